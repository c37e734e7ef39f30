/- longname.Resolve where the number in a field does not parse. -/
import Derived.Test.YtjiokdkgbnakhaaDoorRes
set_option linter.unusedVariables false
set_option linter.unusedSimpArgs false
namespace Go.Proofs.YtjiokdkgbnakhaaDoor.Own
open Go.RowKit Go.Shelf Go.Proofs.YtjiokdkgbnakhaaDoor Go.Proofs.YtjiokdkgbnakhaaDoorW.PrintWords Go.Proofs.YtjiokdkgbnakhaaDoorW.PrintLast Go.Proofs.YtjiokdkgbnakhaaDoorW.PrintMore

/-- what '[]byte(d)' leaves, in the walk's own spelling -/
def bytesW (W : World) (d : ByteArray) : World := (W.alloc (.cells (bytesRow d (grownCap W d.size 0 5)) 5 ((bytesRow d (grownCap W d.size 0 5)).size, (bytesRow d (grownCap W d.size 0 5)).size + 1))).drew
theorem conv_bytes (W : World) (d : ByteArray) : (convert 9 22 (.string d)).run Tryd.prog W = .ok (.slice (some ⟨W.heap.size, 0, none⟩) d.size (grownCap W d.size 0 5)) (bytesW W d) :=
  run_bytes_of_string W 9 22 5 d Tryd.underlying9 Tryd.underlying22 Tryd.underlying5
theorem bytesW_below (W : World) (d : ByteArray) : Below W.heap.size W (bytesW W d) := ((Below.refl _ _).alloc (Nat.le_refl _) _).drew
theorem bytesW_size (W : World) (d : ByteArray) : (bytesW W d).heap.size = W.heap.size + 1 := by simp [bytesW]
theorem bytesW_reads (W : World) (d : ByteArray) (hd : d.size ≤ 9223372036854775807) : (Kd.int .u8).C (bytesW W d) (some ⟨W.heap.size, 0, none⟩) (bytesOf d).length (bytesOf d) := by
  refine Kd.C_of_reads (enc := Value.int .u8) (d := (0 : Int)) (h1 := fun _ => rfl) ⟨rfl, by rw [bytesOf_length]; exact hd, fun _ => ⟨_, rfl, fun j hj => ?_⟩⟩
  rw [bytesOf_length] at hj
  have hx : (bytesW W d).heap[W.heap.size]? = some (.cells (bytesRow d (grownCap W d.size 0 5)) 5 ((bytesRow d (grownCap W d.size 0 5)).size, (bytesRow d (grownCap W d.size 0 5)).size + 1)) := World.alloc_heap_new W _
  rw [cell_add_row hx]
  have hj2 : j < d.data.size := hj
  unfold bytesRow
  rw [Array.getElem?_append_left (by simpa using hj2)]
  simp [bytesOf, Array.getElem?_eq_getElem hj2]
theorem isBytes_bytesOf (d : ByteArray) : ∀ x ∈ bytesOf d, 0 ≤ x ∧ x < 256 := by
  intro x hx
  simp only [bytesOf, List.mem_map] at hx
  obtain ⟨b, _, rfl⟩ := hx
  have := UInt8.toNat_lt b
  omega
theorem cap_ge (W : World) (d : ByteArray) : d.size ≤ grownCap W d.size 0 5 := by
  exact grownCap_ge W d.size 0 5

set_option maxRecDepth 100000 in
theorem parse_empty (A : Option Addr) (c : Nat) (w : World) (base : Int) (hb : base = 8 ∨ base = 10) :
    Calls Tryd.prog 41 #[.slice A 0 c, .int .i64 base] w fun e w' => e = .returned (.tuple #[.int .i64 0, .int .i64 13]) ∧ ∃ n, w' = w.drewN n := by
  have HBS := Lib.hid hb
  clear hb
  go_enter Tryd.func41, Tryd.ntmps41
  go_wp2
  go_step3
  go_wp2_with (go_at_call 61; refine (based_calls base HBS.out _).mono ?_; rintro e w' ⟨rfl, q0, rfl⟩)
  (try simp only [Exit.noGoto_ret, Exit.inBlock, Exit.then])
  go_ret2
  exact ⟨rfl, q0, rfl⟩

theorem parse_str (d : ByteArray) (h15 : d.size ≤ 18) (W : World) :
    Calls Tryd.prog 41 #[.slice (some ⟨W.heap.size, 0, none⟩) d.size (grownCap W d.size 0 5), .int .i64 10] (bytesW W d) fun e w' => e = .returned (.tuple #[.int .i64 (parseV (bytesOf d) 10).1, .int .i64 (parseV (bytesOf d) 10).2]) ∧ Below W.heap.size W w' ∧ w'.heap.size = W.heap.size + 1 := by
  have hlen := bytesOf_length d
  by_cases h0 : d.size = 0
  · have hv : parseV (bytesOf d) 10 = (0, 13) := by unfold parseV; rw [if_pos (.inl (by omega))]
    rw [hv, h0]
    refine (parse_empty _ _ _ 10 (.inr rfl)).mono ?_
    rintro e w' ⟨rfl, n, rfl⟩
    exact ⟨rfl, (bytesW_below W d).trans ⟨rfl, rfl, rfl, Nat.le_refl _, fun _ _ => rfl⟩, bytesW_size W d⟩
  · have := parse_in (some ⟨W.heap.size, 0, none⟩) (grownCap W d.size 0 5) (bytesOf d) (bytesW W d) (bytesW_reads W d (by omega)) (by rw [hlen]; exact cap_ge W d) (by omega) (by omega) (isBytes_bytesOf d) 10 (.inr rfl)
    rw [hlen] at this
    refine this.mono ?_
    rintro e w' ⟨rfl, n, rfl⟩
    exact ⟨rfl, (bytesW_below W d).trans ⟨rfl, rfl, rfl, Nat.le_refl _, fun _ _ => rfl⟩, bytesW_size W d⟩


set_option maxRecDepth 100000 in
set_option maxHeartbeats 4000000 in
theorem resolve_bad (field : ByteArray) (hs : field.size ≤ 9223372036854775807) (v1 : Value) (w : World) (hS : hasSuf field = false ∨ (hasSuf field = true ∧ shortB (cutSuf field) = false))
    (hp : hasPre field = true) (hz : (cutPre field).size ≤ 15) (hsp : hasSp (cutPre field) = false) (hbad : (parseV (bytesOf (cutPre field)) 10).2 ≠ 0) :
    Calls Tryd.prog 18 #[.string field, v1] w fun e w' => e = .returned (.tuple #[.string ⟨#[]⟩, .int .i64 6]) ∧ Below w.heap.size w w' := by
  obtain ⟨d, hd⟩ : ∃ d, cutPre field = d := ⟨_, rfl⟩
  rw [hd] at hz hsp hbad
  have hcp : ∀ W : World, Calls Tryd.prog 39 #[.string field, .string ⟨#[47]⟩] W fun e w' => e = .returned (.tuple #[.string d, .bool true]) ∧ W = w' := fun W => by have := cutPre_calls field W; rwa [hd, hp] at this
  have HCP := Lib.hid hcp
  have HPS := Lib.hid (parse_str d (by omega))
  clear hcp hd hp
  obtain ⟨n, hn⟩ : ∃ n, (parseV (bytesOf d) 10).1 = n := ⟨_, rfl⟩
  obtain ⟨y, hy⟩ : ∃ y, (parseV (bytesOf d) 10).2 = y := ⟨_, rfl⟩
  rw [hn, hy] at HPS
  rw [hy] at hbad
  have hyb : (y != 0) = true := bne_iff_ne.2 hbad
  clear hbad hn hy
  have kc := conv_bytes
  rcases hS with h1 | ⟨h1, h2⟩
  · have hp := HPS.out ((w.alloc (.cells #[.string ⟨#[]⟩] 9)).alloc (.cells #[.int .i64 0] 25))
    simp only [World.size_alloc] at hp
    have HP1 := Lib.hid hp
    clear hp
    go_enter Tryd.func18, Tryd.ntmps18
    go_wp2_with (first
        | (go_at_call 38; refine (cutSuf_calls _ hs _).mono ?_; rintro e w' ⟨rfl, rfl⟩)
        | (go_at_call 39; refine (HCP.out _).mono ?_; rintro e w' ⟨rfl, rfl⟩)
        | (go_at_call 40; refine (hasSp_calls _ _).mono ?_; rintro e w' ⟨rfl, rfl⟩)
        | (go_at_call 41; refine HP1.out.mono ?_; rintro e W ⟨rfl, hb0, hsz⟩; have hb : Below ((w.alloc (.cells #[.string ⟨#[]⟩] 9)).alloc (.cells #[.int .i64 0] 25)).heap.size ((w.alloc (.cells #[.string ⟨#[]⟩] 9)).alloc (.cells #[.int .i64 0] 25)) W := (by simp only [World.size_alloc]; exact hb0); have hb2 : Below ((w.alloc (.cells #[.string ⟨#[]⟩] 9)).alloc (.cells #[.int .i64 0] 25)).heap.size ((w.alloc (.cells #[.string ⟨#[]⟩] 9)).alloc (.cells #[.int .i64 0] 25)) (W.alloc (.cells #[.int .i64 n] 3)) := hb.alloc hb.size _; have c0 := (Boxed.go (two_boxes w).1 hb2).cell; have f0 := (Boxed.go (two_boxes w).1 hb2).frozen; have c1 := (Boxed.go (two_boxes w).2 hb2).cell; have f1 := (Boxed.go (two_boxes w).2 hb2).frozen; have HB := Lib.hid hb2; clear hb hb0 hb2 hsz))
    obtain ⟨e0, e1, hB⟩ := res_none w _ HB.out ⟨#[]⟩ 6
    refine bodyPost_ret (v := .tuple #[.string ⟨#[]⟩, .int .i64 6]) ?_ rfl ⟨rfl, hB⟩
    simp [results, Tryd.f18, go_sem, e0, e1]
  · go_enter Tryd.func18, Tryd.ntmps18
    go_wp2_with (first
        | (go_at_call 38; refine (cutSuf_calls _ hs _).mono ?_; rintro e w' ⟨rfl, rfl⟩)
        | (go_at_call 36; refine (short_calls _ _).mono ?_; rintro e W1 ⟨rfl, hb⟩; have HB1 := Lib.hid hb; clear hb; have HP1 := Lib.hid (HPS.out W1))
        | (go_at_call 39; refine (HCP.out _).mono ?_; rintro e w' ⟨rfl, rfl⟩)
        | (go_at_call 40; refine (hasSp_calls _ _).mono ?_; rintro e w' ⟨rfl, rfl⟩)
        | (go_at_call 41; refine HP1.out.mono ?_; rintro e W ⟨rfl, hb0, hsz⟩; have hb : Below ((w.alloc (.cells #[.string ⟨#[]⟩] 9)).alloc (.cells #[.int .i64 0] 25)).heap.size ((w.alloc (.cells #[.string ⟨#[]⟩] 9)).alloc (.cells #[.int .i64 0] 25)) W := HB1.out.trans (hb0.mono HB1.out.size); have hb2 : Below ((w.alloc (.cells #[.string ⟨#[]⟩] 9)).alloc (.cells #[.int .i64 0] 25)).heap.size ((w.alloc (.cells #[.string ⟨#[]⟩] 9)).alloc (.cells #[.int .i64 0] 25)) (W.alloc (.cells #[.int .i64 n] 3)) := hb.alloc hb.size _; have c0 := (Boxed.go (two_boxes w).1 hb2).cell; have f0 := (Boxed.go (two_boxes w).1 hb2).frozen; have c1 := (Boxed.go (two_boxes w).2 hb2).cell; have f1 := (Boxed.go (two_boxes w).2 hb2).frozen; have HB := Lib.hid hb2; clear hb hb0 hb2 hsz))
    obtain ⟨e0, e1, hB⟩ := res_none w _ HB.out ⟨#[]⟩ 6
    refine bodyPost_ret (v := .tuple #[.string ⟨#[]⟩, .int .i64 6]) ?_ rfl ⟨rfl, hB⟩
    simp [results, Tryd.f18, go_sem, e0, e1]

end Go.Proofs.YtjiokdkgbnakhaaDoor.Own
