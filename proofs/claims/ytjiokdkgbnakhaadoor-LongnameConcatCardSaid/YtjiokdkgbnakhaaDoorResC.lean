/- longname.Resolve where the number in a field parses: its loop over the lines. -/
import Derived.Test.YtjiokdkgbnakhaaDoorResB
set_option linter.unusedVariables false
set_option linter.unusedSimpArgs false
namespace Go.Proofs.YtjiokdkgbnakhaaDoor.Own
open Go.RowKit Go.Shelf Go.Proofs.YtjiokdkgbnakhaaDoor Go.Proofs.YtjiokdkgbnakhaaDoorW.PrintWords Go.Proofs.YtjiokdkgbnakhaaDoorW.PrintLast Go.Proofs.YtjiokdkgbnakhaaDoorW.PrintMore

attribute [local go_sem] Oper.semAt_some

theorem findLine_none {n : Int} {ls : List (Nat × ByteArray)} (h : ∀ x ∈ ls, (x.1 : Int) ≠ n) : findLine n ls = (⟨#[]⟩, 6) := by
  unfold findLine
  rw [List.find?_eq_none.2 (fun x hx => by simpa using h x hx)]
theorem findLine_some {n : Int} {ini suf : List (Nat × ByteArray)} {x : Nat × ByteArray} (h : ∀ y ∈ ini, (y.1 : Int) ≠ n) (hx : (x.1 : Int) = n) : findLine n (ini ++ [x] ++ suf) = (x.2, 0) := by
  unfold findLine
  rw [List.append_assoc, List.find?_append, List.find?_eq_none.2 (fun y hy => by simpa using h y hy)]
  simp [hx]
/-- the world in which the loop over the lines begins -/
structure ResW (w W0 : World) (B : Nat) (Nb : Nat) (n : Int) (T : Value) : Prop where
  b0 : Boxed W0 B 9 (.string ⟨#[]⟩)
  b1 : Boxed W0 (B + 1) 25 (.int .i64 0)
  bn : Boxed W0 Nb 3 (.int .i64 n)
  bt : Boxed W0 (Nb + 1) 22 T
  below : Below B w W0
  lo : B + 1 < Nb
  sz : W0.heap.size = Nb + 2
theorem resW (w W : World) (n : Int) (T : Value) (hb : Below ((w.alloc (.cells #[.string ⟨#[]⟩] 9)).alloc (.cells #[.int .i64 0] 25)).heap.size ((w.alloc (.cells #[.string ⟨#[]⟩] 9)).alloc (.cells #[.int .i64 0] 25)) W) :
    ResW w ((W.alloc (.cells #[.int .i64 n] 3)).alloc (.cells #[T] 22)) w.heap.size W.heap.size n T := by
  obtain ⟨c0, c1⟩ := two_boxes w
  have hs := hb.size
  simp only [World.size_alloc] at hs
  have bT := Boxed.new (W.alloc (.cells #[.int .i64 n] 3)) 22 T
  rw [World.size_alloc] at bT
  refine ⟨((Boxed.go c0 hb).alloc _).alloc _, ((Boxed.go c1 hb).alloc _).alloc _, (Boxed.new W _ _).alloc _, bT, ?_, by omega, by simp⟩
  exact (((((Below.refl _ w).alloc (Nat.le_refl _) _).alloc (by simp) _).trans (hb.mono (by simp; omega))).alloc (by omega) _).alloc (by simp; omega) _

set_option maxRecDepth 100000 in
set_option maxHeartbeats 4000000 in
theorem resolve_loop1 (field : ByteArray) (hs : field.size ≤ 9223372036854775807) (A : Option Addr) (c : Nat) (xs : List Int) (w : World) (hr : (Kd.int .u8).C w A xs.length xs) (hlen : xs.length ≤ c) (hM : Gmaxlen w) (hx4 : xs.length < 4294967281) (hby : ∀ x ∈ xs, 0 ≤ x ∧ x < 256)
    (h1 : hasSuf field = false)
    (hp : hasPre field = true) (hz : (cutPre field).size ≤ 15) (hsp : hasSp (cutPre field) = false) (n : Int) (hn : parseV (bytesOf (cutPre field)) 10 = (n, 0)) :
    CallsIn Fence.wide 4 Tryd.prog 18 #[.string field, .slice A xs.length c] w fun e w' => e = .returned (.tuple #[.string (findLine n (linesOf xs)).1, .int .i64 (findLine n (linesOf xs)).2]) ∧ Below w.heap.size w w' := by
  have HR := Lib.hid hr
  have HM := Lib.hid hM
  have HBY := Lib.hid hby
  obtain ⟨d, hd⟩ : ∃ d, cutPre field = d := ⟨_, rfl⟩
  rw [hd] at hz hsp hn
  have hcp : ∀ W : World, Calls Tryd.prog 39 #[.string field, .string ⟨#[47]⟩] W fun e w' => e = .returned (.tuple #[.string d, .bool true]) ∧ W = w' := fun W => by have := cutPre_calls field W; rwa [hd, hp] at this
  have HCP := Lib.hid hcp
  have HPS := Lib.hid (parse_str d (by omega))
  rw [hn] at HPS
  clear hcp hd hp hn hr hM hby
  have kc := conv_bytes
  have hpp := HPS.out ((w.alloc (.cells #[.string ⟨#[]⟩] 9)).alloc (.cells #[.int .i64 0] 25))
  simp only [World.size_alloc] at hpp
  have HP1 := Lib.hid hpp
  clear hpp
  refine callsIn_of_wp_marks Tryd.func18 rfl trivial ?_ rfl
  simp only [Tryd.ntmps18, List.size_toArray, List.length_cons, List.length_nil, Nat.reduceAdd, Nat.reduceSub, Array.replicate_succ, Array.replicate_zero, List.push_toArray, List.append_toArray, List.nil_append, List.cons_append]
  gi_wp2_with (first
    | (refine ⟨trivial, ?_⟩; gi_at_call 38; refine (callsIn_wide.2 (cutSuf_calls _ hs _)).mono ?_; rintro e w' ⟨rfl, rfl⟩)
    | (refine ⟨trivial, ?_⟩; gi_at_call 39; refine (callsIn_wide.2 (HCP.out _)).mono ?_; rintro e w' ⟨rfl, rfl⟩)
    | (refine ⟨trivial, ?_⟩; gi_at_call 40; refine (callsIn_wide.2 (hasSp_calls _ _)).mono ?_; rintro e w' ⟨rfl, rfl⟩)
    | (refine ⟨trivial, ?_⟩; gi_at_call 41; refine (callsIn_wide.2 HP1.out).mono ?_; rintro e W ⟨rfl, hb0, hsz⟩; have HB := Lib.hid (And.intro hb0 hsz); clear hb0 hsz)
    | (refine ⟨trivial, ?_⟩; gi_at_call 37; refine (callsIn_wide.2 (lines_in _ _ _ _)).mono ?_; rintro e w' ⟨rfl, rfl⟩)
    | (refine ⟨trivial, ?_⟩))
  have hres := resW w W n (.slice A xs.length c) (by simp only [World.size_alloc]; exact HB.out.1)
  obtain ⟨v43, hv43⟩ : ∃ v, Value.slice (some ⟨w.heap.size + 1 + 1, 0, none⟩) d.size (grownCap ((w.alloc (.cells #[.string ⟨#[]⟩] 9)).alloc (.cells #[.int .i64 0] 25)) d.size 0 5) = v := ⟨_, rfl⟩
  rw [hv43]
  clear hv43
  obtain ⟨W0, hW0⟩ : ∃ W0, (W.alloc (.cells #[.int .i64 n] 3)).alloc (.cells #[.slice A xs.length c] 22) = W0 := ⟨_, rfl⟩
  rw [hW0] at hres
  rw [hW0]
  obtain ⟨B, hB⟩ : ∃ B, w.heap.size = B := ⟨_, rfl⟩
  rw [hB] at hres
  rw [hB]
  obtain ⟨b0, b1, bn, bt, hbel, hlo, hsz⟩ := hres
  have HBq := Lib.hid hB
  clear hW0 kc HP1 HPS
  refine wpIn_rangeFunc_ownG rfl (by omega) (gf := 56) (lb := #[.pointer (some ⟨W.heap.size + 1, 0, none⟩)]) rfl trivial (enters_of Tryd.func56 (by kernel_rfl) rfl)
    (lines_stops (W.heap.size + 1) B A c xs hlen hx4 HBY.out W0 (by omega) bt (fun W' hb => Kd.C_below HR.out ((hB ▸ hbel).trans (hB ▸ hb))) (fun W' hb => HM.out.below ((hB ▸ hbel).trans (hB ▸ hb)))) KpT_t (KpT_b (by omega)) (Below.refl _ _) (fun _ => rfl)
    (fun pre W' => (((∀ y ∈ pre, (y.1 : Int) ≠ n) ∧ Boxed W' B 9 (.string ⟨#[]⟩)) ∧ (Boxed W' (B + 1) 25 (.int .i64 0) ∧ Boxed W' W.heap.size 3 (.int .i64 n))) ∧ Below B w W')
    (fun cd pre W' => ((cd = .ret ∧ ∃ ini last, pre = ini ++ [last] ∧ (∀ y ∈ ini, (y.1 : Int) ≠ n) ∧ (last.1 : Int) = n ∧ Boxed W' B 9 (.string last.2)) ∧ Boxed W' (B + 1) 25 (.int .i64 0)) ∧ Below B w W')
    (OwnFrom.and (OwnFrom.and (OwnFrom.and (ownFrom_pure _ _) (Own.from (boxed_own _ _ _) _)) (OwnFrom.and (Own.from (boxed_own _ _ _) _) (Own.from (boxed_own _ _ _) _))) (ownFrom_below (by omega) (by omega)))
    (fun cd => OwnFrom.and (OwnFrom.and (Own.from (fun s X Y row hs hg hrow => by
      obtain ⟨hc, ini, last, e1, e2, e3, e4⟩ := hs
      exact ⟨hc, ini, last, e1, e2, e3, boxed_own B 9 (fun _ : Unit => .string last.2) () X Y row e4 hg hrow⟩) _) (Own.from (boxed_own _ _ _) _)) (ownFrom_below (by omega) (by omega)))
    ⟨⟨⟨(fun y hy => by cases hy), b0⟩, b1, bn⟩, hbel⟩
    (fun x => { tmps := #[.string field, .slice A xs.length c, undef, undef, .pointer (some ⟨B, 0, none⟩), .pointer (some ⟨B + 1, 0, none⟩), .string (cutSuf field), .bool false, .string d, .bool true, .pointer (some ⟨W.heap.size, 0, none⟩), .int .i64 0, .int .i64 (x.1 : Int), .string x.2, .tuple #[.string (cutSuf field), .bool false], .string field, .tuple #[.string (cutSuf field), .bool false], .string (cutSuf field), .bool false, .bool false, .bool false, undef, undef, .bool false, undef, .tuple #[.string d, .bool true], .string field, .tuple #[.string d, .bool true], .string d, .bool true, .bool true, .bool false, .bool false, .string d, .int .i64 (d.size : Int), .bool (decide ((15 : Int) < (d.size : Int))), .bool (decide ((15 : Int) < (d.size : Int))), .bool (decide ((15 : Int) < (d.size : Int))), .string d, .bool false, .bool (decide ((15 : Int) < (d.size : Int))), .tuple #[.int .i64 n, .int .i64 0], .string d, v43, .tuple #[.int .i64 n, .int .i64 0], .int .i64 n, .int .i64 0, .int .i64 0, .bool false, .slice A xs.length c, .func (.func 56) #[] #[.pointer (some ⟨W.heap.size + 1, 0, none⟩)], .int .i64 (x.1 : Int), .string x.2, undef, undef, undef, undef], defers := [] }) ?assign ?body ?done ?stop
  case assign =>
    intro l x W K hK
    gi_wp2
    exact hK
  case body =>
    rintro l pre x W2 ⟨⟨⟨hne, hb0⟩, hb1, hbn⟩, hBW⟩ hlt
    have hcn := hbn.cell
    have hc0 := hb0.cell
    have hf0 := hb0.frozen
    have hc1 := hb1.cell
    have hf1 := hb1.frozen
    have HI := Lib.hid (And.intro hne (And.intro hb0 (And.intro hb1 (And.intro hbn hBW))))
    clear hne hb0 hb1 hbn hBW b0 b1 bn bt hbel hB
    by_cases hx : (x.1 : Int) = n
    · have hxb : ((x.1 : Int) == n) = true := beq_iff_eq.2 hx
      have HX := Lib.hid hx
      clear hx
      gi_wp2
      obtain ⟨hne, hb0, hb1, hbn, hBW⟩ := HI.out
      refine ⟨((KeepsOthers.setCell _ _ _).from _).trans ((KeepsOthers.setCell _ _ _).from _), ⟨⟨rfl, pre, x, rfl, hne, HX.out, (hb0.set _).other (by omega) _⟩, (hb1.other (by omega) _).set _⟩, ?_⟩
      exact (hBW.setCell (p := ⟨B, 0, none⟩) (Nat.le_refl _) _).setCell (p := ⟨B + 1, 0, none⟩) (Nat.le_succ _) _
    · have hxb : ((x.1 : Int) == n) = false := beq_eq_false_iff_ne.2 hx
      have HX := Lib.hid hx
      clear hx
      gi_wp2
      obtain ⟨hne, hb0, hb1, hbn, hBW⟩ := HI.out
      exact ⟨KeepsFrom.refl _ _, KpT_refl _ _ _ _ _, ⟨⟨fun y hy => (List.mem_append.1 hy).elim (hne y) (fun e => by rw [List.mem_singleton.1 e]; exact HX.out), hb0⟩, hb1, hbn⟩, hBW⟩
  case done =>
    rintro D ys W2 hD rfl ⟨⟨⟨hne, hb0⟩, hb1, hbn⟩, hBW⟩ hK
    have hc0 := hb0.cell
    have hf0 := hb0.frozen
    have hc1 := hb1.cell
    have hf1 := hb1.frozen
    have HI := Lib.hid (And.intro hne (And.intro hb0 (And.intro hb1 (And.intro hBW hK))))
    clear hne hb0 hb1 hbn hBW b0 b1 bn bt hbel hB hK
    gi_wp2
    obtain ⟨hne, hb0, hb1, hBW, hK⟩ := HI.out
    obtain ⟨X, hX⟩ : ∃ X, (W2.setCell ⟨B, 0, none⟩ (.string ⟨#[]⟩)).setCell ⟨B + 1, 0, none⟩ (.int .i64 6) = X := ⟨_, rfl⟩
    have hK' : X.heap[D]? = some (.deferred (some [])) := by
      rw [← hX]
      exact (KeepsOthers.setCell _ ⟨B + 1, 0, none⟩ (.int .i64 6)).same D _ ((KeepsOthers.setCell W2 ⟨B, 0, none⟩ (.string ⟨#[]⟩)).same D _ hK rfl) rfl
    have x0 : Boxed X B 9 (.string ⟨#[]⟩) := by rw [← hX]; exact (hb0.set _).other (by omega) _
    have x1 : Boxed X (B + 1) 25 (.int .i64 6) := by rw [← hX]; exact (hb1.other (by omega) _).set _
    have xB : Below B w X := by rw [← hX]; exact (hBW.setCell (p := ⟨B, 0, none⟩) (Nat.le_refl _) _).setCell (p := ⟨B + 1, 0, none⟩) (Nat.le_succ _) _
    rw [hX]
    refine ⟨by simp, .inl ⟨_, _, rfl, run_takeDeferred hK', ?_⟩⟩
    have e0 := cell_kept x0.cell (grownBy_putObj' _ D (.deferred none)) (fun r e => by cases e; exact ⟨_, hK', rfl⟩)
    have e1 := cell_kept x1.cell (grownBy_putObj' _ D (.deferred none)) (fun r e => by cases e; exact ⟨_, hK', rfl⟩)
    refine ⟨_, by simp [results, Tryd.f18, go_sem, e0, e1]; rfl, ?_⟩
    have hB2 := HBq.out
    rw [findLine_none hne, hB2]
    exact ⟨rfl, xB.trans (belowK_b (w := w) (by omega) X D _ _ (by omega) hK' rfl rfl)⟩
  case stop =>
    rintro D cd pre W2 hD hpre ⟨⟨⟨rfl, ini, last, rfl, hne, hlast, hb0⟩, hb1⟩, hBW⟩ hK
    have HI := Lib.hid (And.intro hne (And.intro hb0 (And.intro hb1 (And.intro hBW (And.intro hK hlast)))))
    clear hne hb0 hb1 hBW b0 b1 bn bt hbel hB hK hlast
    gi_wp2
    obtain ⟨hne, hb0, hb1, hBW, hK, hlast⟩ := HI.out
    refine ⟨by simp, .inl ⟨_, _, rfl, run_takeDeferred hK, ?_⟩⟩
    have e0 := cell_kept hb0.cell (grownBy_putObj' _ D (.deferred none)) (fun r e => by cases e; exact ⟨_, hK, rfl⟩)
    have e1 := cell_kept hb1.cell (grownBy_putObj' _ D (.deferred none)) (fun r e => by cases e; exact ⟨_, hK, rfl⟩)
    refine ⟨_, by simp [results, Tryd.f18, go_sem, e0, e1]; rfl, ?_⟩
    have hB2 := HBq.out
    obtain ⟨suf, hs2⟩ := hpre
    rw [← hs2, findLine_some hne hlast, hB2]
    exact ⟨rfl, hBW.trans (belowK_b (w := w) (by omega) W2 D _ _ (by omega) hK rfl rfl)⟩

end Go.Proofs.YtjiokdkgbnakhaaDoor.Own
