/- longname.Entries, walked over every table of bytes shorter than 4294967281: its names, or the error ErrTable. -/
import Derived.Test.YtjiokdkgbnakhaaDoorLinesB
set_option linter.unusedVariables false
set_option linter.unusedSimpArgs false
namespace Go.Proofs.YtjiokdkgbnakhaaDoor.Own
open Go.RowKit Go.Shelf Go.Proofs.YtjiokdkgbnakhaaDoor Go.Proofs.YtjiokdkgbnakhaaDoorW.PrintWords Go.Proofs.YtjiokdkgbnakhaaDoorW.PrintLast Go.Proofs.YtjiokdkgbnakhaaDoorW.PrintMore

attribute [local go_sem] Oper.semAt_some

def outsOf (pre : List (Nat × ByteArray)) : List ByteArray := pre.map (·.2)
theorem outsOf_snoc (pre : List (Nat × ByteArray)) (x : Nat × ByteArray) : outsOf (pre ++ [x]) = outsOf pre ++ [x.2] := by simp [outsOf]

theorem keepsFrom_below {B : Nat} {W W' : World} (hb : Below W.heap.size W W') : KeepsFrom B W W' := ⟨hb.size, fun k _ _ hk _ => (hb.block k (Array.getElem?_eq_some_iff.1 hk).1).trans hk⟩
theorem Boxed.go {W W' : World} {B : Nat} {t : TypeId} {v : Value} (h : Boxed W B t v) (hb : Below W.heap.size W W') : Boxed W' B t v := (hb.block B h.lt).trans h
/-- another variable, behind an append to one and the store into its box -/
theorem Boxed.past {W w1 : World} {B B' : Nat} {t' e n₀ : Nat} {size : Nat} {u v v' : Value} {k : Nat} {xs : List Value} {tmp : Obj}
    (h : Boxed W B' t' u) (hte : t' ≠ e) (hrow : W.ownsRow n₀ e size v k xs) (hgrow : (W.alloc tmp).grownBy w1 v.ownBlock) (hne : B' ≠ B) : Boxed (w1.setCell ⟨B, 0, none⟩ v') B' t' u :=
  ((h.alloc tmp).kept hgrow (h.not_row hte hrow)).other hne v'
theorem ownsRow_go {W W' : World} {base e size k : Nat} {v : Value} {xs : List Value} (h : W.ownsRow base e size v k xs) (hb : Below W.heap.size W W') : W'.ownsRow base e size v k xs := pw_own_below h hb

set_option maxRecDepth 100000 in
set_option maxHeartbeats 4000000 in
theorem entries_in (A : Option Addr) (c : Nat) (xs : List Int) (w : World) (hr : (Kd.int .u8).C w A xs.length xs) (hlen : xs.length ≤ c) (hM : Gmaxlen w) (hx4 : xs.length < 4294967281) (hby : ∀ x ∈ xs, 0 ≤ x ∧ x < 256) :
    CallsIn Fence.wide 4 Tryd.prog 13 #[.slice A xs.length c] w fun e w' => ∃ v0_ : Value, e = .returned (.tuple #[v0_, .int .i64 (entriesV xs).2]) ∧ Kd.R Kd.string 9 w' w.heap.size (fun _ => True) v0_ (entriesV xs).1 ∧ Below w.heap.size w w' := by
  obtain ⟨i0, hi, hz0, hz1, hz2⟩ := info_parts K.info9
  have HR := Lib.hid hr
  have HM := Lib.hid hM
  have HBY := Lib.hid hby
  clear hr hM hby
  refine callsIn_of_wp_marks Tryd.func13 rfl trivial ?_ rfl
  simp only [Tryd.ntmps13, List.size_toArray, List.length_cons, List.length_nil, Nat.reduceAdd, Nat.reduceSub, Array.replicate_succ, Array.replicate_zero, List.push_toArray, List.append_toArray, List.nil_append, List.cons_append]
  gi_wp2_with (refine ⟨trivial, ?_⟩; gi_at_call 37; refine (callsIn_wide.2 (lines_in _ _ _ _)).mono ?_; rintro e w' ⟨rfl, rfl⟩)
  obtain ⟨B, hB⟩ : ∃ B, w.heap.size = B := ⟨_, rfl⟩
  obtain ⟨W0, hW0⟩ : ∃ W0, (((w.alloc (.cells #[.slice none 0 0] 24)).alloc (.cells #[.int .i64 0] 25)).alloc (.cells #[.slice none 0 0] 24)).alloc (.cells #[.slice A xs.length c] 22) = W0 := ⟨_, rfl⟩
  have hs0 : W0.heap.size = B + 4 := by rw [← hW0]; simp; omega
  have b0 : Boxed W0 B 24 (.slice none 0 0) := by rw [← hW0, ← hB]; exact (((Boxed.new w _ _).alloc _).alloc _).alloc _
  have b1 : Boxed W0 (B + 1) 25 (.int .i64 0) := by
    have := Boxed.new (w.alloc (.cells #[.slice none 0 0] 24)) 25 (.int .i64 0)
    rw [World.size_alloc, hB] at this
    rw [← hW0]; exact (this.alloc _).alloc _
  have b2 : Boxed W0 (B + 2) 24 (.slice none 0 0) := by
    have := Boxed.new ((w.alloc (.cells #[.slice none 0 0] 24)).alloc (.cells #[.int .i64 0] 25)) 24 (.slice none 0 0)
    rw [World.size_alloc, World.size_alloc, hB] at this
    rw [← hW0]; exact this.alloc _
  have b3 : Boxed W0 (B + 3) 22 (.slice A xs.length c) := by
    have := Boxed.new (((w.alloc (.cells #[.slice none 0 0] 24)).alloc (.cells #[.int .i64 0] 25)).alloc (.cells #[.slice none 0 0] 24)) 22 (.slice A xs.length c)
    rw [World.size_alloc, World.size_alloc, World.size_alloc, hB] at this
    rw [← hW0]; exact this
  have hBel : Below B w W0 := by
    rw [← hW0]
    exact ((((Below.refl B w).alloc (by omega) _).alloc (by simp; omega) _).alloc (by simp; omega) _).alloc (by simp; omega) _
  rw [hW0, hB]
  have HW0 := Lib.hid hW0
  have HB := Lib.hid hB
  have HBel := Lib.hid hBel
  clear hW0
  have hlens : (linesOf xs).length ≤ xs.length := by have := linesF_len (xs.length + 1) xs 0; unfold linesOf; omega
  refine wpIn_rangeFunc_ownG rfl (by omega) (gf := 56) (lb := #[.pointer (some ⟨B + 3, 0, none⟩)]) rfl trivial (enters_of Tryd.func56 (by kernel_rfl) rfl)
    (lines_stops (B + 3) B A c xs hlen hx4 HBY.out W0 (by omega) b3 (fun W' hb => Kd.C_below HR.out ((hB ▸ hBel).trans (hB ▸ hb))) (fun W' hb => HM.out.below ((hB ▸ hBel).trans (hB ▸ hb)))) KpT_t (KpT_b (by omega)) (Below.refl _ _) (fun _ => rfl)
    (fun pre W => ((pre.all (fun x => validB x.2) = true ∧ Boxed W B 24 (.slice none 0 0)) ∧ (Boxed W (B + 1) 25 (.int .i64 0) ∧ Boxed W (B + 3) 22 (.slice A xs.length c)) ∧ ∃ v, Boxed W (B + 2) 24 v ∧ W.ownsRow B 9 1 v (outsOf pre).length ((outsOf pre).map Value.string) ∧ True) ∧ Below B w W)
    (fun cd pre W => ((cd = .ret ∧ pre.all (fun x => validB x.2) = false) ∧ Boxed W B 24 (.slice none 0 0) ∧ Boxed W (B + 1) 25 (.int .i64 7)) ∧ Below B w W)
    (OwnFrom.and (OwnFrom.and (OwnFrom.and (ownFrom_pure _ _) (Own.from (boxed_own _ _ _) _)) (OwnFrom.and (OwnFrom.and (Own.from (boxed_own _ _ _) _) (Own.from (boxed_own _ _ _) _)) (Own.from (holdsRow_own B (B + 2) 24 9 1 (fun pre => (outsOf pre).length) (fun pre => (outsOf pre).map Value.string) (fun _ _ => True)) _))) (ownFrom_below (by omega) (by omega)))
    (fun cd => OwnFrom.and (OwnFrom.and (ownFrom_pure _ _) (OwnFrom.and (Own.from (boxed_own _ _ _) _) (Own.from (boxed_own _ _ _) _))) (ownFrom_below (by omega) (by omega)))
    ⟨⟨⟨by rfl, b0⟩, ⟨b1, b3⟩, _, b2, World.ownsRow_nil _ _ _ _, trivial⟩, hBel⟩
    (fun x => { tmps := #[.slice A xs.length c, undef, .pointer (some ⟨B, 0, none⟩), .pointer (some ⟨B + 1, 0, none⟩), .pointer (some ⟨B + 2, 0, none⟩), undef, .string x.2, .slice A xs.length c, .func (.func 56) #[] #[.pointer (some ⟨B + 3, 0, none⟩)], .int .i64 (x.1 : Int), .string x.2, undef, undef, undef, undef, undef, undef, undef, undef], defers := [] }) ?assign ?body ?done ?stop
  case assign =>
    intro l x W K hK
    gi_wp2
    exact hK
  case body =>
    rintro l pre x W ⟨⟨⟨hval, hb0⟩, ⟨hb1, hb3⟩, v, hv, hrow, _⟩, hBW⟩ hlt
    have hol : (outsOf pre).length ≤ 4294967281 := by simp [outsOf]; omega
    have HI := Lib.hid (And.intro hval (And.intro hb0 (And.intro hb1 (And.intro hb3 (And.intro hv (And.intro hrow hBW))))))
    have hWB : B ≤ W.heap.size := by have := hBW.size; omega
    clear hval hb0 hb1 hb3 hv hrow hBW b0 b1 b2 b3 hBel hB
    cases hx : validB x.2 with
    | false =>
      gi_wp2_with (refine ⟨trivial, ?_⟩; gi_at_call 35; refine (CallsIn.inRound l (callsIn_wide.2 (valid_calls _ _))).mono ?_; rintro e w2 ⟨rfl, hb⟩; have HQ := Lib.hid hb; clear hb; have hc0 := (Boxed.go HI.out.2.1 HQ.out).cell; have hf0 := (Boxed.go HI.out.2.1 HQ.out).frozen; have hc1 := (Boxed.go HI.out.2.2.1 HQ.out).cell; have hf1 := (Boxed.go HI.out.2.2.1 HQ.out).frozen)
      obtain ⟨hval, hb0, hb1, hb3, hv, hrow, hBW⟩ := HI.out
      refine ⟨((keepsFrom_below HQ.out).trans ((KeepsOthers.setCell _ _ _).from _)).trans ((KeepsOthers.setCell _ _ _).from _), ⟨⟨rfl, by rw [List.all_append, hval]; simp [hx]⟩, ((Boxed.go hb0 HQ.out).set _).other (by omega) _, ((Boxed.go hb1 HQ.out).other (by omega) _).set _⟩, ?_⟩
      exact ((hBW.trans (HQ.out.mono hWB)).setCell (p := ⟨B, 0, none⟩) (Nat.le_refl _) _).setCell (p := ⟨B + 1, 0, none⟩) (Nat.le_succ _) _
    | true =>
      gi_wp2_with (first
        | (refine ⟨trivial, ?_⟩; gi_at_call 35; refine (CallsIn.inRound l (callsIn_wide.2 (valid_calls _ _))).mono ?_; rintro e w2 ⟨rfl, hb⟩; have hv2 := Boxed.go HI.out.2.2.2.2.1 hb; have hrow2 := ownsRow_go HI.out.2.2.2.2.2.1 hb; have hsz2 : B ≤ w2.heap.size := Nat.le_trans hWB hb.size; have HQ := Lib.hid hb; clear hb; have hc2 := hv2.cell; have HV := Lib.hid hv2; clear hv2)
        | (gi_at_builtin; refine wpListIn_append_own _ rfl _ _ 24 rfl B 9 i0 (.string ⟨#[]⟩) 1 16 Tryd.underlying24 hi hz0 hz1 hz2 rfl (by decide) _ _ _ rfl (hrow2.alloc _) ⟨w2.heap.size, 0, none⟩ 1 1 [.string x.2] rfl rfl (cell_one_new _ _ _) (by simp [Value.oneCell']) (by unfold maxLen; omega) (by omega) (by simp; omega) ?_; intro v' w1 hown' hgrow _; obtain ⟨g', cap', rfl⟩ := ownsRow_succ hown'; obtain ⟨hv1, hv3, hr3, hk3, hb3'⟩ := HV.out.appended (by decide) hrow2 hsz2 (by omega) hown' hgrow; have hc1 := hv1.cell; have hf1 := hv1.frozen))
      obtain ⟨hval, hb0, hb1, hb3, hv, hrow, hBW⟩ := HI.out
      have hq := HQ.out
      refine ⟨(keepsFrom_below hq).trans (hk3.from _), ⟨(hq.mono hWB).trans hb3', fun e => Boxed.past (Boxed.go e hq) (by decide) hrow2 hgrow (by omega)⟩, ⟨⟨by rw [List.all_append, hval]; simp [hx], Boxed.past (Boxed.go hb0 hq) (by decide) hrow2 hgrow (by omega)⟩, ⟨Boxed.past (Boxed.go hb1 hq) (by decide) hrow2 hgrow (by omega), Boxed.past (Boxed.go hb3 hq) (by decide) hrow2 hgrow (by omega)⟩, _, hv3, by rw [outsOf_snoc, List.length_append, List.map_append]; exact hr3, trivial⟩, (hBW.trans (hq.mono hWB)).trans hb3'⟩
  case done =>
    rintro D ys W hD rfl ⟨⟨⟨hval, hb0⟩, ⟨hb1, hb3⟩, v, hv, hrow, _⟩, hBW⟩ hK
    obtain ⟨A3, c3, rfl⟩ := own_slice hrow
    have hc2 := hv.cell
    have hc0 := hb0.cell
    have hf0 := hb0.frozen
    have hc1 := hb1.cell
    have hf1 := hb1.frozen
    have HI := Lib.hid (And.intro hval (And.intro hb0 (And.intro hb1 (And.intro hv (And.intro hrow hBW)))))
    have HK := Lib.hid hK
    clear hval hb0 hb1 hb3 hv hrow hBW b0 b1 b2 b3 hBel hB hK
    gi_wp2
    obtain ⟨hval, hb0, hb1, hv, hrow, hBW⟩ := HI.out
    obtain ⟨X, hX⟩ : ∃ X, (W.setCell ⟨B, 0, none⟩ (.slice A3 (outsOf (linesOf xs)).length c3)).setCell ⟨B + 1, 0, none⟩ (.int .i64 0) = X := ⟨_, rfl⟩
    have hK' : X.heap[D]? = some (.deferred (some [])) := by
      rw [← hX]
      exact (KeepsOthers.setCell _ ⟨B + 1, 0, none⟩ (.int .i64 0)).same D _ ((KeepsOthers.setCell W ⟨B, 0, none⟩ (.slice A3 (outsOf (linesOf xs)).length c3)).same D _ HK.out rfl) rfl
    have x0 : Boxed X B 24 (.slice A3 (outsOf (linesOf xs)).length c3) := by rw [← hX]; exact (hb0.set _).other (by omega) _
    have x1 : Boxed X (B + 1) 25 (.int .i64 0) := by rw [← hX]; exact (hb1.other (by omega) _).set _
    have xr : X.ownsRow B 9 1 (.slice A3 (outsOf (linesOf xs)).length c3) (outsOf (linesOf xs)).length ((outsOf (linesOf xs)).map Value.string) := by
      rw [← hX]
      refine (hrow.kept (grownBy_setCell' W B _) (.inr (hb0.not_row (by decide) hrow).symm)).kept (grownBy_setCell' _ (B + 1) _) (.inr ?_)
      exact (hb1.not_row (by decide) hrow).symm
    have xB : Below B w X := by rw [← hX]; exact (hBW.setCell (p := ⟨B, 0, none⟩) (Nat.le_refl _) _).setCell (p := ⟨B + 1, 0, none⟩) (Nat.le_succ _) _
    rw [hX]
    refine ⟨by simp, .inl ⟨_, _, rfl, run_takeDeferred hK', ?_⟩⟩
    have e0 := cell_kept x0.cell (grownBy_putObj' _ D (.deferred none)) (fun r e => by cases e; exact ⟨_, hK', rfl⟩)
    have e1 := cell_kept x1.cell (grownBy_putObj' _ D (.deferred none)) (fun r e => by cases e; exact ⟨_, hK', rfl⟩)
    refine ⟨_, by simp [results, Tryd.f13, go_sem, e0, e1]; rfl, ?_⟩
    have hev : entriesV xs = (outsOf (linesOf xs), 0) := by unfold entriesV outsOf; rw [if_pos hval]
    have hB2 := HB.out
    rw [hev, HB.out]
    refine ⟨_, rfl, Kd.R_of_own (h1 := fun _ => rfl) (ownsRow_putObj xr _ hK' rfl) (fun _ _ => trivial), ?_⟩
    exact xB.trans (belowK_b (w := w) (by omega) X D _ _ (by omega) hK' rfl rfl)
  case stop =>
    rintro D cd pre W hD hpre ⟨⟨⟨rfl, hval⟩, hb0, hb1⟩, hBW⟩ hK
    have HI := Lib.hid (And.intro hval (And.intro hb0 (And.intro hb1 (And.intro hBW hK))))
    clear hval hb0 hb1 hBW b0 b1 b2 b3 hBel hB hK
    gi_wp2
    obtain ⟨hval, hb0, hb1, hBW, hK⟩ := HI.out
    refine ⟨by simp, .inl ⟨_, _, rfl, run_takeDeferred hK, ?_⟩⟩
    have e0 := cell_kept hb0.cell (grownBy_putObj' _ D (.deferred none)) (fun r e => by cases e; exact ⟨_, hK, rfl⟩)
    have e1 := cell_kept hb1.cell (grownBy_putObj' _ D (.deferred none)) (fun r e => by cases e; exact ⟨_, hK, rfl⟩)
    refine ⟨_, by simp [results, Tryd.f13, go_sem, e0, e1]; rfl, ?_⟩
    have hev : entriesV xs = ([], 7) := by
      unfold entriesV
      rw [if_neg]
      intro hall
      obtain ⟨suf, hs⟩ := hpre
      rw [← hs, List.all_append, hval] at hall
      simp at hall
    have hB2 := HB.out
    rw [hev, HB.out]
    exact ⟨_, rfl, Kd.R_nil _ _ _ _ _, hBW.trans (belowK_b (w := w) (by omega) W D _ _ (by omega) hK rfl rfl)⟩

theorem longname_Entries.calls (A0 : Option Addr) (c0 : Nat) (l0 : List Int) (r1 : List ByteArray) (r2 : Int) (w : World) (hr0 : Kd.C (Kd.int .u8) w A0 l0.length l0) (hc0 : l0.length ≤ c0) (hG : Gmaxlen w) (h : longname_Entries.f l0 = some (r1, r2)) :
    Calls Tryd.prog 13 #[.slice A0 l0.length c0] w fun e w' => ∃ v0_ : Value, e = .returned (.tuple #[v0_, .int .i64 r2]) ∧ Kd.R Kd.string 9 w' w.heap.size (fun _ => True) v0_ r1 ∧ Below w.heap.size w w' := by
  unfold longname_Entries.f at h
  split at h
  · rename_i hc
    have h2 := entries_in A0 c0 l0 w hr0 hc0 hG hc.2 (isBytes_iff hc.1)
    rw [Option.some.inj h] at h2
    exact callsIn_wide.1 h2
  · cases h

#print axioms longname_Entries.calls
end Go.Proofs.YtjiokdkgbnakhaaDoor.Own
