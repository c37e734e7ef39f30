/- Packed by a program of our own: the texts that the card of this claim needs, part 3 of 7; conditions: those of each theorem. -/
import Derived.Laws.IdiomStrings
import Derived.Outline
import Derived.WalkSpells
import Derived.Test.YtjiokdkgbnakhaaDoorP11
section TEntries
set_option linter.unusedVariables false
set_option linter.unusedSimpArgs false
namespace Go.Proofs.YtjiokdkgbnakhaaDoor.Own
open Go.RowKit Go.Shelf Go.Proofs.YtjiokdkgbnakhaaDoor Go.Proofs.YtjiokdkgbnakhaaDoorW.PrintWords Go.Proofs.YtjiokdkgbnakhaaDoorW.PrintLast Go.Proofs.YtjiokdkgbnakhaaDoorW.PrintMore
attribute [local go_sem] Oper.semAt_some
def outsOf (pre : List (Nat × ByteArray)) : List ByteArray := pre.map (·.2)
theorem outsOf_snoc (pre : List (Nat × ByteArray)) (x : Nat × ByteArray) : outsOf (pre ++ [x]) = outsOf pre ++ [x.2] := by simp [outsOf]
theorem keepsFrom_below {B : Nat} {W W' : World} (hb : Below W.heap.size W W') : KeepsFrom B W W' := ⟨hb.size, fun k _ _ hk _ => (hb.block k (Array.getElem?_eq_some_iff.1 hk).1).trans hk⟩
theorem Boxed.go {W W' : World} {B : Nat} {t : TypeId} {v : Value} (h : Boxed W B t v) (hb : Below W.heap.size W W') : Boxed W' B t v := (hb.block B h.lt).trans h
theorem Boxed.past {W w1 : World} {B B' : Nat} {t' e n₀ : Nat} {size : Nat} {u v v' : Value} {k : Nat} {xs : List Value} {tmp : Obj}
    (h : Boxed W B' t' u) (hte : t' ≠ e) (hrow : W.ownsRow n₀ e size v k xs) (hgrow : (W.alloc tmp).grownBy w1 v.ownBlock) (hne : B' ≠ B) : Boxed (w1.setCell ⟨B, 0, none⟩ v') B' t' u :=
  ((h.alloc tmp).kept hgrow (h.not_row hte hrow)).other hne v'
theorem ownsRow_go {W W' : World} {base e size k : Nat} {v : Value} {xs : List Value} (h : W.ownsRow base e size v k xs) (hb : Below W.heap.size W W') : W'.ownsRow base e size v k xs := pw_own_below h hb
set_option maxRecDepth 100000 in
set_option maxHeartbeats 4000000 in
theorem entries_in (A : Option Addr) (c : Nat) (xs : List Int) (w : World) (hr : (Kd.int .u8).C w A xs.length xs) (hlen : xs.length ≤ c) (hM : Gmaxlen w) (hx4 : xs.length < 4294967281) (hby : ∀ x ∈ xs, 0 ≤ x ∧ x < 256) :
    CallsIn Fence.wide 4 Tryd.prog 13 #[.slice A xs.length c] w fun e w' => ∃ v0_ : Value, e = .returned (.tuple #[v0_, .int .i64 (entriesV xs).2]) ∧ Kd.R Kd.string 9 w' w.heap.size (fun _ => True) v0_ (entriesV xs).1 ∧ Below w.heap.size w w' := by
  obtain ⟨i0, hi, hz0, hz1, hz2⟩ := info_parts K.info9
  have HR := Lib.hid hr
  have HM := Lib.hid hM
  have HBY := Lib.hid hby
  clear hr hM hby
  refine callsIn_of_wp_marks Tryd.func13 rfl trivial ?_ rfl
  simp only [Tryd.ntmps13, List.size_toArray, List.length_cons, List.length_nil, Nat.reduceAdd, Nat.reduceSub, Array.replicate_succ, Array.replicate_zero, List.push_toArray, List.append_toArray, List.nil_append, List.cons_append]
  gi_wp2_with (refine ⟨trivial, ?_⟩; gi_at_call 37; refine (callsIn_wide.2 (lines_in _ _ _ _)).mono ?_; rintro e w' ⟨rfl, rfl⟩)
  obtain ⟨B, hB⟩ : ∃ B, w.heap.size = B := ⟨_, rfl⟩
  obtain ⟨W0, hW0⟩ : ∃ W0, (((w.alloc (.cells #[.slice none 0 0] 24)).alloc (.cells #[.int .i64 0] 25)).alloc (.cells #[.slice none 0 0] 24)).alloc (.cells #[.slice A xs.length c] 22) = W0 := ⟨_, rfl⟩
  have hs0 : W0.heap.size = B + 4 := by rw [← hW0]; simp; omega
  have b0 : Boxed W0 B 24 (.slice none 0 0) := by rw [← hW0, ← hB]; exact (((Boxed.new w _ _).alloc _).alloc _).alloc _
  have b1 : Boxed W0 (B + 1) 25 (.int .i64 0) := by
    have := Boxed.new (w.alloc (.cells #[.slice none 0 0] 24)) 25 (.int .i64 0)
    rw [World.size_alloc, hB] at this
    rw [← hW0]; exact (this.alloc _).alloc _
  have b2 : Boxed W0 (B + 2) 24 (.slice none 0 0) := by
    have := Boxed.new ((w.alloc (.cells #[.slice none 0 0] 24)).alloc (.cells #[.int .i64 0] 25)) 24 (.slice none 0 0)
    rw [World.size_alloc, World.size_alloc, hB] at this
    rw [← hW0]; exact this.alloc _
  have b3 : Boxed W0 (B + 3) 22 (.slice A xs.length c) := by
    have := Boxed.new (((w.alloc (.cells #[.slice none 0 0] 24)).alloc (.cells #[.int .i64 0] 25)).alloc (.cells #[.slice none 0 0] 24)) 22 (.slice A xs.length c)
    rw [World.size_alloc, World.size_alloc, World.size_alloc, hB] at this
    rw [← hW0]; exact this
  have hBel : Below B w W0 := by
    rw [← hW0]
    exact ((((Below.refl B w).alloc (by omega) _).alloc (by simp; omega) _).alloc (by simp; omega) _).alloc (by simp; omega) _
  rw [hW0, hB]
  have HW0 := Lib.hid hW0
  have HB := Lib.hid hB
  have HBel := Lib.hid hBel
  clear hW0
  have hlens : (linesOf xs).length ≤ xs.length := by have := linesF_len (xs.length + 1) xs 0; unfold linesOf; omega
  refine wpIn_rangeFunc_ownG rfl (by omega) (gf := 56) (lb := #[.pointer (some ⟨B + 3, 0, none⟩)]) rfl trivial (enters_of Tryd.func56 (by kernel_rfl) rfl)
    (lines_stops (B + 3) B A c xs hlen hx4 HBY.out W0 (by omega) b3 (fun W' hb => Kd.C_below HR.out ((hB ▸ hBel).trans (hB ▸ hb))) (fun W' hb => HM.out.below ((hB ▸ hBel).trans (hB ▸ hb)))) KpT_t (KpT_b (by omega)) (Below.refl _ _) (fun _ => rfl)
    (fun pre W => ((pre.all (fun x => validB x.2) = true ∧ Boxed W B 24 (.slice none 0 0)) ∧ (Boxed W (B + 1) 25 (.int .i64 0) ∧ Boxed W (B + 3) 22 (.slice A xs.length c)) ∧ ∃ v, Boxed W (B + 2) 24 v ∧ W.ownsRow B 9 1 v (outsOf pre).length ((outsOf pre).map Value.string) ∧ True) ∧ Below B w W)
    (fun cd pre W => ((cd = .ret ∧ pre.all (fun x => validB x.2) = false) ∧ Boxed W B 24 (.slice none 0 0) ∧ Boxed W (B + 1) 25 (.int .i64 7)) ∧ Below B w W)
    (OwnFrom.and (OwnFrom.and (OwnFrom.and (ownFrom_pure _ _) (Own.from (boxed_own _ _ _) _)) (OwnFrom.and (OwnFrom.and (Own.from (boxed_own _ _ _) _) (Own.from (boxed_own _ _ _) _)) (Own.from (holdsRow_own B (B + 2) 24 9 1 (fun pre => (outsOf pre).length) (fun pre => (outsOf pre).map Value.string) (fun _ _ => True)) _))) (ownFrom_below (by omega) (by omega)))
    (fun cd => OwnFrom.and (OwnFrom.and (ownFrom_pure _ _) (OwnFrom.and (Own.from (boxed_own _ _ _) _) (Own.from (boxed_own _ _ _) _))) (ownFrom_below (by omega) (by omega)))
    ⟨⟨⟨by rfl, b0⟩, ⟨b1, b3⟩, _, b2, World.ownsRow_nil _ _ _ _, trivial⟩, hBel⟩
    (fun x => { tmps := #[.slice A xs.length c, undef, .pointer (some ⟨B, 0, none⟩), .pointer (some ⟨B + 1, 0, none⟩), .pointer (some ⟨B + 2, 0, none⟩), undef, .string x.2, .slice A xs.length c, .func (.func 56) #[] #[.pointer (some ⟨B + 3, 0, none⟩)], .int .i64 (x.1 : Int), .string x.2, undef, undef, undef, undef, undef, undef, undef, undef], defers := [] }) ?assign ?body ?done ?stop
  case assign =>
    intro l x W K hK
    gi_wp2
    exact hK
  case body =>
    rintro l pre x W ⟨⟨⟨hval, hb0⟩, ⟨hb1, hb3⟩, v, hv, hrow, _⟩, hBW⟩ hlt
    have hol : (outsOf pre).length ≤ 4294967281 := by simp [outsOf]; omega
    have HI := Lib.hid (And.intro hval (And.intro hb0 (And.intro hb1 (And.intro hb3 (And.intro hv (And.intro hrow hBW))))))
    have hWB : B ≤ W.heap.size := by have := hBW.size; omega
    clear hval hb0 hb1 hb3 hv hrow hBW b0 b1 b2 b3 hBel hB
    cases hx : validB x.2 with
    | false =>
      gi_wp2_with (refine ⟨trivial, ?_⟩; gi_at_call 35; refine (CallsIn.inRound l (callsIn_wide.2 (valid_calls _ _))).mono ?_; rintro e w2 ⟨rfl, hb⟩; have HQ := Lib.hid hb; clear hb; have hc0 := (Boxed.go HI.out.2.1 HQ.out).cell; have hf0 := (Boxed.go HI.out.2.1 HQ.out).frozen; have hc1 := (Boxed.go HI.out.2.2.1 HQ.out).cell; have hf1 := (Boxed.go HI.out.2.2.1 HQ.out).frozen)
      obtain ⟨hval, hb0, hb1, hb3, hv, hrow, hBW⟩ := HI.out
      refine ⟨((keepsFrom_below HQ.out).trans ((KeepsOthers.setCell _ _ _).from _)).trans ((KeepsOthers.setCell _ _ _).from _), ⟨⟨rfl, by rw [List.all_append, hval]; simp [hx]⟩, ((Boxed.go hb0 HQ.out).set _).other (by omega) _, ((Boxed.go hb1 HQ.out).other (by omega) _).set _⟩, ?_⟩
      exact ((hBW.trans (HQ.out.mono hWB)).setCell (p := ⟨B, 0, none⟩) (Nat.le_refl _) _).setCell (p := ⟨B + 1, 0, none⟩) (Nat.le_succ _) _
    | true =>
      gi_wp2_with (first
        | (refine ⟨trivial, ?_⟩; gi_at_call 35; refine (CallsIn.inRound l (callsIn_wide.2 (valid_calls _ _))).mono ?_; rintro e w2 ⟨rfl, hb⟩; have hv2 := Boxed.go HI.out.2.2.2.2.1 hb; have hrow2 := ownsRow_go HI.out.2.2.2.2.2.1 hb; have hsz2 : B ≤ w2.heap.size := Nat.le_trans hWB hb.size; have HQ := Lib.hid hb; clear hb; have hc2 := hv2.cell; have HV := Lib.hid hv2; clear hv2)
        | (gi_at_builtin; refine wpListIn_append_own _ rfl _ _ 24 rfl B 9 i0 (.string ⟨#[]⟩) 1 16 Tryd.underlying24 hi hz0 hz1 hz2 rfl (by decide) _ _ _ rfl (hrow2.alloc _) ⟨w2.heap.size, 0, none⟩ 1 1 [.string x.2] rfl rfl (cell_one_new _ _ _) (by simp [Value.oneCell']) (by unfold maxLen; omega) (by omega) (by simp; omega) ?_; intro v' w1 hown' hgrow _; obtain ⟨g', cap', rfl⟩ := ownsRow_succ hown'; obtain ⟨hv1, hv3, hr3, hk3, hb3'⟩ := HV.out.appended (by decide) hrow2 hsz2 (by omega) hown' hgrow; have hc1 := hv1.cell; have hf1 := hv1.frozen))
      obtain ⟨hval, hb0, hb1, hb3, hv, hrow, hBW⟩ := HI.out
      have hq := HQ.out
      refine ⟨(keepsFrom_below hq).trans (hk3.from _), ⟨(hq.mono hWB).trans hb3', fun e => Boxed.past (Boxed.go e hq) (by decide) hrow2 hgrow (by omega)⟩, ⟨⟨by rw [List.all_append, hval]; simp [hx], Boxed.past (Boxed.go hb0 hq) (by decide) hrow2 hgrow (by omega)⟩, ⟨Boxed.past (Boxed.go hb1 hq) (by decide) hrow2 hgrow (by omega), Boxed.past (Boxed.go hb3 hq) (by decide) hrow2 hgrow (by omega)⟩, _, hv3, by rw [outsOf_snoc, List.length_append, List.map_append]; exact hr3, trivial⟩, (hBW.trans (hq.mono hWB)).trans hb3'⟩
  case done =>
    rintro D ys W hD rfl ⟨⟨⟨hval, hb0⟩, ⟨hb1, hb3⟩, v, hv, hrow, _⟩, hBW⟩ hK
    obtain ⟨A3, c3, rfl⟩ := own_slice hrow
    have hc2 := hv.cell
    have hc0 := hb0.cell
    have hf0 := hb0.frozen
    have hc1 := hb1.cell
    have hf1 := hb1.frozen
    have HI := Lib.hid (And.intro hval (And.intro hb0 (And.intro hb1 (And.intro hv (And.intro hrow hBW)))))
    have HK := Lib.hid hK
    clear hval hb0 hb1 hb3 hv hrow hBW b0 b1 b2 b3 hBel hB hK
    gi_wp2
    obtain ⟨hval, hb0, hb1, hv, hrow, hBW⟩ := HI.out
    obtain ⟨X, hX⟩ : ∃ X, (W.setCell ⟨B, 0, none⟩ (.slice A3 (outsOf (linesOf xs)).length c3)).setCell ⟨B + 1, 0, none⟩ (.int .i64 0) = X := ⟨_, rfl⟩
    have hK' : X.heap[D]? = some (.deferred (some [])) := by
      rw [← hX]
      exact (KeepsOthers.setCell _ ⟨B + 1, 0, none⟩ (.int .i64 0)).same D _ ((KeepsOthers.setCell W ⟨B, 0, none⟩ (.slice A3 (outsOf (linesOf xs)).length c3)).same D _ HK.out rfl) rfl
    have x0 : Boxed X B 24 (.slice A3 (outsOf (linesOf xs)).length c3) := by rw [← hX]; exact (hb0.set _).other (by omega) _
    have x1 : Boxed X (B + 1) 25 (.int .i64 0) := by rw [← hX]; exact (hb1.other (by omega) _).set _
    have xr : X.ownsRow B 9 1 (.slice A3 (outsOf (linesOf xs)).length c3) (outsOf (linesOf xs)).length ((outsOf (linesOf xs)).map Value.string) := by
      rw [← hX]
      refine (hrow.kept (grownBy_setCell' W B _) (.inr (hb0.not_row (by decide) hrow).symm)).kept (grownBy_setCell' _ (B + 1) _) (.inr ?_)
      exact (hb1.not_row (by decide) hrow).symm
    have xB : Below B w X := by rw [← hX]; exact (hBW.setCell (p := ⟨B, 0, none⟩) (Nat.le_refl _) _).setCell (p := ⟨B + 1, 0, none⟩) (Nat.le_succ _) _
    rw [hX]
    refine ⟨by simp, .inl ⟨_, _, rfl, run_takeDeferred hK', ?_⟩⟩
    have e0 := cell_kept x0.cell (grownBy_putObj' _ D (.deferred none)) (fun r e => by cases e; exact ⟨_, hK', rfl⟩)
    have e1 := cell_kept x1.cell (grownBy_putObj' _ D (.deferred none)) (fun r e => by cases e; exact ⟨_, hK', rfl⟩)
    refine ⟨_, by simp [results, Tryd.f13, go_sem, e0, e1]; rfl, ?_⟩
    have hev : entriesV xs = (outsOf (linesOf xs), 0) := by unfold entriesV outsOf; rw [if_pos hval]
    have hB2 := HB.out
    rw [hev, HB.out]
    refine ⟨_, rfl, Kd.R_of_own (h1 := fun _ => rfl) (ownsRow_putObj xr _ hK' rfl) (fun _ _ => trivial), ?_⟩
    exact xB.trans (belowK_b (w := w) (by omega) X D _ _ (by omega) hK' rfl rfl)
  case stop =>
    rintro D cd pre W hD hpre ⟨⟨⟨rfl, hval⟩, hb0, hb1⟩, hBW⟩ hK
    have HI := Lib.hid (And.intro hval (And.intro hb0 (And.intro hb1 (And.intro hBW hK))))
    clear hval hb0 hb1 hBW b0 b1 b2 b3 hBel hB hK
    gi_wp2
    obtain ⟨hval, hb0, hb1, hBW, hK⟩ := HI.out
    refine ⟨by simp, .inl ⟨_, _, rfl, run_takeDeferred hK, ?_⟩⟩
    have e0 := cell_kept hb0.cell (grownBy_putObj' _ D (.deferred none)) (fun r e => by cases e; exact ⟨_, hK, rfl⟩)
    have e1 := cell_kept hb1.cell (grownBy_putObj' _ D (.deferred none)) (fun r e => by cases e; exact ⟨_, hK, rfl⟩)
    refine ⟨_, by simp [results, Tryd.f13, go_sem, e0, e1]; rfl, ?_⟩
    have hev : entriesV xs = ([], 7) := by
      unfold entriesV
      rw [if_neg]
      intro hall
      obtain ⟨suf, hs⟩ := hpre
      rw [← hs, List.all_append, hval] at hall
      simp at hall
    have hB2 := HB.out
    rw [hev, HB.out]
    exact ⟨_, rfl, Kd.R_nil _ _ _ _ _, hBW.trans (belowK_b (w := w) (by omega) W D _ _ (by omega) hK rfl rfl)⟩
theorem longname_Entries.calls (A0 : Option Addr) (c0 : Nat) (l0 : List Int) (r1 : List ByteArray) (r2 : Int) (w : World) (hr0 : Kd.C (Kd.int .u8) w A0 l0.length l0) (hc0 : l0.length ≤ c0) (hG : Gmaxlen w) (h : longname_Entries.f l0 = some (r1, r2)) :
    Calls Tryd.prog 13 #[.slice A0 l0.length c0] w fun e w' => ∃ v0_ : Value, e = .returned (.tuple #[v0_, .int .i64 r2]) ∧ Kd.R Kd.string 9 w' w.heap.size (fun _ => True) v0_ r1 ∧ Below w.heap.size w w' := by
  unfold longname_Entries.f at h
  split at h
  · rename_i hc
    have h2 := entries_in A0 c0 l0 w hr0 hc0 hG hc.2 (isBytes_iff hc.1)
    rw [Option.some.inj h] at h2
    exact callsIn_wide.1 h2
  · cases h
#print axioms longname_Entries.calls
end Go.Proofs.YtjiokdkgbnakhaaDoor.Own
end TEntries
section TRes
set_option linter.unusedVariables false
set_option linter.unusedSimpArgs false
namespace Go.Proofs.YtjiokdkgbnakhaaDoor.Own
open Go.RowKit Go.Shelf Go.Proofs.YtjiokdkgbnakhaaDoor Go.Proofs.YtjiokdkgbnakhaaDoorW.PrintWords Go.Proofs.YtjiokdkgbnakhaaDoorW.PrintLast Go.Proofs.YtjiokdkgbnakhaaDoorW.PrintMore
def hasSuf (s : ByteArray) : Bool := Lib.hasSuffix s.data.toList [47]
def cutSuf (s : ByteArray) : ByteArray := ⟨(Lib.trimSuffix s.data.toList [47]).toArray⟩
def hasPre (s : ByteArray) : Bool := Lib.hasPrefix s.data.toList [47]
def cutPre (s : ByteArray) : ByteArray := ⟨(Lib.trimPrefix s.data.toList [47]).toArray⟩
def hasSp (s : ByteArray) : Bool := decide (0 ≤ Lib.indexByte s.data.toList 32)
def shortB (s : ByteArray) : Bool := validB s && decide (s.size ≤ 15) && (bt s ((s.size : Int) - 1) != 32)
theorem short_f (s : ByteArray) : K.longname_Short.f s = some (shortB s) := by
  unfold K.longname_Short.f shortB
  rw [valid_f]
  simp only [Option.bind_some]
  cases hv : validB s with
  | false => rfl
  | true =>
    have hp : 1 ≤ s.size ∧ s.size ≤ 255 := by
      unfold validB at hv
      simp only [Bool.and_eq_true, decide_eq_true_eq] at hv
      exact hv.1
    rw [if_pos rfl]
    by_cases h15 : (s.size : Int) ≤ 15
    · rw [if_pos h15, wrap64_id (by omega) (by omega), if_pos (by omega), if_pos (by omega), decide_eq_true (by omega)]
      rfl
    · rw [if_neg h15, decide_eq_false (by omega)]
      rfl
theorem short_calls (s : ByteArray) (w : World) : Calls Tryd.prog 36 #[.string s] w fun e w' => e = .returned (.bool (shortB s)) ∧ Below w.heap.size w w' :=
  K.longname_Short.calls s (shortB s) w (short_f s)
theorem cutSuf_calls (s : ByteArray) (hs : s.size ≤ 9223372036854775807) (w : World) : Calls Tryd.prog 38 #[.string s, .string ⟨#[47]⟩] w fun e w' => e = .returned (.tuple #[.string (cutSuf s), .bool (hasSuf s)]) ∧ w = w' :=
  (Tryd.strings_CutSuffix s ⟨#[47]⟩ w hs).mono fun _ _ ⟨he, hw⟩ => ⟨he, hw.symm⟩
theorem cutPre_calls (s : ByteArray) (w : World) : Calls Tryd.prog 39 #[.string s, .string ⟨#[47]⟩] w fun e w' => e = .returned (.tuple #[.string (cutPre s), .bool (hasPre s)]) ∧ w = w' :=
  (Tryd.strings_CutPrefix s ⟨#[47]⟩ w).mono fun _ _ ⟨he, hw⟩ => ⟨he, hw.symm⟩
theorem hasSp_calls (s : ByteArray) (w : World) : Calls Tryd.prog 40 #[.string s, .string ⟨#[32]⟩] w fun e w' => e = .returned (.bool (hasSp s)) ∧ w = w' :=
  (Tryd.strings_Contains_one s 32 w).mono fun _ _ ⟨he, hw⟩ => ⟨he, hw.symm⟩
def findLine (n : Int) (ls : List (Nat × ByteArray)) : ByteArray × Int := match ls.find? (fun x => decide ((x.1 : Int) = n)) with
  | some x => (x.2, 0)
  | none => (⟨#[]⟩, 6)
def resolveV (field : ByteArray) (tab : List Int) : ByteArray × Int :=
  if (hasSuf field && shortB (cutSuf field)) = true then (cutSuf field, 0)
  else if (hasPre field && decide ((cutPre field).size ≤ 15) && !hasSp (cutPre field)) = true then
    (if (parseV (bytesOf (cutPre field)) 10).2 = 0 then findLine (parseV (bytesOf (cutPre field)) 10).1 (linesOf tab) else (⟨#[]⟩, 6))
  else (⟨#[]⟩, 6)
set_option maxRecDepth 100000 in
set_option maxHeartbeats 2000000 in
theorem resolve_short (field : ByteArray) (hs : field.size ≤ 9223372036854775807) (v1 : Value) (w : World) (h1 : hasSuf field = true) (h2 : shortB (cutSuf field) = true) :
    Calls Tryd.prog 18 #[.string field, v1] w fun e w' => e = .returned (.tuple #[.string (cutSuf field), .int .i64 0]) ∧ Below w.heap.size w w' := by
  go_enter Tryd.func18, Tryd.ntmps18
  go_wp2_with (first
    | (go_at_call 38; refine (cutSuf_calls _ hs _).mono ?_; rintro e w' ⟨rfl, rfl⟩)
    | (go_at_call 36; refine (short_calls _ _).mono ?_; rintro e w' ⟨rfl, hb⟩; have b0 := Boxed.go ((Boxed.new w 9 (.string ⟨#[]⟩)).alloc (.cells #[.int .i64 0] 25)) hb; have b1 := Boxed.go (Boxed.new (w.alloc (.cells #[.string ⟨#[]⟩] 9)) 25 (.int .i64 0)) hb; rw [World.size_alloc] at b1; have HB := Lib.hid hb; clear hb; have c0 := b0.cell; have f0 := b0.frozen; have c1 := b1.cell; have f1 := b1.frozen; have H0 := Lib.hid b0; have H1 := Lib.hid b1; clear b0 b1))
  refine bodyPost_ret (v := .tuple #[.string (cutSuf field), .int .i64 0]) ?_ rfl ⟨rfl, ?_⟩
  · have e0 := ((H0.out.set (.string (cutSuf field))).other (B' := w.heap.size + 1) (by omega) (.int .i64 0)).cell
    have e1 := ((H1.out.other (B' := w.heap.size) (by omega) (.string (cutSuf field))).set (.int .i64 0)).cell
    simp [results, Tryd.f18, go_sem, e0, e1]
  · have hq := HB.out
    refine ((((Below.refl _ _).alloc (Nat.le_refl _) _).alloc (by simp) _).trans (hq.mono (by simp; omega))).setCell (p := ⟨w.heap.size, 0, none⟩) (Nat.le_refl _) _ |>.setCell (p := ⟨w.heap.size + 1, 0, none⟩) (by simp) _
theorem two_boxes (w : World) : Boxed ((w.alloc (.cells #[.string ⟨#[]⟩] 9)).alloc (.cells #[.int .i64 0] 25)) w.heap.size 9 (.string ⟨#[]⟩) ∧
    Boxed ((w.alloc (.cells #[.string ⟨#[]⟩] 9)).alloc (.cells #[.int .i64 0] 25)) (w.heap.size + 1) 25 (.int .i64 0) := by
  have b1 := Boxed.new (w.alloc (.cells #[.string ⟨#[]⟩] 9)) 25 (.int .i64 0)
  rw [World.size_alloc] at b1
  exact ⟨(Boxed.new w 9 (.string ⟨#[]⟩)).alloc _, b1⟩
theorem res_none (w W : World) (hb : Below ((w.alloc (.cells #[.string ⟨#[]⟩] 9)).alloc (.cells #[.int .i64 0] 25)).heap.size ((w.alloc (.cells #[.string ⟨#[]⟩] 9)).alloc (.cells #[.int .i64 0] 25)) W) (s : ByteArray) (z : Int) :
    ((W.setCell ⟨w.heap.size, 0, none⟩ (.string s)).setCell ⟨w.heap.size + 1, 0, none⟩ (.int .i64 z)).cell? ⟨w.heap.size, 0, none⟩ = some (.string s) ∧
    ((W.setCell ⟨w.heap.size, 0, none⟩ (.string s)).setCell ⟨w.heap.size + 1, 0, none⟩ (.int .i64 z)).cell? ⟨w.heap.size + 1, 0, none⟩ = some (.int .i64 z) ∧
    Below w.heap.size w ((W.setCell ⟨w.heap.size, 0, none⟩ (.string s)).setCell ⟨w.heap.size + 1, 0, none⟩ (.int .i64 z)) := by
  obtain ⟨b0, b1⟩ := two_boxes w
  have c0 := Boxed.go b0 hb
  have c1 := Boxed.go b1 hb
  refine ⟨((c0.set (.string s)).other (B' := w.heap.size + 1) (by omega) (.int .i64 z)).cell, ((c1.other (B' := w.heap.size) (by omega) (.string s)).set (.int .i64 z)).cell, ?_⟩
  exact ((((Below.refl _ _).alloc (Nat.le_refl _) _).alloc (by simp) _).trans (hb.mono (by simp; omega))).setCell (p := ⟨w.heap.size, 0, none⟩) (Nat.le_refl _) _ |>.setCell (p := ⟨w.heap.size + 1, 0, none⟩) (by simp) _
set_option maxRecDepth 100000 in
set_option maxHeartbeats 4000000 in
theorem resolve_none (field : ByteArray) (hs : field.size ≤ 9223372036854775807) (v1 : Value) (w : World) (hS : hasSuf field = false ∨ (hasSuf field = true ∧ shortB (cutSuf field) = false))
    (hP : hasPre field = false ∨ (hasPre field = true ∧ 15 < (cutPre field).size) ∨ (hasPre field = true ∧ (cutPre field).size ≤ 15 ∧ hasSp (cutPre field) = true)) :
    Calls Tryd.prog 18 #[.string field, v1] w fun e w' => e = .returned (.tuple #[.string ⟨#[]⟩, .int .i64 6]) ∧ Below w.heap.size w w' := by
  rcases hS with h1 | ⟨h1, h2⟩
  · rcases hP with hp | ⟨hp, hz⟩ | ⟨hp, hz, hsp⟩
    all_goals
      go_enter Tryd.func18, Tryd.ntmps18
      go_wp2_with (first
        | (go_at_call 38; refine (cutSuf_calls _ hs _).mono ?_; rintro e w' ⟨rfl, rfl⟩)
        | (go_at_call 39; refine (cutPre_calls _ _).mono ?_; rintro e w' ⟨rfl, rfl⟩)
        | (go_at_call 40; refine (hasSp_calls _ _).mono ?_; rintro e w' ⟨rfl, rfl⟩))
      refine bodyPost_ret (v := .tuple #[.string ⟨#[]⟩, .int .i64 6]) ?_ rfl ⟨rfl, ?_⟩
      · simp [results, Tryd.f18, go_sem]
      · exact ((Below.refl _ _).alloc (Nat.le_refl _) _).alloc (by simp) _
  · rcases hP with hp | ⟨hp, hz⟩ | ⟨hp, hz, hsp⟩
    all_goals
      go_enter Tryd.func18, Tryd.ntmps18
      go_wp2_with (first
        | (go_at_call 38; refine (cutSuf_calls _ hs _).mono ?_; rintro e w' ⟨rfl, rfl⟩)
        | (go_at_call 39; refine (cutPre_calls _ _).mono ?_; rintro e w' ⟨rfl, rfl⟩)
        | (go_at_call 40; refine (hasSp_calls _ _).mono ?_; rintro e w' ⟨rfl, rfl⟩)
        | (go_at_call 36; refine (short_calls _ _).mono ?_; rintro e W ⟨rfl, hb⟩; have c0 := (Boxed.go (two_boxes w).1 hb).cell; have f0 := (Boxed.go (two_boxes w).1 hb).frozen; have c1 := (Boxed.go (two_boxes w).2 hb).cell; have f1 := (Boxed.go (two_boxes w).2 hb).frozen; have HB := Lib.hid hb; clear hb))
      obtain ⟨e0, e1, hB⟩ := res_none w _ HB.out ⟨#[]⟩ 6
      refine bodyPost_ret (v := .tuple #[.string ⟨#[]⟩, .int .i64 6]) ?_ rfl ⟨rfl, hB⟩
      simp [results, Tryd.f18, go_sem, e0, e1]
end Go.Proofs.YtjiokdkgbnakhaaDoor.Own
end TRes
section TDecodeP
set_option linter.unusedVariables false
set_option linter.unusedSimpArgs false
namespace Go.Proofs.YtjiokdkgbnakhaaDoor.Own
open Go.RowKit Go.Proofs.YtjiokdkgbnakhaaDoor Go.Proofs.YtjiokdkgbnakhaaDoorW.PrintWords Go.Proofs.YtjiokdkgbnakhaaDoorW.PrintLast Go.Proofs.YtjiokdkgbnakhaaDoorW.PrintMore
def fitsV (s : ByteArray) : Bool := decide (1 ≤ s.size) && decide (s.size ≤ 16) && !Lib.containsAny s.data.toList [10, 0] && (bt s ((s.size : Int) - 1) != 32)
theorem fits_f (s : ByteArray) : K.header_fits.f s = some (fitsV s) := by
  unfold K.header_fits.f fitsV
  by_cases h1 : 1 ≤ s.size
  · rw [if_pos (by omega), decide_eq_true h1]
    by_cases h2 : s.size ≤ 16
    · rw [if_pos (by omega), decide_eq_true h2]
      have : strings_ContainsAny.f s ⟨#[10, 0]⟩ = some (Lib.containsAny s.data.toList [10, 0]) := by
        unfold strings_ContainsAny.f
        rw [if_pos ⟨by omega, by decide, by decide, by decide⟩]
      rw [this]
      simp only [Option.bind_some]
      have hw : wrap64 ((s.size : Int) - 1) = (s.size : Int) - 1 := by unfold wrap64; omega
      cases hc : Lib.containsAny s.data.toList [10, 0] with
      | true => rfl
      | false =>
        rw [if_neg Bool.false_ne_true, hw, if_pos (by omega), if_pos (by omega)]
        rfl
    · rw [if_neg (by omega), decide_eq_false h2]
      rfl
  · rw [if_neg (by omega), decide_eq_false h1]
    rfl
theorem fits_calls (s : ByteArray) (w : World) : Calls Tryd.prog 95 #[.string s] w fun e w' => e = .returned (.bool (fitsV s)) ∧ Below w.heap.size w w' :=
  K.header_fits.calls s (fitsV s) w (fits_f s)
def nameV (l : List Int) : ByteArray := ⟨(Lib.trimRightB (strOfNums (l.take 16)).data.toList 32).toArray⟩
def specV : List (Nat × Nat × Int × Bool) := [(16, 12, 10, true), (28, 6, 10, true), (34, 6, 10, true), (40, 8, 8, true), (48, 10, 10, false)]
def partV (l : List Int) (x : Nat × Nat × Int × Bool) : List Int := (l.drop x.1).take x.2.1
def fieldV (l : List Int) (tbl : Bool) (x : Nat × Nat × Int × Bool) : Int × Int :=
  if (tbl && x.2.2.2) = true then (if (partV l x).all (fun c => decide (c = 32)) = true then (0, 0) else (0, 3)) else parseV (partV l x) x.2.2.1
def roundsV (l : List Int) (tbl : Bool) : List (Nat × Nat × Int × Bool) → List Int × Int
  | [] => ([], 0)
  | x :: r => if (fieldV l tbl x).2 = 0 then ((fieldV l tbl x).1 :: (roundsV l tbl r).1, (roundsV l tbl r).2) else ([], (fieldV l tbl x).2)
def isTable (s : ByteArray) : Bool := s.toList == [47, 47]
def decodeV (l : List Int) : ByteArray × List Int × Int :=
  if l.length < 60 then (⟨#[]⟩, [0, 0, 0, 0, 0], 2)
  else if (l.drop 58).take 2 ≠ [96, 10] then (⟨#[]⟩, [0, 0, 0, 0, 0], 4)
  else if fitsV (nameV l) = false then (⟨#[]⟩, [0, 0, 0, 0, 0], 6)
  else if (roundsV l (isTable (nameV l)) specV).2 = 0 then (nameV l, (roundsV l (isTable (nameV l)) specV).1, 0)
  else (⟨#[]⟩, [0, 0, 0, 0, 0], (roundsV l (isTable (nameV l)) specV).2)
end Go.Proofs.YtjiokdkgbnakhaaDoor.Own
end TDecodeP
section TDecode
set_option linter.unusedVariables false
set_option linter.unusedSimpArgs false
namespace Go.Proofs.YtjiokdkgbnakhaaDoor.Own
open Go.RowKit Go.Proofs.YtjiokdkgbnakhaaDoor Go.Proofs.YtjiokdkgbnakhaaDoorW.PrintWords Go.Proofs.YtjiokdkgbnakhaaDoorW.PrintLast Go.Proofs.YtjiokdkgbnakhaaDoorW.PrintMore
def headerA (s : ByteArray) (vs : List Int) : Value := .agg #[.string s, .int .i64 (vs.getD 0 0), .int .i64 (vs.getD 1 0), .int .i64 (vs.getD 2 0), .int .i64 (vs.getD 3 0), .int .i64 (vs.getD 4 0)]
def DecodeSays (w : World) (r : ByteArray × List Int × Int) (e : Ending) (w' : World) : Prop := e = .returned (.tuple #[headerA r.1 r.2.1, .int .i64 r.2.2]) ∧ Below w.heap.size w w'
set_option maxRecDepth 100000 in
set_option maxHeartbeats 4000000 in
theorem decode_short (A : Option Addr) (c : Nat) (l : List Int) (w : World) (h : l.length < 60) :
    Calls Tryd.prog 78 #[.slice A l.length c] w (DecodeSays w (⟨#[]⟩, [0, 0, 0, 0, 0], 2)) := by
  have d1 : decide ((l.length : Int) < 60) = true := decide_eq_true (by omega)
  clear h
  go_enter Tryd.func78, Tryd.ntmps78
  go_wp2
  refine bodyPost_ret (v := .tuple #[headerA ⟨#[]⟩ [0, 0, 0, 0, 0], .int .i64 2]) ?_ rfl ⟨rfl, (Below.refl _ _).alloc (Nat.le_refl _) _⟩
  simp [results, Tryd.f78, go_sem, headerA]
theorem C_mid {w : World} {A : Option Addr} {l : List Int} (hr : (Kd.int .u8).C w A l.length l) (lo n : Nat) (h : lo + n ≤ l.length) (hn : 0 < n) :
    (Kd.int .u8).C w (A.map fun x => ⟨x.block, x.off + lo, none⟩) n ((l.drop lo).take n) := by
  obtain ⟨h1, h2, h3⟩ := Kd.reads_of_C (enc := Value.int .u8) (d := (0 : Int)) (h1 := fun _ => rfl) hr
  obtain ⟨ad, rfl, hc⟩ := h3 (by omega)
  obtain ⟨b, o, sp⟩ := ad
  have hs : sp = none := by simpa [Addr.add] using World.cell?_spot (hc 0 (by omega))
  subst hs
  have hl : ((l.drop lo).take n).length = n := by rw [List.length_take, List.length_drop]; omega
  refine Kd.C_of_reads (enc := Value.int .u8) (d := (0 : Int)) (h1 := fun _ => rfl) ⟨hl, by omega, fun _ => ⟨_, rfl, fun j hj => ?_⟩⟩
  have e1 : (⟨b, o, none⟩ : Addr).add (lo + j) = ⟨b, o + (lo + j), none⟩ := by unfold Addr.add; split <;> simp_all
  have e2 : (⟨b, o + lo, none⟩ : Addr).add j = ⟨b, o + lo + j, none⟩ := by unfold Addr.add; split <;> simp_all
  have := hc (lo + j) (by omega)
  rw [e1] at this
  show w.cell? ((⟨b, o + lo, none⟩ : Addr).add j) = _
  rw [e2, Nat.add_assoc, this]
  congr 2
  simp [List.getD_eq_getElem?_getD, List.getElem?_take_of_lt hj, List.getElem?_drop]
theorem mark_eq {X : List Int} (h : Byt X) : ((strOfNums X).toList == [96, 10]) = decide (X = [96, 10]) := by
  by_cases e : X = [96, 10]
  · subst e
    decide +kernel
  · rw [decide_eq_false e]
    refine beq_eq_false_iff_ne.2 fun hl => e ?_
    have h1 := bytesOf_strOf h
    rw [← h1]
    unfold bytesOf
    rw [ByteArray.toList_eq] at hl
    rw [hl]
    rfl
set_option maxRecDepth 100000 in
set_option maxHeartbeats 4000000 in
theorem decode_mark (A : Option Addr) (c : Nat) (l : List Int) (w : World) (hr : (Kd.int .u8).C w A l.length l) (hc : l.length ≤ c) (h : ¬ l.length < 60) (hby : Byt l) (hm : (l.drop 58).take 2 ≠ [96, 10]) :
    Calls Tryd.prog 78 #[.slice A l.length c] w (DecodeSays w (⟨#[]⟩, [0, 0, 0, 0, 0], 4)) := by
  have d1 : decide ((l.length : Int) < 60) = false := decide_eq_false (by omega)
  have hcv := Kd.C_string (P := Tryd.prog) (c := c - 58) Tryd.underlying22 Tryd.underlying5 Tryd.underlying9 (Kd.C_alloc (C_mid hr 58 2 (by omega) (by decide)) (.cells #[.string ⟨#[]⟩, .int .i64 0, .int .i64 0, .int .i64 0, .int .i64 0, .int .i64 0] 84))
  have q1 : ((strOfNums (List.take 2 (List.drop 58 l))).toList == [96, 10]) = false := by
    rw [mark_eq ((hby.drop 58).take 2)]
    exact decide_eq_false hm
  have c60 : 60 ≤ c := by omega
  have c60i : (60 : Int) ≤ (c : Int) := by omega
  clear h hr hc hby hm
  go_enter Tryd.func78, Tryd.ntmps78
  go_wp2
  refine bodyPost_ret (v := .tuple #[headerA ⟨#[]⟩ [0, 0, 0, 0, 0], .int .i64 4]) ?_ rfl ⟨rfl, (Below.refl _ _).alloc (Nat.le_refl _) _⟩
  simp [results, Tryd.f78, go_sem, headerA]
theorem C_take {w : World} {A : Option Addr} {l : List Int} (hr : (Kd.int .u8).C w A l.length l) (n : Nat) (h : n ≤ l.length) : (Kd.int .u8).C w A n (l.take n) := by
  obtain ⟨h1, h2, h3⟩ := Kd.reads_of_C (enc := Value.int .u8) (d := (0 : Int)) (h1 := fun _ => rfl) hr
  have hl : (l.take n).length = n := by rw [List.length_take]; omega
  refine Kd.C_of_reads (enc := Value.int .u8) (d := (0 : Int)) (h1 := fun _ => rfl) ⟨hl, by omega, fun hn => ?_⟩
  obtain ⟨ad, rfl, hc⟩ := h3 (by omega)
  refine ⟨ad, rfl, fun j hj => ?_⟩
  rw [hc j (by omega)]
  congr 2
  simp [List.getD_eq_getElem?_getD, List.getElem?_take_of_lt hj]
theorem trim_calls (l : List Int) (h : 16 ≤ l.length) (W : World) : Calls Tryd.prog 94 #[.string (strOfNums (l.take 16)), .string ⟨#[32]⟩] W fun e w' => e = .returned (.string (nameV l)) ∧ W = w' := by
  have hs : (strOfNums (l.take 16)).size ≤ 9223372036854775807 := by rw [strOfNums_size, List.length_take]; omega
  exact (Tryd.strings_TrimRight_one (strOfNums (l.take 16)) 32 (by decide) W hs).mono fun _ _ ⟨he, hw⟩ => ⟨he, hw.symm⟩
end Go.Proofs.YtjiokdkgbnakhaaDoor.Own
end TDecode
section TDecodeN
set_option linter.unusedVariables false
set_option linter.unusedSimpArgs false
namespace Go.Proofs.YtjiokdkgbnakhaaDoor.Own
open Go.RowKit Go.Proofs.YtjiokdkgbnakhaaDoor Go.Proofs.YtjiokdkgbnakhaaDoorW.PrintWords Go.Proofs.YtjiokdkgbnakhaaDoorW.PrintLast Go.Proofs.YtjiokdkgbnakhaaDoorW.PrintMore
def ZeroAt (W : World) (g : Nat) : Prop := W.heap[g]? = some (.cells #[.string ⟨#[]⟩, .int .i64 0, .int .i64 0, .int .i64 0, .int .i64 0, .int .i64 0] 84 (0, 0))
theorem zero_kept {w W1 : World} {o : Obj} (hb : Below ((w.alloc (.cells #[.string ⟨#[]⟩, .int .i64 0, .int .i64 0, .int .i64 0, .int .i64 0, .int .i64 0] 84)).alloc o).heap.size ((w.alloc (.cells #[.string ⟨#[]⟩, .int .i64 0, .int .i64 0, .int .i64 0, .int .i64 0, .int .i64 0] 84)).alloc o) W1) : ZeroAt W1 w.heap.size := by
  have h1 := hb.block w.heap.size (by simp; omega)
  have h2 := (below_alloc (Below.refl _ (w.alloc (.cells #[.string ⟨#[]⟩, .int .i64 0, .int .i64 0, .int .i64 0, .int .i64 0, .int .i64 0] 84))) o).block w.heap.size (by simp)
  exact (h1.trans h2).trans (World.alloc_heap_new w _)
theorem store_zero {W : World} {g : Nat} (h : ZeroAt W g) : (Instr.storeAt 84 (.pointer (some ⟨g, 0, none⟩)) (.agg #[.string ⟨#[]⟩, .int .i64 0, .int .i64 0, .int .i64 0, .int .i64 0, .int .i64 0])).run Tryd.prog W = .ok () W := by
  simp only [Instr.storeAt, Instr.sureAddr, Sem.run_bind, Sem.run_pure, Result.andThen]
  rw [run_storeVar_row W g 84 84 _ _ h (by kernel_rfl) rfl (by simp [Value.oneCell']), setRow_self W g _ _ _ h]
theorem zero_cells {W : World} {g : Nat} (h : ZeroAt W g) : W.cell? ⟨g, 0, none⟩ = some (.string ⟨#[]⟩) ∧ W.cell? ⟨g, 1, none⟩ = some (.int .i64 0) ∧ W.cell? ⟨g, 2, none⟩ = some (.int .i64 0) ∧ W.cell? ⟨g, 3, none⟩ = some (.int .i64 0) ∧ W.cell? ⟨g, 4, none⟩ = some (.int .i64 0) ∧ W.cell? ⟨g, 5, none⟩ = some (.int .i64 0) := by
  unfold ZeroAt at h
  simp [World.cell?, h]
set_option maxRecDepth 100000 in
set_option maxHeartbeats 4000000 in
theorem decode_name (A : Option Addr) (c : Nat) (l : List Int) (w : World) (hr : (Kd.int .u8).C w A l.length l) (hc : l.length ≤ c) (h : ¬ l.length < 60) (hby : Byt l) (hm : (l.drop 58).take 2 = [96, 10]) (hf : fitsV (nameV l) = false) :
    Calls Tryd.prog 78 #[.slice A l.length c] w (DecodeSays w (⟨#[]⟩, [0, 0, 0, 0, 0], 6)) := by
  have d1 : decide ((l.length : Int) < 60) = false := decide_eq_false (by omega)
  have hcv := Kd.C_string (P := Tryd.prog) (c := c - 58) Tryd.underlying22 Tryd.underlying5 Tryd.underlying9 (Kd.C_alloc (C_mid hr 58 2 (by omega) (by decide)) (.cells #[.string ⟨#[]⟩, .int .i64 0, .int .i64 0, .int .i64 0, .int .i64 0, .int .i64 0] 84))
  have hcv2 := Kd.C_string (P := Tryd.prog) (c := c) Tryd.underlying22 Tryd.underlying5 Tryd.underlying9 (Kd.C_alloc (C_take hr 16 (by omega)) (.cells #[.string ⟨#[]⟩, .int .i64 0, .int .i64 0, .int .i64 0, .int .i64 0, .int .i64 0] 84))
  have q1 : ((strOfNums (List.take 2 (List.drop 58 l))).toList == [96, 10]) = true := by
    rw [mark_eq ((hby.drop 58).take 2)]
    exact decide_eq_true hm
  have c60 : 60 ≤ c := by omega
  have c60i : (60 : Int) ≤ (c : Int) := by omega
  have HTR := Lib.hid (trim_calls l (by omega))
  have hft := fun W => fits_calls (nameV l) W
  rw [hf] at hft
  have HFT := Lib.hid hft
  clear h hr hc hby hm hft hf
  obtain ⟨S, hS⟩ : ∃ S, nameV l = S := ⟨_, rfl⟩
  rw [hS] at HTR HFT
  go_enter Tryd.func78, Tryd.ntmps78
  go_wp2_with (first
    | (go_at_call 94; refine (HTR.out _).mono ?_; rintro e w' ⟨rfl, rfl⟩)
    | (go_at_call 95; refine (HFT.out _).mono ?_; rintro e W1 ⟨rfl, hb⟩; have HZ := Lib.hid (zero_kept hb); have HB := Lib.hid hb; clear hb)
    | ((with_reducible refine gate_store (t := 84) (p := 2) (v := .tmp 29) rfl ?_); refine store_event rfl rfl rfl (w1 := W1) ?hrun ?_; (case hrun => (have h_ := store_zero HZ.out; unfold execOp; simp only [Sem.run_bind]; erw [h_]; rfl)); rintro w' rfl))
  refine bodyPost_ret (v := .tuple #[headerA ⟨#[]⟩ [0, 0, 0, 0, 0], .int .i64 6]) ?_ rfl ⟨rfl, ?_⟩
  · obtain ⟨c0, c1, c2, c3, c4, c5⟩ := zero_cells HZ.out
    simp [results, Tryd.f78, go_sem, headerA, c0, c1, c2, c3, c4, c5]
  · exact below_step (below_alloc (below_alloc (Below.refl _ _) _) _) HB.out
end Go.Proofs.YtjiokdkgbnakhaaDoor.Own
end TDecodeN
section TDecodeL
set_option linter.unusedVariables false
set_option linter.unusedSimpArgs false
namespace Go.Proofs.YtjiokdkgbnakhaaDoor.Own
open Go.RowKit Go.Proofs.YtjiokdkgbnakhaaDoor Go.Proofs.YtjiokdkgbnakhaaDoorW.PrintWords Go.Proofs.YtjiokdkgbnakhaaDoorW.PrintLast Go.Proofs.YtjiokdkgbnakhaaDoorW.PrintMore
def headC (S : ByteArray) (vs : List Int) : Array Value := #[.string S, .int .i64 (vs.getD 0 0), .int .i64 (vs.getD 1 0), .int .i64 (vs.getD 2 0), .int .i64 (vs.getD 3 0), .int .i64 (vs.getD 4 0)]
structure DecSt (w wr : World) (S : ByteArray) (vs : List Int) (F : Nat) : Prop where
  below : Below w.heap.size w wr
  zero : ZeroAt wr w.heap.size
  head : wr.heap[w.heap.size + 1]? = some (.cells (headC S vs) 84 (0, 0))
  rows : wr.heap[F]? = some (.cells fieldsC 149 (0, 0))
  far : w.heap.size + 1 < F
theorem DecSt.go {w W W' : World} {S : ByteArray} {vs : List Int} {F : Nat} (h : DecSt w W S vs F) (hb : Below W.heap.size W W') : DecSt w W' S vs F := by
  have hz : F < W.heap.size := (Array.getElem?_eq_some_iff.1 h.rows).1
  have hf := h.far
  exact ⟨below_step h.below hb, (hb.block _ (by omega)).trans h.zero, (hb.block _ (by omega)).trans h.head, (hb.block _ hz).trans h.rows, hf⟩
theorem headC_snoc (S : ByteArray) (v : Int) : ∀ (vs : List Int), vs.length < 5 → (headC S vs).setIfInBounds (vs.length + 1) (.int .i64 v) = headC S (vs ++ [v])
  | [], _ => rfl
  | [_], _ => rfl
  | [_, _], _ => rfl
  | [_, _, _], _ => rfl
  | [_, _, _, _], _ => rfl
  | _ :: _ :: _ :: _ :: _ :: _, h => by simp at h; omega
theorem headC_zero (S : ByteArray) : ∀ (vs : List Int), vs.length < 5 → headC S (vs ++ [0]) = headC S vs
  | [], _ => rfl
  | [_], _ => rfl
  | [_, _], _ => rfl
  | [_, _, _], _ => rfl
  | [_, _, _, _], _ => rfl
  | _ :: _ :: _ :: _ :: _ :: _, h => by simp at h; omega
theorem DecSt.put {w W : World} {S : ByteArray} {vs : List Int} {F : Nat} (h : DecSt w W S vs F) (hl : vs.length < 5) (v : Int) (j : Nat) (hj : j = vs.length + 1) : DecSt w (W.setCell ⟨w.heap.size + 1, j, none⟩ (.int .i64 v)) S (vs ++ [v]) F := by
  subst hj
  have hf := h.far
  refine ⟨h.below.setCell (by simp) _, (blk_far h.zero (by simp) _), ?_, blk_far h.rows (by simp; omega) _, hf⟩
  have := blk_set h.head (vs.length + 1) (.int .i64 v)
  rw [headC_snoc S v vs hl] at this
  exact this
theorem DecSt.skip {w W : World} {S : ByteArray} {vs : List Int} {F : Nat} (h : DecSt w W S vs F) (hl : vs.length < 5) : DecSt w W S (vs ++ [0]) F :=
  ⟨h.below, h.zero, by rw [headC_zero S vs hl]; exact h.head, h.rows, h.far⟩
theorem roundsV_at (l : List Int) (t : Bool) : ∀ (s : List (Nat × Nat × Int × Bool)) (j : Nat), (∀ x ∈ s.take j, (fieldV l t x).2 = 0) →
    roundsV l t s = ((s.take j).map (fun x => (fieldV l t x).1) ++ (roundsV l t (s.drop j)).1, (roundsV l t (s.drop j)).2)
  | s, 0, _ => by simp
  | [], j + 1, _ => by simp [roundsV]
  | x :: s, j + 1, h => by
    have h0 := h x (by simp)
    have ih := roundsV_at l t s j (fun y hy => h y (by simp [hy]))
    simp only [roundsV, if_pos h0, List.take_succ_cons, List.drop_succ_cons, List.map_cons, List.cons_append]
    rw [ih]
def DecAt (l : List Int) (S : ByteArray) (j : Nat) (vs : List Int) : Prop := vs = (specV.take j).map (fun x => (fieldV l (isTable S) x).1) ∧ ∀ x ∈ specV.take j, (fieldV l (isTable S) x).2 = 0
theorem DecAt.len {l : List Int} {S : ByteArray} {j : Nat} {vs : List Int} (h : DecAt l S j vs) (hj : j ≤ 5) : vs.length = j := by
  rw [h.1, List.length_map, List.length_take]
  have : specV.length = 5 := rfl
  omega
theorem DecAt.next {l : List Int} {S : ByteArray} {j : Nat} {vs : List Int} (h : DecAt l S j vs) (x : Nat × Nat × Int × Bool) (hx : specV[j]? = some x) (v : Int) (hv : fieldV l (isTable S) x = (v, 0)) : DecAt l S (j + 1) (vs ++ [v]) := by
  have e : specV.take (j + 1) = specV.take j ++ [x] := by rw [List.take_add_one, hx]; rfl
  refine ⟨?_, ?_⟩
  · rw [e, List.map_append, ← h.1, List.map_cons, hv]; rfl
  · intro y hy
    rw [e] at hy
    rcases List.mem_append.1 hy with hy | hy
    · exact h.2 y hy
    · obtain rfl := List.mem_singleton.1 hy
      rw [hv]
structure DecOf (l : List Int) (S : ByteArray) : Prop where
  long : ¬ l.length < 60
  mark : (l.drop 58).take 2 = [96, 10]
  name : nameV l = S
  fit : fitsV S = true
theorem decode_at {l : List Int} {S : ByteArray} (h : DecOf l S) : decodeV l = (if (roundsV l (isTable S) specV).2 = 0 then (S, (roundsV l (isTable S) specV).1, 0) else (⟨#[]⟩, [0, 0, 0, 0, 0], (roundsV l (isTable S) specV).2)) := by
  unfold decodeV
  rw [if_neg h.long, if_neg (fun e => e h.mark), h.name, h.fit, if_neg (by simp)]
theorem DecAt.bad {l : List Int} {S : ByteArray} (hd : DecOf l S) {j : Nat} {vs : List Int} (h : DecAt l S j vs) (x : Nat × Nat × Int × Bool) (hx : specV[j]? = some x) (v z : Int) (hv : fieldV l (isTable S) x = (v, z)) (hz : z ≠ 0) : decodeV l = (⟨#[]⟩, [0, 0, 0, 0, 0], z) := by
  have e : specV.drop j = x :: specV.drop (j + 1) := by
    obtain ⟨hlt, hx'⟩ := List.getElem?_eq_some_iff.1 hx
    rw [List.drop_eq_getElem_cons hlt, hx']
  have hr : (roundsV l (isTable S) specV).2 = z := by
    rw [roundsV_at l (isTable S) specV j h.2, e]
    simp only [roundsV, hv, if_neg hz]
  rw [decode_at hd, hr, if_neg hz]
theorem DecAt.done {l : List Int} {S : ByteArray} (hd : DecOf l S) {vs : List Int} (h : DecAt l S 5 vs) : decodeV l = (S, vs, 0) := by
  have hr : roundsV l (isTable S) specV = (vs, 0) := by
    rw [roundsV_at l (isTable S) specV 5 h.2, h.1]
    rw [show specV.drop 5 = [] from rfl]
    simp [roundsV]
  rw [decode_at hd, hr]
  rfl
def fieldAt (j : Nat) : Int := [16, 28, 34, 40, 48, 58].getD j 0
theorem field_num (l : List Int) (t : Bool) (x : Nat × Nat × Int × Bool) (h : (t && x.2.2.2) = false) : fieldV l t x = parseV (partV l x) x.2.2.1 := by
  unfold fieldV
  rw [h, if_neg (by simp)]
theorem field_blank (l : List Int) (t : Bool) (x : Nat × Nat × Int × Bool) (h : (t && x.2.2.2) = true) : fieldV l t x = if (partV l x).all (fun c => decide (c = 32)) = true then (0, 0) else (0, 3) := by
  unfold fieldV
  rw [h, if_pos rfl]
theorem part_len (l : List Int) (h : 60 ≤ l.length) (lo n : Nat) (b : Int) (t : Bool) (hn : lo + n ≤ 60) : (partV l (lo, n, b, t)).length = n := by
  unfold partV
  rw [List.length_take, List.length_drop]
  show min n (l.length - lo) = n
  omega
theorem part_parse (A : Option Addr) (c : Nat) (l : List Int) (W : World) (hr : (Kd.int .u8).C W A l.length l) (hc : l.length ≤ c) (h : 60 ≤ l.length) (hby : Byt l) (lo n : Nat) (t : Bool) (hn : lo + n ≤ 60) (h1 : 1 ≤ n) (h18 : n ≤ 18) (base : Int) (hb : base = 8 ∨ base = 10) :
    Calls Tryd.prog 41 #[.slice (A.map fun x => ⟨x.block, x.off + lo, none⟩) n (c - lo), .int .i64 base] W fun e w' => e = .returned (.tuple #[.int .i64 (parseV (partV l (lo, n, base, t)) base).1, .int .i64 (parseV (partV l (lo, n, base, t)) base).2]) ∧ ∃ n, w' = W.drewN n := by
  have hl := part_len l h lo n base t hn
  have hm := C_mid hr lo n (by omega) (by omega)
  have hp := parse_in (A.map fun x => ⟨x.block, x.off + lo, none⟩) (c - lo) (partV l (lo, n, base, t)) W (by rw [hl]; exact hm) (by rw [hl]; omega) (by omega) (by omega) ((hby.drop lo).take n) base hb
  rw [hl] at hp
  exact hp
theorem part_blank (A : Option Addr) (c : Nat) (l : List Int) (W : World) (hr : (Kd.int .u8).C W A l.length l) (hc : l.length ≤ c) (h : 60 ≤ l.length) (lo n : Nat) (base : Int) (t : Bool) (hn : lo + n ≤ 60) (h1 : 1 ≤ n) :
    Calls Tryd.prog 62 #[.slice (A.map fun x => ⟨x.block, x.off + lo, none⟩) n (c - lo)] W fun e w' => e = .returned (.bool ((partV l (lo, n, base, t)).all fun c => decide (c = 32))) ∧ ∃ n, w' = W.drewN n := by
  have hl := part_len l h lo n base t hn
  have hm := C_mid hr lo n (by omega) (by omega)
  have hp := blank_calls (A.map fun x => ⟨x.block, x.off + lo, none⟩) (c - lo) (partV l (lo, n, base, t)) W (by rw [hl]; exact hm) (by rw [hl]; omega) (by omega)
  rw [hl] at hp
  exact hp
theorem store_head {W : World} {g : Nat} {S : ByteArray} {vs : List Int} (h : ZeroAt W g) : (Instr.storeAt 84 (.pointer (some ⟨g, 0, none⟩)) (.agg (headC S vs))).run Tryd.prog W = .ok () (W.setRow g (headC S vs)) := by
  simp only [Instr.storeAt, Instr.sureAddr, Sem.run_bind, Sem.run_pure, Result.andThen]
  rw [run_storeVar_row W g 84 84 _ (headC S vs) h (by kernel_rfl) rfl (by simp [headC, Value.oneCell'])]
theorem setRow_below {w W : World} {g : Nat} {cs : Array Value} (h : Below w.heap.size w W) (hg : w.heap.size ≤ g) : Below w.heap.size w (W.setRow g cs) := by
  refine h.grown (row := some g) ⟨rfl, rfl, rfl, ?_, fun i hi hne => ?_⟩ h.size (fun k e => by cases e; exact hg)
  · simp [World.setRow]
  · have hne' : ¬ g = i := fun e => hne (by rw [e])
    simp [World.setRow, Array.getElem?_modify, hne']
theorem setRow_at {W : World} {g : Nat} {cur cs : Array Value} {t : TypeId} {fr : Nat × Nat} (h : W.heap[g]? = some (.cells cur t fr)) : (W.setRow g cs).heap[g]? = some (.cells cs t fr) := by
  simp [World.setRow, Array.getElem?_modify, h]
set_option maxRecDepth 100000 in
set_option maxHeartbeats 8000000 in
theorem decode_loop (A : Option Addr) (c : Nat) (l : List Int) (w : World) (hr : (Kd.int .u8).C w A l.length l) (hc : l.length ≤ c) (h : ¬ l.length < 60) (hby : Byt l) (hm : (l.drop 58).take 2 = [96, 10]) (hf : fitsV (nameV l) = true) :
    Calls Tryd.prog 78 #[.slice A l.length c] w (DecodeSays w (decodeV l)) := by
  have d1 : decide ((l.length : Int) < 60) = false := decide_eq_false (by omega)
  have hcv := Kd.C_string (P := Tryd.prog) (c := c - 58) Tryd.underlying22 Tryd.underlying5 Tryd.underlying9 (Kd.C_alloc (C_mid hr 58 2 (by omega) (by decide)) (.cells #[.string ⟨#[]⟩, .int .i64 0, .int .i64 0, .int .i64 0, .int .i64 0, .int .i64 0] 84))
  have hcv2 := Kd.C_string (P := Tryd.prog) (c := c) Tryd.underlying22 Tryd.underlying5 Tryd.underlying9 (Kd.C_alloc (C_take hr 16 (by omega)) (.cells #[.string ⟨#[]⟩, .int .i64 0, .int .i64 0, .int .i64 0, .int .i64 0, .int .i64 0] 84))
  have q1 : ((strOfNums (List.take 2 (List.drop 58 l))).toList == [96, 10]) = true := by
    rw [mark_eq ((hby.drop 58).take 2)]
    exact decide_eq_true hm
  have c60 : 60 ≤ c := by omega
  have c60i : (60 : Int) ≤ (c : Int) := by omega
  have HTR := Lib.hid (trim_calls l (by omega))
  have HOF : Hid (DecOf l (nameV l)) := Lib.hid ⟨h, hm, rfl, hf⟩
  have hft := fun W => fits_calls (nameV l) W
  rw [hf] at hft
  have HFT := Lib.hid hft
  have HPP := Lib.hid (fun W (hb : Below w.heap.size w W) => part_parse A c l W (Kd.C_below hr hb) hc (by omega) hby)
  have HPB := Lib.hid (fun W (hb : Below w.heap.size w W) => part_blank A c l W (Kd.C_below hr hb) hc (by omega))
  clear h hr hc hby hm hft hf
  generalize nameV l = S at *
  go_enter Tryd.func78, Tryd.ntmps78
  go_wp2_with (first
    | (go_at_call 94; refine (HTR.out _).mono ?_; rintro e w' ⟨rfl, rfl⟩)
    | (go_at_call 95; refine (HFT.out _).mono ?_; rintro e W1 ⟨rfl, hb⟩; have HB := Lib.hid hb; clear hb)
    | (go_at_call 96; refine (fields_in _).mono ?_; rintro e w' ⟨rfl, rfl⟩))
  have hst : DecSt w (W1.alloc (.cells fieldsC 149)) S [] W1.heap.size := by
    have hz := HB.out.size
    simp only [World.size_alloc] at hz
    refine ⟨below_alloc (below_step (below_alloc (below_alloc (Below.refl _ _) _) _) HB.out) _, ?_, ?_, World.alloc_heap_new _ _, by omega⟩
    · exact (below_alloc (Below.refl _ _) _ |>.block _ (by omega)).trans (zero_kept HB.out)
    · refine (below_alloc (Below.refl _ _) _ |>.block _ (by omega)).trans ((HB.out.block _ (by simp)).trans ?_)
      have := World.alloc_heap_new (w.alloc (.cells #[.string ⟨#[]⟩, .int .i64 0, .int .i64 0, .int .i64 0, .int .i64 0, .int .i64 0] 84)) (.cells (headC S []) 84)
      rw [World.size_alloc] at this
      exact this
  have HST := Lib.hid hst
  clear hst HB HTR HFT hcv hcv2 q1 d1
  go_loopg [5, 32] 5 (fun k v5 v32 wr => ∃ (j : Nat) (vs : List Int), v5 = .int .i64 (fieldAt j) ∧ v32 = .int .i64 (j : Int) ∧ Hid (k = 5 - j ∧ j ≤ 5 ∧ DecAt l S j vs ∧ DecSt w wr S vs W1.heap.size))
  case atStart => exact ⟨0, [], rfl, rfl, Lib.hid ⟨rfl, by omega, ⟨rfl, by simp⟩, HST.out⟩⟩
  case round =>
    obtain ⟨j, vs, rfl, rfl, HJ⟩ := hrel
    clear HST
    generalize W1.heap.size = F at *
    have hD := HJ.out.2.2.2
    have hlt0 : F < wr.heap.size := (Array.getElem?_eq_some_iff.1 hD.rows).1
    have hfar := hD.far
    have hj := HJ.out.2.1
    rcases (by omega : j = 0 ∨ j = 1 ∨ j = 2 ∨ j = 3 ∨ j = 4 ∨ j = 5) with rfl | rfl | rfl | rfl | rfl | rfl
    · have hF := fun i => cell_of_row wr F i _ _ _ hD.rows
      have f0 : wr.cell? ⟨F, 0, none⟩ = some (.int .i64 12) := hF 0
      have f1 : wr.cell? ⟨F, 1, none⟩ = some (.int .i64 10) := hF 1
      have f2 : wr.cell? ⟨F, 2, none⟩ = some (.bool true) := hF 2
      have f3 : wr.cell? ⟨F, 3, none⟩ = some (.func (.func 109) #[] #[]) := hF 3
      clear hF hj
      have hst0 := run_storeAt_new (P := Tryd.prog) wr 137 #[.int .i64 0, .int .i64 0, .bool false, .nilFunc] #[.int .i64 12, .int .i64 10, .bool true, .func (.func 109) #[] #[]] (by kernel_rfl) rfl (by simp [Value.oneCell'])
      have hDY : DecSt w (wr.alloc (.cells #[.int .i64 12, .int .i64 10, .bool true, .func (.func 109) #[] #[]] 137)) S vs F := hD.go (below_alloc (Below.refl _ _) _)
      have hG := World.alloc_heap_new wr (.cells #[.int .i64 12, .int .i64 10, .bool true, .func (.func 109) #[] #[]] 137)
      obtain ⟨Y, hY⟩ : ∃ Y, wr.alloc (.cells #[.int .i64 12, .int .i64 10, .bool true, .func (.func 109) #[] #[]] 137) = Y := ⟨_, rfl⟩
      rw [hY] at hst0 hDY hG
      clear hY hD
      have HSTA := Lib.hid hst0
      have HDY := Lib.hid hDY
      clear hst0
      have hE := fun i => cell_of_row Y wr.heap.size i _ _ _ hG
      have g0 : Y.cell? ⟨wr.heap.size, 0, none⟩ = some (.int .i64 12) := hE 0
      have g1 : Y.cell? ⟨wr.heap.size, 1, none⟩ = some (.int .i64 10) := hE 1
      have g2 : Y.cell? ⟨wr.heap.size, 2, none⟩ = some (.bool true) := hE 2
      have g3 : Y.cell? ⟨wr.heap.size, 3, none⟩ = some (.func (.func 109) #[] #[]) := hE 3
      clear hG hE
      have hH := fun i => cell_of_row Y (w.heap.size + 1) i _ _ _ hDY.head
      have h0 : Y.cell? ⟨w.heap.size + 1, 0, none⟩ = some (.string S) := hH 0
      have h1 : Y.cell? ⟨w.heap.size + 1, 1, none⟩ = some (.int .i64 (vs.getD 0 0)) := hH 1
      have z1 : Y.frozen? ⟨w.heap.size + 1, 1, none⟩ = false := blk_frozen hDY.head 1
      have HPP1 := Lib.hid (HPP.out Y hDY.below 16 12 true (by omega) (by omega) (by omega) 10 (by simp))
      have HPB1 := Lib.hid (HPB.out Y hDY.below 16 12 10 true (by omega) (by omega))
      clear hH hDY
      rw [show fieldAt 0 = 16 from rfl]
      obtain ⟨X, hX⟩ : ∃ X, fieldV l (isTable S) (16, 12, 10, true) = X := ⟨_, rfl⟩
      have HX := Lib.hid hX
      clear hX
      obtain ⟨v, z⟩ := X
      cases ht : isTable S with
      | false =>
        have q : (S.toList == [47, 47]) = false := ht
        have HPC : Hid (Calls Tryd.prog 41 #[.slice (A.map fun x => ⟨x.block, x.off + 16, none⟩) 12 (c - 16), .int .i64 10] Y fun e w' => e = .returned (.tuple #[.int .i64 v, .int .i64 z]) ∧ ∃ n, w' = Y.drewN n) := by
          have h := HPP1.out
          have hx := HX.out
          rw [field_num l _ (16, 12, 10, true) (by rw [ht]; rfl)] at hx
          rw [hx] at h
          exact Lib.hid h
        clear HPP1 HPB1
        by_cases hz : z = 0
        · subst hz
          go_wp2_with (first
            | ((with_reducible refine gate_store (t := 137) (p := 7) (v := .tmp 35) rfl ?_); refine store_event rfl rfl rfl (w1 := Y) ?hrun ?_; (case hrun => (have h_ := HSTA.out; unfold execOp; simp only [Sem.run_bind]; erw [h_]; rfl)); rintro Y rfl)
            | (go_at_call 41; refine HPC.out.mono ?_; rintro e w' ⟨rfl, nq, rfl⟩)
            | (go_at_call 109; refine (at1_in _ _).mono ?_; rintro e w' ⟨rfl, rfl⟩))
          go_roundg (5 - (0 + 1))
          case measure => have := HJ.out.1; omega
          case rel => exact ⟨0 + 1, vs ++ [v], rfl, rfl, Lib.hid ⟨rfl, by omega, HJ.out.2.2.1.next (16, 12, 10, true) rfl _ HX.out, (HDY.out.go (pw_below_drewN (Below.refl _ _) nq)).put (by have := HJ.out.2.2.1.len (by omega); omega) v 1 (by have := HJ.out.2.2.1.len (by omega); omega)⟩⟩
        · have hzb : (z == 0) = false := by simpa using hz
          have hzn : (z != 0) = true := by simpa using hz
          have HZ := Lib.hid hz
          clear hz
          go_wp2_with (first
            | ((with_reducible refine gate_store (t := 137) (p := 7) (v := .tmp 35) rfl ?_); refine store_event rfl rfl rfl (w1 := Y) ?hrun ?_; (case hrun => (have h_ := HSTA.out; unfold execOp; simp only [Sem.run_bind]; erw [h_]; rfl)); rintro Y rfl)
            | (go_at_call 41; refine HPC.out.mono ?_; rintro e w' ⟨rfl, nq, rfl⟩)
            | ((with_reducible refine gate_store (t := 84) (p := 2) (v := .tmp 67) rfl ?_); refine store_event rfl rfl rfl (w1 := Y.drewN nq) ?hrun ?_; (case hrun => (have h_ := store_zero (W := Y.drewN nq) (HDY.out.go (pw_below_drewN (Below.refl _ _) nq)).zero; unfold execOp; simp only [Sem.run_bind]; erw [h_]; rfl)); rintro w' rfl))
          have hdec := (HJ.out.2.2.1).bad HOF.out (16, 12, 10, true) rfl _ _ HX.out HZ.out
          rw [hdec]
          refine bodyPost_ret (v := .tuple #[headerA ⟨#[]⟩ [0, 0, 0, 0, 0], .int .i64 z]) ?_ rfl ⟨rfl, ?_⟩
          · obtain ⟨c0, c1, c2, c3, c4, c5⟩ := zero_cells (HDY.out.go (pw_below_drewN (Below.refl _ _) nq)).zero
            simp [results, Tryd.f78, go_sem, headerA, c0, c1, c2, c3, c4, c5]
          · exact (HDY.out.go (pw_below_drewN (Below.refl _ _) nq)).below
      | true =>
        have q : (S.toList == [47, 47]) = true := ht
        have HBC : Hid (Calls Tryd.prog 62 #[.slice (A.map fun x => ⟨x.block, x.off + 16, none⟩) 12 (c - 16)] Y fun e w' => e = .returned (.bool ((partV l (16, 12, 10, true)).all fun c => decide (c = 32))) ∧ ∃ n, w' = Y.drewN n) := HPB1
        clear HPP1 HPB1
        have hx := HX.out
        rw [field_blank l _ (16, 12, 10, true) (by rw [ht]; rfl)] at hx
        cases hb : (partV l (16, 12, 10, true)).all fun c => decide (c = 32) with
        | true =>
          rw [hb, if_pos rfl] at hx
          cases hx
          rw [hb] at HBC
          clear hb
          go_wp2_with (first
            | ((with_reducible refine gate_store (t := 137) (p := 7) (v := .tmp 35) rfl ?_); refine store_event rfl rfl rfl (w1 := Y) ?hrun ?_; (case hrun => (have h_ := HSTA.out; unfold execOp; simp only [Sem.run_bind]; erw [h_]; rfl)); rintro Y rfl)
            | (go_at_call 62; refine HBC.out.mono ?_; rintro e w' ⟨rfl, nq, rfl⟩))
          go_roundg (5 - (0 + 1))
          case measure => have := HJ.out.1; omega
          case rel => exact ⟨0 + 1, vs ++ [0], rfl, rfl, Lib.hid ⟨rfl, by omega, HJ.out.2.2.1.next (16, 12, 10, true) rfl _ HX.out, (HDY.out.go (pw_below_drewN (Below.refl _ _) nq)).skip (by have := HJ.out.2.2.1.len (by omega); omega)⟩⟩
        | false =>
          rw [hb, if_neg (by simp)] at hx
          cases hx
          rw [hb] at HBC
          clear hb
          go_wp2_with (first
            | ((with_reducible refine gate_store (t := 137) (p := 7) (v := .tmp 35) rfl ?_); refine store_event rfl rfl rfl (w1 := Y) ?hrun ?_; (case hrun => (have h_ := HSTA.out; unfold execOp; simp only [Sem.run_bind]; erw [h_]; rfl)); rintro Y rfl)
            | (go_at_call 62; refine HBC.out.mono ?_; rintro e w' ⟨rfl, nq, rfl⟩)
            | ((with_reducible refine gate_store (t := 84) (p := 2) (v := .tmp 57) rfl ?_); refine store_event rfl rfl rfl (w1 := Y.drewN nq) ?hrun ?_; (case hrun => (have h_ := store_zero (W := Y.drewN nq) (HDY.out.go (pw_below_drewN (Below.refl _ _) nq)).zero; unfold execOp; simp only [Sem.run_bind]; erw [h_]; rfl)); rintro w' rfl))
          have hdec := (HJ.out.2.2.1).bad HOF.out (16, 12, 10, true) rfl _ _ HX.out (by decide)
          rw [hdec]
          refine bodyPost_ret (v := .tuple #[headerA ⟨#[]⟩ [0, 0, 0, 0, 0], .int .i64 3]) ?_ rfl ⟨rfl, ?_⟩
          · obtain ⟨c0, c1, c2, c3, c4, c5⟩ := zero_cells (HDY.out.go (pw_below_drewN (Below.refl _ _) nq)).zero
            simp [results, Tryd.f78, go_sem, headerA, c0, c1, c2, c3, c4, c5]
          · exact (HDY.out.go (pw_below_drewN (Below.refl _ _) nq)).below
    · have hF := fun i => cell_of_row wr F i _ _ _ hD.rows
      have f0 : wr.cell? ⟨F, 4, none⟩ = some (.int .i64 6) := hF 4
      have f1 : wr.cell? ⟨F, 5, none⟩ = some (.int .i64 10) := hF 5
      have f2 : wr.cell? ⟨F, 6, none⟩ = some (.bool true) := hF 6
      have f3 : wr.cell? ⟨F, 7, none⟩ = some (.func (.func 110) #[] #[]) := hF 7
      clear hF hj
      have hst0 := run_storeAt_new (P := Tryd.prog) wr 137 #[.int .i64 0, .int .i64 0, .bool false, .nilFunc] #[.int .i64 6, .int .i64 10, .bool true, .func (.func 110) #[] #[]] (by kernel_rfl) rfl (by simp [Value.oneCell'])
      have hDY : DecSt w (wr.alloc (.cells #[.int .i64 6, .int .i64 10, .bool true, .func (.func 110) #[] #[]] 137)) S vs F := hD.go (below_alloc (Below.refl _ _) _)
      have hG := World.alloc_heap_new wr (.cells #[.int .i64 6, .int .i64 10, .bool true, .func (.func 110) #[] #[]] 137)
      obtain ⟨Y, hY⟩ : ∃ Y, wr.alloc (.cells #[.int .i64 6, .int .i64 10, .bool true, .func (.func 110) #[] #[]] 137) = Y := ⟨_, rfl⟩
      rw [hY] at hst0 hDY hG
      clear hY hD
      have HSTA := Lib.hid hst0
      have HDY := Lib.hid hDY
      clear hst0
      have hE := fun i => cell_of_row Y wr.heap.size i _ _ _ hG
      have g0 : Y.cell? ⟨wr.heap.size, 0, none⟩ = some (.int .i64 6) := hE 0
      have g1 : Y.cell? ⟨wr.heap.size, 1, none⟩ = some (.int .i64 10) := hE 1
      have g2 : Y.cell? ⟨wr.heap.size, 2, none⟩ = some (.bool true) := hE 2
      have g3 : Y.cell? ⟨wr.heap.size, 3, none⟩ = some (.func (.func 110) #[] #[]) := hE 3
      clear hG hE
      have hH := fun i => cell_of_row Y (w.heap.size + 1) i _ _ _ hDY.head
      have h0 : Y.cell? ⟨w.heap.size + 1, 0, none⟩ = some (.string S) := hH 0
      have h1 : Y.cell? ⟨w.heap.size + 1, 2, none⟩ = some (.int .i64 (vs.getD 1 0)) := hH 2
      have z1 : Y.frozen? ⟨w.heap.size + 1, 2, none⟩ = false := blk_frozen hDY.head 2
      have HPP1 := Lib.hid (HPP.out Y hDY.below 28 6 true (by omega) (by omega) (by omega) 10 (by simp))
      have HPB1 := Lib.hid (HPB.out Y hDY.below 28 6 10 true (by omega) (by omega))
      clear hH hDY
      rw [show fieldAt 1 = 28 from rfl]
      obtain ⟨X, hX⟩ : ∃ X, fieldV l (isTable S) (28, 6, 10, true) = X := ⟨_, rfl⟩
      have HX := Lib.hid hX
      clear hX
      obtain ⟨v, z⟩ := X
      cases ht : isTable S with
      | false =>
        have q : (S.toList == [47, 47]) = false := ht
        have HPC : Hid (Calls Tryd.prog 41 #[.slice (A.map fun x => ⟨x.block, x.off + 28, none⟩) 6 (c - 28), .int .i64 10] Y fun e w' => e = .returned (.tuple #[.int .i64 v, .int .i64 z]) ∧ ∃ n, w' = Y.drewN n) := by
          have h := HPP1.out
          have hx := HX.out
          rw [field_num l _ (28, 6, 10, true) (by rw [ht]; rfl)] at hx
          rw [hx] at h
          exact Lib.hid h
        clear HPP1 HPB1
        by_cases hz : z = 0
        · subst hz
          go_wp2_with (first
            | ((with_reducible refine gate_store (t := 137) (p := 7) (v := .tmp 35) rfl ?_); refine store_event rfl rfl rfl (w1 := Y) ?hrun ?_; (case hrun => (have h_ := HSTA.out; unfold execOp; simp only [Sem.run_bind]; erw [h_]; rfl)); rintro Y rfl)
            | (go_at_call 41; refine HPC.out.mono ?_; rintro e w' ⟨rfl, nq, rfl⟩)
            | (go_at_call 110; refine (at2_in _ _).mono ?_; rintro e w' ⟨rfl, rfl⟩))
          go_roundg (5 - (1 + 1))
          case measure => have := HJ.out.1; omega
          case rel => exact ⟨1 + 1, vs ++ [v], rfl, rfl, Lib.hid ⟨rfl, by omega, HJ.out.2.2.1.next (28, 6, 10, true) rfl _ HX.out, (HDY.out.go (pw_below_drewN (Below.refl _ _) nq)).put (by have := HJ.out.2.2.1.len (by omega); omega) v 2 (by have := HJ.out.2.2.1.len (by omega); omega)⟩⟩
        · have hzb : (z == 0) = false := by simpa using hz
          have hzn : (z != 0) = true := by simpa using hz
          have HZ := Lib.hid hz
          clear hz
          go_wp2_with (first
            | ((with_reducible refine gate_store (t := 137) (p := 7) (v := .tmp 35) rfl ?_); refine store_event rfl rfl rfl (w1 := Y) ?hrun ?_; (case hrun => (have h_ := HSTA.out; unfold execOp; simp only [Sem.run_bind]; erw [h_]; rfl)); rintro Y rfl)
            | (go_at_call 41; refine HPC.out.mono ?_; rintro e w' ⟨rfl, nq, rfl⟩)
            | ((with_reducible refine gate_store (t := 84) (p := 2) (v := .tmp 67) rfl ?_); refine store_event rfl rfl rfl (w1 := Y.drewN nq) ?hrun ?_; (case hrun => (have h_ := store_zero (W := Y.drewN nq) (HDY.out.go (pw_below_drewN (Below.refl _ _) nq)).zero; unfold execOp; simp only [Sem.run_bind]; erw [h_]; rfl)); rintro w' rfl))
          have hdec := (HJ.out.2.2.1).bad HOF.out (28, 6, 10, true) rfl _ _ HX.out HZ.out
          rw [hdec]
          refine bodyPost_ret (v := .tuple #[headerA ⟨#[]⟩ [0, 0, 0, 0, 0], .int .i64 z]) ?_ rfl ⟨rfl, ?_⟩
          · obtain ⟨c0, c1, c2, c3, c4, c5⟩ := zero_cells (HDY.out.go (pw_below_drewN (Below.refl _ _) nq)).zero
            simp [results, Tryd.f78, go_sem, headerA, c0, c1, c2, c3, c4, c5]
          · exact (HDY.out.go (pw_below_drewN (Below.refl _ _) nq)).below
      | true =>
        have q : (S.toList == [47, 47]) = true := ht
        have HBC : Hid (Calls Tryd.prog 62 #[.slice (A.map fun x => ⟨x.block, x.off + 28, none⟩) 6 (c - 28)] Y fun e w' => e = .returned (.bool ((partV l (28, 6, 10, true)).all fun c => decide (c = 32))) ∧ ∃ n, w' = Y.drewN n) := HPB1
        clear HPP1 HPB1
        have hx := HX.out
        rw [field_blank l _ (28, 6, 10, true) (by rw [ht]; rfl)] at hx
        cases hb : (partV l (28, 6, 10, true)).all fun c => decide (c = 32) with
        | true =>
          rw [hb, if_pos rfl] at hx
          cases hx
          rw [hb] at HBC
          clear hb
          go_wp2_with (first
            | ((with_reducible refine gate_store (t := 137) (p := 7) (v := .tmp 35) rfl ?_); refine store_event rfl rfl rfl (w1 := Y) ?hrun ?_; (case hrun => (have h_ := HSTA.out; unfold execOp; simp only [Sem.run_bind]; erw [h_]; rfl)); rintro Y rfl)
            | (go_at_call 62; refine HBC.out.mono ?_; rintro e w' ⟨rfl, nq, rfl⟩))
          go_roundg (5 - (1 + 1))
          case measure => have := HJ.out.1; omega
          case rel => exact ⟨1 + 1, vs ++ [0], rfl, rfl, Lib.hid ⟨rfl, by omega, HJ.out.2.2.1.next (28, 6, 10, true) rfl _ HX.out, (HDY.out.go (pw_below_drewN (Below.refl _ _) nq)).skip (by have := HJ.out.2.2.1.len (by omega); omega)⟩⟩
        | false =>
          rw [hb, if_neg (by simp)] at hx
          cases hx
          rw [hb] at HBC
          clear hb
          go_wp2_with (first
            | ((with_reducible refine gate_store (t := 137) (p := 7) (v := .tmp 35) rfl ?_); refine store_event rfl rfl rfl (w1 := Y) ?hrun ?_; (case hrun => (have h_ := HSTA.out; unfold execOp; simp only [Sem.run_bind]; erw [h_]; rfl)); rintro Y rfl)
            | (go_at_call 62; refine HBC.out.mono ?_; rintro e w' ⟨rfl, nq, rfl⟩)
            | ((with_reducible refine gate_store (t := 84) (p := 2) (v := .tmp 57) rfl ?_); refine store_event rfl rfl rfl (w1 := Y.drewN nq) ?hrun ?_; (case hrun => (have h_ := store_zero (W := Y.drewN nq) (HDY.out.go (pw_below_drewN (Below.refl _ _) nq)).zero; unfold execOp; simp only [Sem.run_bind]; erw [h_]; rfl)); rintro w' rfl))
          have hdec := (HJ.out.2.2.1).bad HOF.out (28, 6, 10, true) rfl _ _ HX.out (by decide)
          rw [hdec]
          refine bodyPost_ret (v := .tuple #[headerA ⟨#[]⟩ [0, 0, 0, 0, 0], .int .i64 3]) ?_ rfl ⟨rfl, ?_⟩
          · obtain ⟨c0, c1, c2, c3, c4, c5⟩ := zero_cells (HDY.out.go (pw_below_drewN (Below.refl _ _) nq)).zero
            simp [results, Tryd.f78, go_sem, headerA, c0, c1, c2, c3, c4, c5]
          · exact (HDY.out.go (pw_below_drewN (Below.refl _ _) nq)).below
    · have hF := fun i => cell_of_row wr F i _ _ _ hD.rows
      have f0 : wr.cell? ⟨F, 8, none⟩ = some (.int .i64 6) := hF 8
      have f1 : wr.cell? ⟨F, 9, none⟩ = some (.int .i64 10) := hF 9
      have f2 : wr.cell? ⟨F, 10, none⟩ = some (.bool true) := hF 10
      have f3 : wr.cell? ⟨F, 11, none⟩ = some (.func (.func 111) #[] #[]) := hF 11
      clear hF hj
      have hst0 := run_storeAt_new (P := Tryd.prog) wr 137 #[.int .i64 0, .int .i64 0, .bool false, .nilFunc] #[.int .i64 6, .int .i64 10, .bool true, .func (.func 111) #[] #[]] (by kernel_rfl) rfl (by simp [Value.oneCell'])
      have hDY : DecSt w (wr.alloc (.cells #[.int .i64 6, .int .i64 10, .bool true, .func (.func 111) #[] #[]] 137)) S vs F := hD.go (below_alloc (Below.refl _ _) _)
      have hG := World.alloc_heap_new wr (.cells #[.int .i64 6, .int .i64 10, .bool true, .func (.func 111) #[] #[]] 137)
      obtain ⟨Y, hY⟩ : ∃ Y, wr.alloc (.cells #[.int .i64 6, .int .i64 10, .bool true, .func (.func 111) #[] #[]] 137) = Y := ⟨_, rfl⟩
      rw [hY] at hst0 hDY hG
      clear hY hD
      have HSTA := Lib.hid hst0
      have HDY := Lib.hid hDY
      clear hst0
      have hE := fun i => cell_of_row Y wr.heap.size i _ _ _ hG
      have g0 : Y.cell? ⟨wr.heap.size, 0, none⟩ = some (.int .i64 6) := hE 0
      have g1 : Y.cell? ⟨wr.heap.size, 1, none⟩ = some (.int .i64 10) := hE 1
      have g2 : Y.cell? ⟨wr.heap.size, 2, none⟩ = some (.bool true) := hE 2
      have g3 : Y.cell? ⟨wr.heap.size, 3, none⟩ = some (.func (.func 111) #[] #[]) := hE 3
      clear hG hE
      have hH := fun i => cell_of_row Y (w.heap.size + 1) i _ _ _ hDY.head
      have h0 : Y.cell? ⟨w.heap.size + 1, 0, none⟩ = some (.string S) := hH 0
      have h1 : Y.cell? ⟨w.heap.size + 1, 3, none⟩ = some (.int .i64 (vs.getD 2 0)) := hH 3
      have z1 : Y.frozen? ⟨w.heap.size + 1, 3, none⟩ = false := blk_frozen hDY.head 3
      have HPP1 := Lib.hid (HPP.out Y hDY.below 34 6 true (by omega) (by omega) (by omega) 10 (by simp))
      have HPB1 := Lib.hid (HPB.out Y hDY.below 34 6 10 true (by omega) (by omega))
      clear hH hDY
      rw [show fieldAt 2 = 34 from rfl]
      obtain ⟨X, hX⟩ : ∃ X, fieldV l (isTable S) (34, 6, 10, true) = X := ⟨_, rfl⟩
      have HX := Lib.hid hX
      clear hX
      obtain ⟨v, z⟩ := X
      cases ht : isTable S with
      | false =>
        have q : (S.toList == [47, 47]) = false := ht
        have HPC : Hid (Calls Tryd.prog 41 #[.slice (A.map fun x => ⟨x.block, x.off + 34, none⟩) 6 (c - 34), .int .i64 10] Y fun e w' => e = .returned (.tuple #[.int .i64 v, .int .i64 z]) ∧ ∃ n, w' = Y.drewN n) := by
          have h := HPP1.out
          have hx := HX.out
          rw [field_num l _ (34, 6, 10, true) (by rw [ht]; rfl)] at hx
          rw [hx] at h
          exact Lib.hid h
        clear HPP1 HPB1
        by_cases hz : z = 0
        · subst hz
          go_wp2_with (first
            | ((with_reducible refine gate_store (t := 137) (p := 7) (v := .tmp 35) rfl ?_); refine store_event rfl rfl rfl (w1 := Y) ?hrun ?_; (case hrun => (have h_ := HSTA.out; unfold execOp; simp only [Sem.run_bind]; erw [h_]; rfl)); rintro Y rfl)
            | (go_at_call 41; refine HPC.out.mono ?_; rintro e w' ⟨rfl, nq, rfl⟩)
            | (go_at_call 111; refine (at3_in _ _).mono ?_; rintro e w' ⟨rfl, rfl⟩))
          go_roundg (5 - (2 + 1))
          case measure => have := HJ.out.1; omega
          case rel => exact ⟨2 + 1, vs ++ [v], rfl, rfl, Lib.hid ⟨rfl, by omega, HJ.out.2.2.1.next (34, 6, 10, true) rfl _ HX.out, (HDY.out.go (pw_below_drewN (Below.refl _ _) nq)).put (by have := HJ.out.2.2.1.len (by omega); omega) v 3 (by have := HJ.out.2.2.1.len (by omega); omega)⟩⟩
        · have hzb : (z == 0) = false := by simpa using hz
          have hzn : (z != 0) = true := by simpa using hz
          have HZ := Lib.hid hz
          clear hz
          go_wp2_with (first
            | ((with_reducible refine gate_store (t := 137) (p := 7) (v := .tmp 35) rfl ?_); refine store_event rfl rfl rfl (w1 := Y) ?hrun ?_; (case hrun => (have h_ := HSTA.out; unfold execOp; simp only [Sem.run_bind]; erw [h_]; rfl)); rintro Y rfl)
            | (go_at_call 41; refine HPC.out.mono ?_; rintro e w' ⟨rfl, nq, rfl⟩)
            | ((with_reducible refine gate_store (t := 84) (p := 2) (v := .tmp 67) rfl ?_); refine store_event rfl rfl rfl (w1 := Y.drewN nq) ?hrun ?_; (case hrun => (have h_ := store_zero (W := Y.drewN nq) (HDY.out.go (pw_below_drewN (Below.refl _ _) nq)).zero; unfold execOp; simp only [Sem.run_bind]; erw [h_]; rfl)); rintro w' rfl))
          have hdec := (HJ.out.2.2.1).bad HOF.out (34, 6, 10, true) rfl _ _ HX.out HZ.out
          rw [hdec]
          refine bodyPost_ret (v := .tuple #[headerA ⟨#[]⟩ [0, 0, 0, 0, 0], .int .i64 z]) ?_ rfl ⟨rfl, ?_⟩
          · obtain ⟨c0, c1, c2, c3, c4, c5⟩ := zero_cells (HDY.out.go (pw_below_drewN (Below.refl _ _) nq)).zero
            simp [results, Tryd.f78, go_sem, headerA, c0, c1, c2, c3, c4, c5]
          · exact (HDY.out.go (pw_below_drewN (Below.refl _ _) nq)).below
      | true =>
        have q : (S.toList == [47, 47]) = true := ht
        have HBC : Hid (Calls Tryd.prog 62 #[.slice (A.map fun x => ⟨x.block, x.off + 34, none⟩) 6 (c - 34)] Y fun e w' => e = .returned (.bool ((partV l (34, 6, 10, true)).all fun c => decide (c = 32))) ∧ ∃ n, w' = Y.drewN n) := HPB1
        clear HPP1 HPB1
        have hx := HX.out
        rw [field_blank l _ (34, 6, 10, true) (by rw [ht]; rfl)] at hx
        cases hb : (partV l (34, 6, 10, true)).all fun c => decide (c = 32) with
        | true =>
          rw [hb, if_pos rfl] at hx
          cases hx
          rw [hb] at HBC
          clear hb
          go_wp2_with (first
            | ((with_reducible refine gate_store (t := 137) (p := 7) (v := .tmp 35) rfl ?_); refine store_event rfl rfl rfl (w1 := Y) ?hrun ?_; (case hrun => (have h_ := HSTA.out; unfold execOp; simp only [Sem.run_bind]; erw [h_]; rfl)); rintro Y rfl)
            | (go_at_call 62; refine HBC.out.mono ?_; rintro e w' ⟨rfl, nq, rfl⟩))
          go_roundg (5 - (2 + 1))
          case measure => have := HJ.out.1; omega
          case rel => exact ⟨2 + 1, vs ++ [0], rfl, rfl, Lib.hid ⟨rfl, by omega, HJ.out.2.2.1.next (34, 6, 10, true) rfl _ HX.out, (HDY.out.go (pw_below_drewN (Below.refl _ _) nq)).skip (by have := HJ.out.2.2.1.len (by omega); omega)⟩⟩
        | false =>
          rw [hb, if_neg (by simp)] at hx
          cases hx
          rw [hb] at HBC
          clear hb
          go_wp2_with (first
            | ((with_reducible refine gate_store (t := 137) (p := 7) (v := .tmp 35) rfl ?_); refine store_event rfl rfl rfl (w1 := Y) ?hrun ?_; (case hrun => (have h_ := HSTA.out; unfold execOp; simp only [Sem.run_bind]; erw [h_]; rfl)); rintro Y rfl)
            | (go_at_call 62; refine HBC.out.mono ?_; rintro e w' ⟨rfl, nq, rfl⟩)
            | ((with_reducible refine gate_store (t := 84) (p := 2) (v := .tmp 57) rfl ?_); refine store_event rfl rfl rfl (w1 := Y.drewN nq) ?hrun ?_; (case hrun => (have h_ := store_zero (W := Y.drewN nq) (HDY.out.go (pw_below_drewN (Below.refl _ _) nq)).zero; unfold execOp; simp only [Sem.run_bind]; erw [h_]; rfl)); rintro w' rfl))
          have hdec := (HJ.out.2.2.1).bad HOF.out (34, 6, 10, true) rfl _ _ HX.out (by decide)
          rw [hdec]
          refine bodyPost_ret (v := .tuple #[headerA ⟨#[]⟩ [0, 0, 0, 0, 0], .int .i64 3]) ?_ rfl ⟨rfl, ?_⟩
          · obtain ⟨c0, c1, c2, c3, c4, c5⟩ := zero_cells (HDY.out.go (pw_below_drewN (Below.refl _ _) nq)).zero
            simp [results, Tryd.f78, go_sem, headerA, c0, c1, c2, c3, c4, c5]
          · exact (HDY.out.go (pw_below_drewN (Below.refl _ _) nq)).below
    · have hF := fun i => cell_of_row wr F i _ _ _ hD.rows
      have f0 : wr.cell? ⟨F, 12, none⟩ = some (.int .i64 8) := hF 12
      have f1 : wr.cell? ⟨F, 13, none⟩ = some (.int .i64 8) := hF 13
      have f2 : wr.cell? ⟨F, 14, none⟩ = some (.bool true) := hF 14
      have f3 : wr.cell? ⟨F, 15, none⟩ = some (.func (.func 112) #[] #[]) := hF 15
      clear hF hj
      have hst0 := run_storeAt_new (P := Tryd.prog) wr 137 #[.int .i64 0, .int .i64 0, .bool false, .nilFunc] #[.int .i64 8, .int .i64 8, .bool true, .func (.func 112) #[] #[]] (by kernel_rfl) rfl (by simp [Value.oneCell'])
      have hDY : DecSt w (wr.alloc (.cells #[.int .i64 8, .int .i64 8, .bool true, .func (.func 112) #[] #[]] 137)) S vs F := hD.go (below_alloc (Below.refl _ _) _)
      have hG := World.alloc_heap_new wr (.cells #[.int .i64 8, .int .i64 8, .bool true, .func (.func 112) #[] #[]] 137)
      obtain ⟨Y, hY⟩ : ∃ Y, wr.alloc (.cells #[.int .i64 8, .int .i64 8, .bool true, .func (.func 112) #[] #[]] 137) = Y := ⟨_, rfl⟩
      rw [hY] at hst0 hDY hG
      clear hY hD
      have HSTA := Lib.hid hst0
      have HDY := Lib.hid hDY
      clear hst0
      have hE := fun i => cell_of_row Y wr.heap.size i _ _ _ hG
      have g0 : Y.cell? ⟨wr.heap.size, 0, none⟩ = some (.int .i64 8) := hE 0
      have g1 : Y.cell? ⟨wr.heap.size, 1, none⟩ = some (.int .i64 8) := hE 1
      have g2 : Y.cell? ⟨wr.heap.size, 2, none⟩ = some (.bool true) := hE 2
      have g3 : Y.cell? ⟨wr.heap.size, 3, none⟩ = some (.func (.func 112) #[] #[]) := hE 3
      clear hG hE
      have hH := fun i => cell_of_row Y (w.heap.size + 1) i _ _ _ hDY.head
      have h0 : Y.cell? ⟨w.heap.size + 1, 0, none⟩ = some (.string S) := hH 0
      have h1 : Y.cell? ⟨w.heap.size + 1, 4, none⟩ = some (.int .i64 (vs.getD 3 0)) := hH 4
      have z1 : Y.frozen? ⟨w.heap.size + 1, 4, none⟩ = false := blk_frozen hDY.head 4
      have HPP1 := Lib.hid (HPP.out Y hDY.below 40 8 true (by omega) (by omega) (by omega) 8 (by simp))
      have HPB1 := Lib.hid (HPB.out Y hDY.below 40 8 8 true (by omega) (by omega))
      clear hH hDY
      rw [show fieldAt 3 = 40 from rfl]
      obtain ⟨X, hX⟩ : ∃ X, fieldV l (isTable S) (40, 8, 8, true) = X := ⟨_, rfl⟩
      have HX := Lib.hid hX
      clear hX
      obtain ⟨v, z⟩ := X
      cases ht : isTable S with
      | false =>
        have q : (S.toList == [47, 47]) = false := ht
        have HPC : Hid (Calls Tryd.prog 41 #[.slice (A.map fun x => ⟨x.block, x.off + 40, none⟩) 8 (c - 40), .int .i64 8] Y fun e w' => e = .returned (.tuple #[.int .i64 v, .int .i64 z]) ∧ ∃ n, w' = Y.drewN n) := by
          have h := HPP1.out
          have hx := HX.out
          rw [field_num l _ (40, 8, 8, true) (by rw [ht]; rfl)] at hx
          rw [hx] at h
          exact Lib.hid h
        clear HPP1 HPB1
        by_cases hz : z = 0
        · subst hz
          go_wp2_with (first
            | ((with_reducible refine gate_store (t := 137) (p := 7) (v := .tmp 35) rfl ?_); refine store_event rfl rfl rfl (w1 := Y) ?hrun ?_; (case hrun => (have h_ := HSTA.out; unfold execOp; simp only [Sem.run_bind]; erw [h_]; rfl)); rintro Y rfl)
            | (go_at_call 41; refine HPC.out.mono ?_; rintro e w' ⟨rfl, nq, rfl⟩)
            | (go_at_call 112; refine (at4_in _ _).mono ?_; rintro e w' ⟨rfl, rfl⟩))
          go_roundg (5 - (3 + 1))
          case measure => have := HJ.out.1; omega
          case rel => exact ⟨3 + 1, vs ++ [v], rfl, rfl, Lib.hid ⟨rfl, by omega, HJ.out.2.2.1.next (40, 8, 8, true) rfl _ HX.out, (HDY.out.go (pw_below_drewN (Below.refl _ _) nq)).put (by have := HJ.out.2.2.1.len (by omega); omega) v 4 (by have := HJ.out.2.2.1.len (by omega); omega)⟩⟩
        · have hzb : (z == 0) = false := by simpa using hz
          have hzn : (z != 0) = true := by simpa using hz
          have HZ := Lib.hid hz
          clear hz
          go_wp2_with (first
            | ((with_reducible refine gate_store (t := 137) (p := 7) (v := .tmp 35) rfl ?_); refine store_event rfl rfl rfl (w1 := Y) ?hrun ?_; (case hrun => (have h_ := HSTA.out; unfold execOp; simp only [Sem.run_bind]; erw [h_]; rfl)); rintro Y rfl)
            | (go_at_call 41; refine HPC.out.mono ?_; rintro e w' ⟨rfl, nq, rfl⟩)
            | ((with_reducible refine gate_store (t := 84) (p := 2) (v := .tmp 67) rfl ?_); refine store_event rfl rfl rfl (w1 := Y.drewN nq) ?hrun ?_; (case hrun => (have h_ := store_zero (W := Y.drewN nq) (HDY.out.go (pw_below_drewN (Below.refl _ _) nq)).zero; unfold execOp; simp only [Sem.run_bind]; erw [h_]; rfl)); rintro w' rfl))
          have hdec := (HJ.out.2.2.1).bad HOF.out (40, 8, 8, true) rfl _ _ HX.out HZ.out
          rw [hdec]
          refine bodyPost_ret (v := .tuple #[headerA ⟨#[]⟩ [0, 0, 0, 0, 0], .int .i64 z]) ?_ rfl ⟨rfl, ?_⟩
          · obtain ⟨c0, c1, c2, c3, c4, c5⟩ := zero_cells (HDY.out.go (pw_below_drewN (Below.refl _ _) nq)).zero
            simp [results, Tryd.f78, go_sem, headerA, c0, c1, c2, c3, c4, c5]
          · exact (HDY.out.go (pw_below_drewN (Below.refl _ _) nq)).below
      | true =>
        have q : (S.toList == [47, 47]) = true := ht
        have HBC : Hid (Calls Tryd.prog 62 #[.slice (A.map fun x => ⟨x.block, x.off + 40, none⟩) 8 (c - 40)] Y fun e w' => e = .returned (.bool ((partV l (40, 8, 8, true)).all fun c => decide (c = 32))) ∧ ∃ n, w' = Y.drewN n) := HPB1
        clear HPP1 HPB1
        have hx := HX.out
        rw [field_blank l _ (40, 8, 8, true) (by rw [ht]; rfl)] at hx
        cases hb : (partV l (40, 8, 8, true)).all fun c => decide (c = 32) with
        | true =>
          rw [hb, if_pos rfl] at hx
          cases hx
          rw [hb] at HBC
          clear hb
          go_wp2_with (first
            | ((with_reducible refine gate_store (t := 137) (p := 7) (v := .tmp 35) rfl ?_); refine store_event rfl rfl rfl (w1 := Y) ?hrun ?_; (case hrun => (have h_ := HSTA.out; unfold execOp; simp only [Sem.run_bind]; erw [h_]; rfl)); rintro Y rfl)
            | (go_at_call 62; refine HBC.out.mono ?_; rintro e w' ⟨rfl, nq, rfl⟩))
          go_roundg (5 - (3 + 1))
          case measure => have := HJ.out.1; omega
          case rel => exact ⟨3 + 1, vs ++ [0], rfl, rfl, Lib.hid ⟨rfl, by omega, HJ.out.2.2.1.next (40, 8, 8, true) rfl _ HX.out, (HDY.out.go (pw_below_drewN (Below.refl _ _) nq)).skip (by have := HJ.out.2.2.1.len (by omega); omega)⟩⟩
        | false =>
          rw [hb, if_neg (by simp)] at hx
          cases hx
          rw [hb] at HBC
          clear hb
          go_wp2_with (first
            | ((with_reducible refine gate_store (t := 137) (p := 7) (v := .tmp 35) rfl ?_); refine store_event rfl rfl rfl (w1 := Y) ?hrun ?_; (case hrun => (have h_ := HSTA.out; unfold execOp; simp only [Sem.run_bind]; erw [h_]; rfl)); rintro Y rfl)
            | (go_at_call 62; refine HBC.out.mono ?_; rintro e w' ⟨rfl, nq, rfl⟩)
            | ((with_reducible refine gate_store (t := 84) (p := 2) (v := .tmp 57) rfl ?_); refine store_event rfl rfl rfl (w1 := Y.drewN nq) ?hrun ?_; (case hrun => (have h_ := store_zero (W := Y.drewN nq) (HDY.out.go (pw_below_drewN (Below.refl _ _) nq)).zero; unfold execOp; simp only [Sem.run_bind]; erw [h_]; rfl)); rintro w' rfl))
          have hdec := (HJ.out.2.2.1).bad HOF.out (40, 8, 8, true) rfl _ _ HX.out (by decide)
          rw [hdec]
          refine bodyPost_ret (v := .tuple #[headerA ⟨#[]⟩ [0, 0, 0, 0, 0], .int .i64 3]) ?_ rfl ⟨rfl, ?_⟩
          · obtain ⟨c0, c1, c2, c3, c4, c5⟩ := zero_cells (HDY.out.go (pw_below_drewN (Below.refl _ _) nq)).zero
            simp [results, Tryd.f78, go_sem, headerA, c0, c1, c2, c3, c4, c5]
          · exact (HDY.out.go (pw_below_drewN (Below.refl _ _) nq)).below
    · have hF := fun i => cell_of_row wr F i _ _ _ hD.rows
      have f0 : wr.cell? ⟨F, 16, none⟩ = some (.int .i64 10) := hF 16
      have f1 : wr.cell? ⟨F, 17, none⟩ = some (.int .i64 10) := hF 17
      have f2 : wr.cell? ⟨F, 18, none⟩ = some (.bool false) := hF 18
      have f3 : wr.cell? ⟨F, 19, none⟩ = some (.func (.func 113) #[] #[]) := hF 19
      clear hF hj
      have hst0 := run_storeAt_new (P := Tryd.prog) wr 137 #[.int .i64 0, .int .i64 0, .bool false, .nilFunc] #[.int .i64 10, .int .i64 10, .bool false, .func (.func 113) #[] #[]] (by kernel_rfl) rfl (by simp [Value.oneCell'])
      have hDY : DecSt w (wr.alloc (.cells #[.int .i64 10, .int .i64 10, .bool false, .func (.func 113) #[] #[]] 137)) S vs F := hD.go (below_alloc (Below.refl _ _) _)
      have hG := World.alloc_heap_new wr (.cells #[.int .i64 10, .int .i64 10, .bool false, .func (.func 113) #[] #[]] 137)
      obtain ⟨Y, hY⟩ : ∃ Y, wr.alloc (.cells #[.int .i64 10, .int .i64 10, .bool false, .func (.func 113) #[] #[]] 137) = Y := ⟨_, rfl⟩
      rw [hY] at hst0 hDY hG
      clear hY hD
      have HSTA := Lib.hid hst0
      have HDY := Lib.hid hDY
      clear hst0
      have hE := fun i => cell_of_row Y wr.heap.size i _ _ _ hG
      have g0 : Y.cell? ⟨wr.heap.size, 0, none⟩ = some (.int .i64 10) := hE 0
      have g1 : Y.cell? ⟨wr.heap.size, 1, none⟩ = some (.int .i64 10) := hE 1
      have g2 : Y.cell? ⟨wr.heap.size, 2, none⟩ = some (.bool false) := hE 2
      have g3 : Y.cell? ⟨wr.heap.size, 3, none⟩ = some (.func (.func 113) #[] #[]) := hE 3
      clear hG hE
      have hH := fun i => cell_of_row Y (w.heap.size + 1) i _ _ _ hDY.head
      have h0 : Y.cell? ⟨w.heap.size + 1, 0, none⟩ = some (.string S) := hH 0
      have h1 : Y.cell? ⟨w.heap.size + 1, 5, none⟩ = some (.int .i64 (vs.getD 4 0)) := hH 5
      have z1 : Y.frozen? ⟨w.heap.size + 1, 5, none⟩ = false := blk_frozen hDY.head 5
      have HPP1 := Lib.hid (HPP.out Y hDY.below 48 10 false (by omega) (by omega) (by omega) 10 (by simp))
      have HPB1 := Lib.hid (HPB.out Y hDY.below 48 10 10 false (by omega) (by omega))
      clear hH hDY
      rw [show fieldAt 4 = 48 from rfl]
      obtain ⟨X, hX⟩ : ∃ X, fieldV l (isTable S) (48, 10, 10, false) = X := ⟨_, rfl⟩
      have HX := Lib.hid hX
      clear hX
      obtain ⟨v, z⟩ := X
      cases ht : isTable S with
      | false =>
        have q : (S.toList == [47, 47]) = false := ht
        have HPC : Hid (Calls Tryd.prog 41 #[.slice (A.map fun x => ⟨x.block, x.off + 48, none⟩) 10 (c - 48), .int .i64 10] Y fun e w' => e = .returned (.tuple #[.int .i64 v, .int .i64 z]) ∧ ∃ n, w' = Y.drewN n) := by
          have h := HPP1.out
          have hx := HX.out
          rw [field_num l _ (48, 10, 10, false) (by simp)] at hx
          rw [hx] at h
          exact Lib.hid h
        clear HPP1 HPB1
        by_cases hz : z = 0
        · subst hz
          go_wp2_with (first
            | ((with_reducible refine gate_store (t := 137) (p := 7) (v := .tmp 35) rfl ?_); refine store_event rfl rfl rfl (w1 := Y) ?hrun ?_; (case hrun => (have h_ := HSTA.out; unfold execOp; simp only [Sem.run_bind]; erw [h_]; rfl)); rintro Y rfl)
            | (go_at_call 41; refine HPC.out.mono ?_; rintro e w' ⟨rfl, nq, rfl⟩)
            | (go_at_call 113; refine (at5_in _ _).mono ?_; rintro e w' ⟨rfl, rfl⟩))
          go_roundg (5 - (4 + 1))
          case measure => have := HJ.out.1; omega
          case rel => exact ⟨4 + 1, vs ++ [v], rfl, rfl, Lib.hid ⟨rfl, by omega, HJ.out.2.2.1.next (48, 10, 10, false) rfl _ HX.out, (HDY.out.go (pw_below_drewN (Below.refl _ _) nq)).put (by have := HJ.out.2.2.1.len (by omega); omega) v 5 (by have := HJ.out.2.2.1.len (by omega); omega)⟩⟩
        · have hzb : (z == 0) = false := by simpa using hz
          have hzn : (z != 0) = true := by simpa using hz
          have HZ := Lib.hid hz
          clear hz
          go_wp2_with (first
            | ((with_reducible refine gate_store (t := 137) (p := 7) (v := .tmp 35) rfl ?_); refine store_event rfl rfl rfl (w1 := Y) ?hrun ?_; (case hrun => (have h_ := HSTA.out; unfold execOp; simp only [Sem.run_bind]; erw [h_]; rfl)); rintro Y rfl)
            | (go_at_call 41; refine HPC.out.mono ?_; rintro e w' ⟨rfl, nq, rfl⟩)
            | ((with_reducible refine gate_store (t := 84) (p := 2) (v := .tmp 67) rfl ?_); refine store_event rfl rfl rfl (w1 := Y.drewN nq) ?hrun ?_; (case hrun => (have h_ := store_zero (W := Y.drewN nq) (HDY.out.go (pw_below_drewN (Below.refl _ _) nq)).zero; unfold execOp; simp only [Sem.run_bind]; erw [h_]; rfl)); rintro w' rfl))
          have hdec := (HJ.out.2.2.1).bad HOF.out (48, 10, 10, false) rfl _ _ HX.out HZ.out
          rw [hdec]
          refine bodyPost_ret (v := .tuple #[headerA ⟨#[]⟩ [0, 0, 0, 0, 0], .int .i64 z]) ?_ rfl ⟨rfl, ?_⟩
          · obtain ⟨c0, c1, c2, c3, c4, c5⟩ := zero_cells (HDY.out.go (pw_below_drewN (Below.refl _ _) nq)).zero
            simp [results, Tryd.f78, go_sem, headerA, c0, c1, c2, c3, c4, c5]
          · exact (HDY.out.go (pw_below_drewN (Below.refl _ _) nq)).below
      | true =>
        have q : (S.toList == [47, 47]) = true := ht
        have HPC : Hid (Calls Tryd.prog 41 #[.slice (A.map fun x => ⟨x.block, x.off + 48, none⟩) 10 (c - 48), .int .i64 10] Y fun e w' => e = .returned (.tuple #[.int .i64 v, .int .i64 z]) ∧ ∃ n, w' = Y.drewN n) := by
          have h := HPP1.out
          have hx := HX.out
          rw [field_num l _ (48, 10, 10, false) (by simp)] at hx
          rw [hx] at h
          exact Lib.hid h
        clear HPP1 HPB1
        by_cases hz : z = 0
        · subst hz
          go_wp2_with (first
            | ((with_reducible refine gate_store (t := 137) (p := 7) (v := .tmp 35) rfl ?_); refine store_event rfl rfl rfl (w1 := Y) ?hrun ?_; (case hrun => (have h_ := HSTA.out; unfold execOp; simp only [Sem.run_bind]; erw [h_]; rfl)); rintro Y rfl)
            | (go_at_call 41; refine HPC.out.mono ?_; rintro e w' ⟨rfl, nq, rfl⟩)
            | (go_at_call 113; refine (at5_in _ _).mono ?_; rintro e w' ⟨rfl, rfl⟩))
          go_roundg (5 - (4 + 1))
          case measure => have := HJ.out.1; omega
          case rel => exact ⟨4 + 1, vs ++ [v], rfl, rfl, Lib.hid ⟨rfl, by omega, HJ.out.2.2.1.next (48, 10, 10, false) rfl _ HX.out, (HDY.out.go (pw_below_drewN (Below.refl _ _) nq)).put (by have := HJ.out.2.2.1.len (by omega); omega) v 5 (by have := HJ.out.2.2.1.len (by omega); omega)⟩⟩
        · have hzb : (z == 0) = false := by simpa using hz
          have hzn : (z != 0) = true := by simpa using hz
          have HZ := Lib.hid hz
          clear hz
          go_wp2_with (first
            | ((with_reducible refine gate_store (t := 137) (p := 7) (v := .tmp 35) rfl ?_); refine store_event rfl rfl rfl (w1 := Y) ?hrun ?_; (case hrun => (have h_ := HSTA.out; unfold execOp; simp only [Sem.run_bind]; erw [h_]; rfl)); rintro Y rfl)
            | (go_at_call 41; refine HPC.out.mono ?_; rintro e w' ⟨rfl, nq, rfl⟩)
            | ((with_reducible refine gate_store (t := 84) (p := 2) (v := .tmp 67) rfl ?_); refine store_event rfl rfl rfl (w1 := Y.drewN nq) ?hrun ?_; (case hrun => (have h_ := store_zero (W := Y.drewN nq) (HDY.out.go (pw_below_drewN (Below.refl _ _) nq)).zero; unfold execOp; simp only [Sem.run_bind]; erw [h_]; rfl)); rintro w' rfl))
          have hdec := (HJ.out.2.2.1).bad HOF.out (48, 10, 10, false) rfl _ _ HX.out HZ.out
          rw [hdec]
          refine bodyPost_ret (v := .tuple #[headerA ⟨#[]⟩ [0, 0, 0, 0, 0], .int .i64 z]) ?_ rfl ⟨rfl, ?_⟩
          · obtain ⟨c0, c1, c2, c3, c4, c5⟩ := zero_cells (HDY.out.go (pw_below_drewN (Below.refl _ _) nq)).zero
            simp [results, Tryd.f78, go_sem, headerA, c0, c1, c2, c3, c4, c5]
          · exact (HDY.out.go (pw_below_drewN (Below.refl _ _) nq)).below
    · have hdec := (HJ.out.2.2.1).done HOF.out
      have hH := fun i => cell_of_row wr (w.heap.size + 1) i _ _ _ hD.head
      have h0 : wr.cell? ⟨w.heap.size + 1, 0, none⟩ = some (.string S) := hH 0
      have h1 : wr.cell? ⟨w.heap.size + 1, 1, none⟩ = some (.int .i64 (vs.getD 0 0)) := hH 1
      have h2 : wr.cell? ⟨w.heap.size + 1, 2, none⟩ = some (.int .i64 (vs.getD 1 0)) := hH 2
      have h3 : wr.cell? ⟨w.heap.size + 1, 3, none⟩ = some (.int .i64 (vs.getD 2 0)) := hH 3
      have h4 : wr.cell? ⟨w.heap.size + 1, 4, none⟩ = some (.int .i64 (vs.getD 3 0)) := hH 4
      have h5 : wr.cell? ⟨w.heap.size + 1, 5, none⟩ = some (.int .i64 (vs.getD 4 0)) := hH 5
      have HDD := Lib.hid hD
      have HDEC := Lib.hid hdec
      have hstF := store_head (S := S) (vs := vs) hD.zero
      have HSTF := Lib.hid hstF
      clear hH hD hdec hj HPP HPB hstF
      go_wp2_with ((with_reducible refine gate_store (t := 84) (p := 2) (v := .tmp 75) rfl ?_); refine store_event rfl rfl rfl (w1 := wr.setRow w.heap.size (headC S vs)) ?hrun ?_; (case hrun => (have h_ := HSTF.out; unfold execOp; simp only [Sem.run_bind]; erw [h_]; rfl)); rintro w' rfl)
      rw [HDEC.out]
      have hR := fun i => cell_of_row _ w.heap.size i _ _ _ (setRow_at (cs := headC S vs) HDD.out.zero)
      have c0 : (wr.setRow w.heap.size (headC S vs)).cell? ⟨w.heap.size, 0, none⟩ = some (.string S) := hR 0
      have c1 : (wr.setRow w.heap.size (headC S vs)).cell? ⟨w.heap.size, 1, none⟩ = some (.int .i64 (vs.getD 0 0)) := hR 1
      have c2 : (wr.setRow w.heap.size (headC S vs)).cell? ⟨w.heap.size, 2, none⟩ = some (.int .i64 (vs.getD 1 0)) := hR 2
      have c3 : (wr.setRow w.heap.size (headC S vs)).cell? ⟨w.heap.size, 3, none⟩ = some (.int .i64 (vs.getD 2 0)) := hR 3
      have c4 : (wr.setRow w.heap.size (headC S vs)).cell? ⟨w.heap.size, 4, none⟩ = some (.int .i64 (vs.getD 3 0)) := hR 4
      have c5 : (wr.setRow w.heap.size (headC S vs)).cell? ⟨w.heap.size, 5, none⟩ = some (.int .i64 (vs.getD 4 0)) := hR 5
      have HBZ : Hid (Below w.heap.size w (wr.setRow w.heap.size (headC S vs))) := Lib.hid (setRow_below HDD.out.below (Nat.le_refl _))
      generalize wr.setRow w.heap.size (headC S vs) = Z at *
      refine bodyPost_ret (v := .tuple #[headerA S vs, .int .i64 0]) ?_ rfl ⟨rfl, ?_⟩
      · simp [results, Tryd.f78, go_sem, headerA, c0, c1, c2, c3, c4, c5]
      · exact HBZ.out
theorem decode_in (A : Option Addr) (c : Nat) (l : List Int) (w : World) (hr : (Kd.int .u8).C w A l.length l) (hc : l.length ≤ c) (hby : Byt l) :
    Calls Tryd.prog 78 #[.slice A l.length c] w (DecodeSays w (decodeV l)) := by
  by_cases h : l.length < 60
  · have e : decodeV l = (⟨#[]⟩, [0, 0, 0, 0, 0], 2) := by unfold decodeV; rw [if_pos h]
    rw [e]
    exact decode_short A c l w h
  · by_cases hm : (l.drop 58).take 2 = [96, 10]
    · cases hf : fitsV (nameV l) with
      | false =>
        have e : decodeV l = (⟨#[]⟩, [0, 0, 0, 0, 0], 6) := by unfold decodeV; rw [if_neg h, if_neg (fun e => e hm), if_pos hf]
        rw [e]
        exact decode_name A c l w hr hc h hby hm hf
      | true => exact decode_loop A c l w hr hc h hby hm hf
    · have e : decodeV l = (⟨#[]⟩, [0, 0, 0, 0, 0], 4) := by unfold decodeV; rw [if_neg h, if_pos hm]
      rw [e]
      exact decode_mark A c l w hr hc h hby hm
def header_Decode.f (l : List Int) : Option (ByteArray × Int × Int × Int × Int × Int × Int) := if isBytes l = true then some ((decodeV l).1, (decodeV l).2.1.getD 0 0, (decodeV l).2.1.getD 1 0, (decodeV l).2.1.getD 2 0, (decodeV l).2.1.getD 3 0, (decodeV l).2.1.getD 4 0, (decodeV l).2.2) else none
theorem header_Decode.calls (A0 : Option Addr) (c0 : Nat) (l0 : List Int) (r1 : ByteArray) (r2 r3 r4 r5 r6 r7 : Int) (w : World) (hr0 : Kd.C (Kd.int .u8) w A0 l0.length l0) (hc0 : l0.length ≤ c0) (h : header_Decode.f l0 = some (r1, r2, r3, r4, r5, r6, r7)) :
    Calls Tryd.prog 78 #[.slice A0 l0.length c0] w fun e w' => e = .returned (.tuple #[.agg #[.string r1, .int .i64 r2, .int .i64 r3, .int .i64 r4, .int .i64 r5, .int .i64 r6], .int .i64 r7]) ∧ Below w.heap.size w w' := by
  unfold header_Decode.f at h
  split at h
  · rename_i hb
    have h2 := decode_in A0 c0 l0 w hr0 hc0 (Byt.of hb)
    simp only [Option.some.injEq, Prod.mk.injEq] at h
    obtain ⟨rfl, rfl, rfl, rfl, rfl, rfl, rfl⟩ := h
    exact h2
  · cases h
#print axioms header_Decode.calls
end Go.Proofs.YtjiokdkgbnakhaaDoor.Own
end TDecodeL
section TClone
set_option linter.unusedVariables false
set_option linter.unusedSimpArgs false
namespace Go.Proofs.YtjiokdkgbnakhaaDoor.Own
open Go.RowKit Go.Proofs.YtjiokdkgbnakhaaDoor Go.Proofs.YtjiokdkgbnakhaaDoorW.PrintWords Go.Proofs.YtjiokdkgbnakhaaDoorW.PrintLast Go.Proofs.YtjiokdkgbnakhaaDoorW.PrintMore
set_option maxRecDepth 100000 in
set_option maxHeartbeats 4000000 in
theorem clone_in (A : Option Addr) (c : Nat) (l : List Int) (w : World) (hr : (Kd.int .u8).C w A l.length l) (hc : l.length ≤ c) (hl : l.length < 140737488355328) :
    Calls Tryd.prog 79 #[.slice A l.length c] w fun e w' => ∃ v : Value, e = .returned v ∧ (Kd.int .u8).R 5 w' w.heap.size (fun _ => True) v l ∧ Below w.heap.size w w' := by
  cases A with
  | none =>
    have e : l = [] := by
      obtain ⟨_, _, h3⟩ := Kd.reads_of_C (enc := Value.int .u8) (d := (0 : Int)) (h1 := fun _ => rfl) hr
      by_cases h0 : 0 < l.length
      · obtain ⟨ad, h, _⟩ := h3 h0
        cases h
      · exact List.eq_nil_of_length_eq_zero (by omega)
    subst e
    have q := fun w => Lib.run_eql_slice_nil (P := Tryd.prog) w 22 5 none 0 c 0 0 Tryd.underlying22
    simp only [Option.isNone_none] at q
    go_enter Tryd.func79, Tryd.ntmps79
    go_wp2
    go_ret
    exact ⟨_, rfl, Kd.R_nil _ _ _ _ _, Below.refl _ _⟩
  | some ad =>
    have q := fun w => Lib.run_eql_slice_nil (P := Tryd.prog) w 22 5 (some ad) l.length c 0 0 Tryd.underlying22
    simp only [Option.isNone_some] at q
    go_enter Tryd.func79, Tryd.ntmps79
    have HR := Aside0.mk hr
    have HL := Aside0.mk hl
    clear hr hl
    go_wp2_with (first
      | ((with_reducible refine gate_dst (N := 5) rfl ?_); refine Kd.R_lit (Kd.int .u8) _ 5 ?hg (N := 5) ?hd (xs := ([] : List Int)) (inner := []) (ok := fun _ => True) (okp := fun _ => True) ?hr ?hp (fun _ hk => hk) trivial (Below.refl _ _) (Nat.le_refl _) (by simp) ?_; (case hd => rfl); (case hg => rfl); (case hr => first | (go_simp; done) | (go_simp; rfl)); (case hp => exact (Reps.none _ _)); intro v5 w5 ho hb hg_ hnew_; clear hg_ hnew_; have HO := Aside0.mk ho; have HB := Aside0.mk hb; clear ho hb)
      | ((with_reducible refine gate_builtin (b := .append) (xs := #[.tmp 5, .tmp 6]) rfl ?_); at_builtin; refine Kd.R_append_rows (Kd.int .u8) (w0 := w) w.heap.size rfl (.tmp 5) (.tmp 6) 22 5 (.int .u8 0) 1 rfl Tryd.underlying22 K.info5 rfl (by decide) (by omega) v5 [] l _ _ _ (fun _ => True) (fun _ => False) rfl rfl ?aO ?aR (fun _ _ h => h) (fun _ h => h.elim) ?aF ?aB ?aS ?aL ?_; (case aR => exact Kd.C_below HR.out HB.out); (case aB => exact HB.out); (case aF => exact (fun _ _ => trivial)); (case aO => exact HO.out); (case aS => exact HB.out.size); (case aL => have := HL.out; simp; omega); intro v7 w7 ho7 hb7 hg7 hat7; have HO7 := Aside0.mk ho7; have HB7 := Aside0.mk hb7; clear ho7 hb7 hg7 hat7))
    go_ret
    exact ⟨_, rfl, HO7.out, HB7.out⟩
def slices_Clone_byte_byte.f (l : List Int) : Option (List Int) := if l.length < 140737488355328 then some l else none
theorem slices_Clone_byte_byte.calls (A0 : Option Addr) (c0 : Nat) (l0 : List Int) (r : List Int) (w : World) (hr0 : Kd.C (Kd.int .u8) w A0 l0.length l0) (hc0 : l0.length ≤ c0) (h : slices_Clone_byte_byte.f l0 = some r) :
    Calls Tryd.prog 79 #[.slice A0 l0.length c0] w fun e w' => ∃ v0_ : Value, e = .returned (v0_) ∧ Kd.R (Kd.int .u8) 5 w' w.heap.size (fun _ => True) v0_ r ∧ Below w.heap.size w w' := by
  unfold slices_Clone_byte_byte.f at h
  split at h
  · rename_i hl
    cases h
    exact clone_in A0 c0 l0 w hr0 hc0 hl
  · cases h
#print axioms slices_Clone_byte_byte.calls
end Go.Proofs.YtjiokdkgbnakhaaDoor.Own
end TClone
