/- Packed by a program of our own: the texts that the card of this claim needs, part 5 of 7; conditions: those of each theorem. -/
import Derived.ChangeAlike
import Derived.Lib.FrozenHead2
import Derived.LoopIn
import Derived.LoopNIn
import Derived.Outline
import Derived.OwnWalkIn
import Derived.RangeFuncBox
import Derived.RangeFuncLeaves
import Derived.RangeFuncNested
import Derived.RegionTactic
import Derived.TacticsInMore
import Derived.Test.YtjiokdkgbnakhaaDoorP13
section TResD
set_option linter.unusedVariables false
set_option linter.unusedSimpArgs false
namespace Go.Proofs.YtjiokdkgbnakhaaDoor.Own
open Go.RowKit Go.Shelf Go.Proofs.YtjiokdkgbnakhaaDoor Go.Proofs.YtjiokdkgbnakhaaDoorW.PrintWords Go.Proofs.YtjiokdkgbnakhaaDoorW.PrintLast Go.Proofs.YtjiokdkgbnakhaaDoorW.PrintMore
attribute [local go_sem] Oper.semAt_some
set_option maxRecDepth 100000 in
set_option maxHeartbeats 4000000 in
theorem resolve_loop2 (field : ByteArray) (hs : field.size ≤ 9223372036854775807) (A : Option Addr) (c : Nat) (xs : List Int) (w : World) (hr : (Kd.int .u8).C w A xs.length xs) (hlen : xs.length ≤ c) (hM : Gmaxlen w) (hx4 : xs.length < 4294967281) (hby : ∀ x ∈ xs, 0 ≤ x ∧ x < 256)
    (h1 : hasSuf field = true) (h2 : shortB (cutSuf field) = false)
    (hp : hasPre field = true) (hz : (cutPre field).size ≤ 15) (hsp : hasSp (cutPre field) = false) (n : Int) (hn : parseV (bytesOf (cutPre field)) 10 = (n, 0)) :
    CallsIn Fence.wide 4 Tryd.prog 18 #[.string field, .slice A xs.length c] w fun e w' => e = .returned (.tuple #[.string (findLine n (linesOf xs)).1, .int .i64 (findLine n (linesOf xs)).2]) ∧ Below w.heap.size w w' := by
  have HR := Lib.hid hr
  have HM := Lib.hid hM
  have HBY := Lib.hid hby
  obtain ⟨d, hd⟩ : ∃ d, cutPre field = d := ⟨_, rfl⟩
  rw [hd] at hz hsp hn
  have hcp : ∀ W : World, Calls Tryd.prog 39 #[.string field, .string ⟨#[47]⟩] W fun e w' => e = .returned (.tuple #[.string d, .bool true]) ∧ W = w' := fun W => by have := cutPre_calls field W; rwa [hd, hp] at this
  have HCP := Lib.hid hcp
  have HPS := Lib.hid (parse_str d (by omega))
  rw [hn] at HPS
  clear hcp hd hp hn hr hM hby
  have kc := conv_bytes
  refine callsIn_of_wp_marks Tryd.func18 rfl trivial ?_ rfl
  simp only [Tryd.ntmps18, List.size_toArray, List.length_cons, List.length_nil, Nat.reduceAdd, Nat.reduceSub, Array.replicate_succ, Array.replicate_zero, List.push_toArray, List.append_toArray, List.nil_append, List.cons_append]
  gi_wp2_with (first
    | (refine ⟨trivial, ?_⟩; gi_at_call 38; refine (callsIn_wide.2 (cutSuf_calls _ hs _)).mono ?_; rintro e w' ⟨rfl, rfl⟩)
    | (refine ⟨trivial, ?_⟩; gi_at_call 36; refine (callsIn_wide.2 (short_calls _ _)).mono ?_; rintro e W1 ⟨rfl, hb⟩; have HB1 := Lib.hid hb; clear hb; have HP1 := Lib.hid (HPS.out W1))
    | (refine ⟨trivial, ?_⟩; gi_at_call 39; refine (callsIn_wide.2 (HCP.out _)).mono ?_; rintro e w' ⟨rfl, rfl⟩)
    | (refine ⟨trivial, ?_⟩; gi_at_call 40; refine (callsIn_wide.2 (hasSp_calls _ _)).mono ?_; rintro e w' ⟨rfl, rfl⟩)
    | (refine ⟨trivial, ?_⟩; gi_at_call 41; refine (callsIn_wide.2 HP1.out).mono ?_; rintro e W ⟨rfl, hb0, hsz⟩; have HB := Lib.hid (And.intro hb0 hsz); clear hb0 hsz)
    | (refine ⟨trivial, ?_⟩; gi_at_call 37; refine (callsIn_wide.2 (lines_in _ _ _ _)).mono ?_; rintro e w' ⟨rfl, rfl⟩)
    | (refine ⟨trivial, ?_⟩))
  have hres := resW w W n (.slice A xs.length c) (HB1.out.trans (HB.out.1.mono HB1.out.size))
  obtain ⟨v43, hv43⟩ : ∃ v, Value.slice (some ⟨W1.heap.size, 0, none⟩) d.size (grownCap W1 d.size 0 5) = v := ⟨_, rfl⟩
  rw [hv43]
  clear hv43
  obtain ⟨W0, hW0⟩ : ∃ W0, (W.alloc (.cells #[.int .i64 n] 3)).alloc (.cells #[.slice A xs.length c] 22) = W0 := ⟨_, rfl⟩
  rw [hW0] at hres
  rw [hW0]
  obtain ⟨B, hB⟩ : ∃ B, w.heap.size = B := ⟨_, rfl⟩
  rw [hB] at hres
  rw [hB]
  obtain ⟨b0, b1, bn, bt, hbel, hlo, hsz⟩ := hres
  have HBq := Lib.hid hB
  clear hW0 kc HP1 HPS
  refine wpIn_rangeFunc_ownG rfl (by omega) (gf := 56) (lb := #[.pointer (some ⟨W.heap.size + 1, 0, none⟩)]) rfl trivial (enters_of Tryd.func56 (by kernel_rfl) rfl)
    (lines_stops (W.heap.size + 1) B A c xs hlen hx4 HBY.out W0 (by omega) bt (fun W' hb => Kd.C_below HR.out ((hB ▸ hbel).trans (hB ▸ hb))) (fun W' hb => HM.out.below ((hB ▸ hbel).trans (hB ▸ hb)))) KpT_t (KpT_b (by omega)) (Below.refl _ _) (fun _ => rfl)
    (fun pre W' => (((∀ y ∈ pre, (y.1 : Int) ≠ n) ∧ Boxed W' B 9 (.string ⟨#[]⟩)) ∧ (Boxed W' (B + 1) 25 (.int .i64 0) ∧ Boxed W' W.heap.size 3 (.int .i64 n))) ∧ Below B w W')
    (fun cd pre W' => ((cd = .ret ∧ ∃ ini last, pre = ini ++ [last] ∧ (∀ y ∈ ini, (y.1 : Int) ≠ n) ∧ (last.1 : Int) = n ∧ Boxed W' B 9 (.string last.2)) ∧ Boxed W' (B + 1) 25 (.int .i64 0)) ∧ Below B w W')
    (OwnFrom.and (OwnFrom.and (OwnFrom.and (ownFrom_pure _ _) (Own.from (boxed_own _ _ _) _)) (OwnFrom.and (Own.from (boxed_own _ _ _) _) (Own.from (boxed_own _ _ _) _))) (ownFrom_below (by omega) (by omega)))
    (fun cd => OwnFrom.and (OwnFrom.and (Own.from (fun s X Y row hs hg hrow => by
      obtain ⟨hc, ini, last, e1, e2, e3, e4⟩ := hs
      exact ⟨hc, ini, last, e1, e2, e3, boxed_own B 9 (fun _ : Unit => .string last.2) () X Y row e4 hg hrow⟩) _) (Own.from (boxed_own _ _ _) _)) (ownFrom_below (by omega) (by omega)))
    ⟨⟨⟨(fun y hy => by cases hy), b0⟩, b1, bn⟩, hbel⟩
    (fun x => { tmps := #[.string field, .slice A xs.length c, undef, undef, .pointer (some ⟨B, 0, none⟩), .pointer (some ⟨B + 1, 0, none⟩), .string (cutSuf field), .bool true, .string d, .bool true, .pointer (some ⟨W.heap.size, 0, none⟩), .int .i64 0, .int .i64 (x.1 : Int), .string x.2, .tuple #[.string (cutSuf field), .bool true], .string field, .tuple #[.string (cutSuf field), .bool true], .string (cutSuf field), .bool true, .bool true, .bool true, .string (cutSuf field), .bool false, .bool false, undef, .tuple #[.string d, .bool true], .string field, .tuple #[.string d, .bool true], .string d, .bool true, .bool true, .bool false, .bool false, .string d, .int .i64 (d.size : Int), .bool (decide ((15 : Int) < (d.size : Int))), .bool (decide ((15 : Int) < (d.size : Int))), .bool (decide ((15 : Int) < (d.size : Int))), .string d, .bool false, .bool (decide ((15 : Int) < (d.size : Int))), .tuple #[.int .i64 n, .int .i64 0], .string d, v43, .tuple #[.int .i64 n, .int .i64 0], .int .i64 n, .int .i64 0, .int .i64 0, .bool false, .slice A xs.length c, .func (.func 56) #[] #[.pointer (some ⟨W.heap.size + 1, 0, none⟩)], .int .i64 (x.1 : Int), .string x.2, undef, undef, undef, undef], defers := [] }) ?assign ?body ?done ?stop
  case assign =>
    intro l x W K hK
    gi_wp2
    exact hK
  case body =>
    rintro l pre x W2 ⟨⟨⟨hne, hb0⟩, hb1, hbn⟩, hBW⟩ hlt
    have hcn := hbn.cell
    have hc0 := hb0.cell
    have hf0 := hb0.frozen
    have hc1 := hb1.cell
    have hf1 := hb1.frozen
    have HI := Lib.hid (And.intro hne (And.intro hb0 (And.intro hb1 (And.intro hbn hBW))))
    clear hne hb0 hb1 hbn hBW b0 b1 bn bt hbel hB
    by_cases hx : (x.1 : Int) = n
    · have hxb : ((x.1 : Int) == n) = true := beq_iff_eq.2 hx
      have HX := Lib.hid hx
      clear hx
      gi_wp2
      obtain ⟨hne, hb0, hb1, hbn, hBW⟩ := HI.out
      refine ⟨((KeepsOthers.setCell _ _ _).from _).trans ((KeepsOthers.setCell _ _ _).from _), ⟨⟨rfl, pre, x, rfl, hne, HX.out, (hb0.set _).other (by omega) _⟩, (hb1.other (by omega) _).set _⟩, ?_⟩
      exact (hBW.setCell (p := ⟨B, 0, none⟩) (Nat.le_refl _) _).setCell (p := ⟨B + 1, 0, none⟩) (Nat.le_succ _) _
    · have hxb : ((x.1 : Int) == n) = false := beq_eq_false_iff_ne.2 hx
      have HX := Lib.hid hx
      clear hx
      gi_wp2
      obtain ⟨hne, hb0, hb1, hbn, hBW⟩ := HI.out
      exact ⟨KeepsFrom.refl _ _, KpT_refl _ _ _ _ _, ⟨⟨fun y hy => (List.mem_append.1 hy).elim (hne y) (fun e => by rw [List.mem_singleton.1 e]; exact HX.out), hb0⟩, hb1, hbn⟩, hBW⟩
  case done =>
    rintro D ys W2 hD rfl ⟨⟨⟨hne, hb0⟩, hb1, hbn⟩, hBW⟩ hK
    have hc0 := hb0.cell
    have hf0 := hb0.frozen
    have hc1 := hb1.cell
    have hf1 := hb1.frozen
    have HI := Lib.hid (And.intro hne (And.intro hb0 (And.intro hb1 (And.intro hBW hK))))
    clear hne hb0 hb1 hbn hBW b0 b1 bn bt hbel hB hK
    gi_wp2
    obtain ⟨hne, hb0, hb1, hBW, hK⟩ := HI.out
    obtain ⟨X, hX⟩ : ∃ X, (W2.setCell ⟨B, 0, none⟩ (.string ⟨#[]⟩)).setCell ⟨B + 1, 0, none⟩ (.int .i64 6) = X := ⟨_, rfl⟩
    have hK' : X.heap[D]? = some (.deferred (some [])) := by
      rw [← hX]
      exact (KeepsOthers.setCell _ ⟨B + 1, 0, none⟩ (.int .i64 6)).same D _ ((KeepsOthers.setCell W2 ⟨B, 0, none⟩ (.string ⟨#[]⟩)).same D _ hK rfl) rfl
    have x0 : Boxed X B 9 (.string ⟨#[]⟩) := by rw [← hX]; exact (hb0.set _).other (by omega) _
    have x1 : Boxed X (B + 1) 25 (.int .i64 6) := by rw [← hX]; exact (hb1.other (by omega) _).set _
    have xB : Below B w X := by rw [← hX]; exact (hBW.setCell (p := ⟨B, 0, none⟩) (Nat.le_refl _) _).setCell (p := ⟨B + 1, 0, none⟩) (Nat.le_succ _) _
    rw [hX]
    refine ⟨by simp, .inl ⟨_, _, rfl, run_takeDeferred hK', ?_⟩⟩
    have e0 := cell_kept x0.cell (grownBy_putObj' _ D (.deferred none)) (fun r e => by cases e; exact ⟨_, hK', rfl⟩)
    have e1 := cell_kept x1.cell (grownBy_putObj' _ D (.deferred none)) (fun r e => by cases e; exact ⟨_, hK', rfl⟩)
    refine ⟨_, by simp [results, Tryd.f18, go_sem, e0, e1]; rfl, ?_⟩
    have hB2 := HBq.out
    rw [findLine_none hne, hB2]
    exact ⟨rfl, xB.trans (belowK_b (w := w) (by omega) X D _ _ (by omega) hK' rfl rfl)⟩
  case stop =>
    rintro D cd pre W2 hD hpre ⟨⟨⟨rfl, ini, last, rfl, hne, hlast, hb0⟩, hb1⟩, hBW⟩ hK
    have HI := Lib.hid (And.intro hne (And.intro hb0 (And.intro hb1 (And.intro hBW (And.intro hK hlast)))))
    clear hne hb0 hb1 hBW b0 b1 bn bt hbel hB hK hlast
    gi_wp2
    obtain ⟨hne, hb0, hb1, hBW, hK, hlast⟩ := HI.out
    refine ⟨by simp, .inl ⟨_, _, rfl, run_takeDeferred hK, ?_⟩⟩
    have e0 := cell_kept hb0.cell (grownBy_putObj' _ D (.deferred none)) (fun r e => by cases e; exact ⟨_, hK, rfl⟩)
    have e1 := cell_kept hb1.cell (grownBy_putObj' _ D (.deferred none)) (fun r e => by cases e; exact ⟨_, hK, rfl⟩)
    refine ⟨_, by simp [results, Tryd.f18, go_sem, e0, e1]; rfl, ?_⟩
    have hB2 := HBq.out
    obtain ⟨suf, hs2⟩ := hpre
    rw [← hs2, findLine_some hne hlast, hB2]
    exact ⟨rfl, hBW.trans (belowK_b (w := w) (by omega) W2 D _ _ (by omega) hK rfl rfl)⟩
theorem rest {a0 : ByteArray} {A1 : Option Addr} {c1 : Nat} {l1 : List Int} {r1 : ByteArray} {r2 : Int} {w : World} (hS : hasSuf a0 = false ∨ (hasSuf a0 = true ∧ shortB (cutSuf a0) = false)) (hv : resolveV a0 l1 = (r1, r2)) (hby : isBytes l1 = true) (hx4 : l1.length < 4294967281) (hs : a0.size ≤ 9223372036854775807)
    (hl : ∀ n, hasPre a0 = true → (cutPre a0).size ≤ 15 → hasSp (cutPre a0) = false → parseV (bytesOf (cutPre a0)) 10 = (n, 0) →
      Calls Tryd.prog 18 #[.string a0, .slice A1 l1.length c1] w fun e w' => e = .returned (.tuple #[.string (findLine n (linesOf l1)).1, .int .i64 (findLine n (linesOf l1)).2]) ∧ Below w.heap.size w w') :
    Calls Tryd.prog 18 #[.string a0, .slice A1 l1.length c1] w fun e w' => e = .returned (.tuple #[.string r1, .int .i64 r2]) ∧ Below w.heap.size w w' := by
  have hS' : (hasSuf a0 && shortB (cutSuf a0)) = false := by rcases hS with h | ⟨h, h'⟩ <;> simp [*]
  unfold resolveV at hv
  rw [hS'] at hv
  simp only [Bool.false_eq_true, if_false] at hv
  by_cases hP : (hasPre a0 && decide ((cutPre a0).size ≤ 15) && !hasSp (cutPre a0)) = true
  · rw [if_pos hP] at hv
    simp only [Bool.and_eq_true, decide_eq_true_eq, Bool.not_eq_true'] at hP
    obtain ⟨⟨hp, hz⟩, hsp⟩ := hP
    by_cases hy : (parseV (bytesOf (cutPre a0)) 10).2 = 0
    · rw [if_pos hy] at hv
      have := hl (parseV (bytesOf (cutPre a0)) 10).1 hp hz hsp (by rw [← hy])
      rw [hv] at this
      exact this
    · rw [if_neg hy] at hv
      cases hv
      exact resolve_bad a0 hs _ w hS hp hz hsp hy
  · rw [if_neg hP] at hv
    cases hv
    refine resolve_none a0 hs _ w hS ?_
    cases hp : hasPre a0 with
    | false => exact .inl rfl
    | true =>
      by_cases hz : (cutPre a0).size ≤ 15
      · cases hsp : hasSp (cutPre a0) with
        | true => exact .inr (.inr ⟨rfl, hz, rfl⟩)
        | false => exact absurd (by simp [hp, hz, hsp]) hP
      · exact .inr (.inl ⟨rfl, by omega⟩)
def longname_Resolve.f (a0 : ByteArray) (l1 : List Int) : Option (ByteArray × Int) := if isBytes l1 = true ∧ l1.length < 4294967281 ∧ a0.size ≤ 9223372036854775807 then some (resolveV a0 l1) else none
theorem longname_Resolve.calls (a0 : ByteArray) (A1 : Option Addr) (c1 : Nat) (l1 : List Int) (r1 : ByteArray) (r2 : Int) (w : World) (hr1 : Kd.C (Kd.int .u8) w A1 l1.length l1) (hc1 : l1.length ≤ c1) (hG : Gmaxlen w) (h : longname_Resolve.f a0 l1 = some (r1, r2)) :
    Calls Tryd.prog 18 #[.string a0, .slice A1 l1.length c1] w fun e w' => e = .returned (.tuple #[.string r1, .int .i64 r2]) ∧ Below w.heap.size w w' := by
  unfold longname_Resolve.f at h
  split at h
  · rename_i hc
    obtain ⟨hby, hx4, hs⟩ := hc
    have hv := Option.some.inj h
    clear h
    cases h1 : hasSuf a0 with
    | true =>
      cases h2 : shortB (cutSuf a0) with
      | true =>
        unfold resolveV at hv
        rw [h1, h2, if_pos (show (true && true) = true from rfl)] at hv
        cases hv
        exact resolve_short a0 hs _ w h1 h2
      | false => exact rest (.inr ⟨h1, h2⟩) hv hby hx4 hs (fun n hp hz hsp hn => callsIn_wide.1 (resolve_loop2 a0 hs A1 c1 l1 w hr1 hc1 hG hx4 (isBytes_iff hby) h1 h2 hp hz hsp n hn))
    | false => exact rest (.inl h1) hv hby hx4 hs (fun n hp hz hsp hn => callsIn_wide.1 (resolve_loop1 a0 hs A1 c1 l1 w hr1 hc1 hG hx4 (isBytes_iff hby) h1 hp hz hsp n hn))
  · cases h
#print axioms longname_Resolve.calls
end Go.Proofs.YtjiokdkgbnakhaaDoor.Own
end TResD
section TMark
set_option linter.unusedVariables false
set_option linter.unusedSimpArgs false
namespace Go.Proofs.YtjiokdkgbnakhaaDoor.Own
open Go Go.RowKit Go.Proofs.YtjiokdkgbnakhaaDoor Go.Proofs.YtjiokdkgbnakhaaDoorW.PrintWords Go.Proofs.YtjiokdkgbnakhaaDoorW.PrintLast Go.Proofs.YtjiokdkgbnakhaaDoorW.PrintMore
def NoBar (cur : Array Value) (fz : Nat × Nat) : Prop := ∀ j, j < cur.size → ¬ (fz.1 ≤ j ∧ j < fz.2)
theorem NoBar.of_size {cur cur' : Array Value} {fz : Nat × Nat} (h : NoBar cur fz) (e : cur'.size = cur.size) : NoBar cur' fz := fun j hj => h j (e ▸ hj)
theorem storeCells_M (P : Program) (g o : Nat) (t : TypeId) (fz : Nat × Nat) : ∀ (vs : List Value) (i : Nat) (cur : Array Value) (w : World), w.heap[g]? = some (.cells cur t fz) → NoBar cur fz → o + i + vs.length ≤ cur.size → (∀ v ∈ vs, v.oneCell' = true) →
    (storeCells ⟨g, o, none⟩ vs i).run P w = .ok () (w.setRow g (cur.toList.take (o + i) ++ vs ++ cur.toList.drop (o + i + vs.length)).toArray)
  | [], i, cur, w, hg, _, _, _ => by
    simp only [storeCells, List.append_nil, List.length_nil, Nat.add_zero, List.take_append_drop, Array.toArray_toList]
    rw [setRow_self w g cur t fz hg]
    rfl
  | v :: rest, i, cur, w, hg, hfz, hl, h1 => by
    have hi : o + i < cur.size := by simp at hl; omega
    have hadd : (⟨g, o, none⟩ : Addr).add i = ⟨g, o + i, none⟩ := by unfold Addr.add; split <;> simp_all
    have hcell : w.cell? ⟨g, o + i, none⟩ = some cur[o + i] := by simp [World.cell?, hg, hi]
    have hfro : w.frozen? ⟨g, o + i, none⟩ = false := by
      have hn := hfz (o + i) hi
      obtain ⟨lo, hi'⟩ := fz
      simp only [World.frozen?, hg, Bool.and_eq_false_iff, decide_eq_false_iff_not]
      simp only at hn
      omega
    have hst : (store ((⟨g, o, none⟩ : Addr).add i) v).run P w = .ok () (w.setRow g (cur.setIfInBounds (o + i) v)) := by
      rw [hadd, run_store P w _ v _ (h1 v (by simp)), hcell]
      simp [hfro, setCell_eq_setRow w g (o + i) cur t fz v hg]
    have ih := storeCells_M P g o t fz rest (i + 1) (cur.setIfInBounds (o + i) v) (w.setRow g (cur.setIfInBounds (o + i) v)) (setRow_heap w g cur _ t _ hg) (hfz.of_size (by simp)) (by simp at hl ⊢; omega) (fun x hx => h1 x (by simp [hx]))
    simp only [storeCells, Sem.run_bind, hst, Result.andThen_ok, ih, setRow_setRow]
    congr 3
    have e := list_seg_step cur.toList (o + i) v rest (by simp at hl ⊢; omega)
    simpa [Array.toList_setIfInBounds, Nat.add_assoc] using e
def OwnsM (w : World) (base : Nat) (e : TypeId) (v : Value) (n : Nat) (xs : List Value) : Prop :=
  xs.length = n ∧ ((v = .slice none 0 0 ∧ n = 0) ∨
    ∃ g cap cur fz, v = .slice (some ⟨g, 0, none⟩) n cap ∧ base ≤ g ∧ w.heap[g]? = some (.cells cur e fz) ∧ NoBar cur fz ∧ n ≤ cap ∧ cap ≤ maxLen ∧ cur.size = cap ∧ cur.toList.take n = xs)
theorem OwnsM.of {w : World} {base : Nat} {e : TypeId} {v : Value} {n : Nat} {xs : List Value} (h : w.ownsRow base e 1 v n xs) : OwnsM w base e v n xs := by
  refine ⟨by simpa using h.1, ?_⟩
  rcases h.2 with hn | ⟨g, cap, cur, hv, hb, hg, h1, h2, h3, h4⟩
  · exact .inl hn
  · exact .inr ⟨g, cap, cur, (0, 0), hv, hb, hg, fun j _ h => by simp at h, h1, h2, by simpa using h3, by simpa using h4⟩
theorem OwnsM.cells {w : World} {base : Nat} {e : TypeId} {v : Value} {n : Nat} {xs : List Value} (h : OwnsM w base e v n xs) {g : Nat} (hg : v.ownBlock = some g) : ∀ j u, xs[j]? = some u → w.cell? ((⟨g, 0, none⟩ : Addr).add j) = some u := by
  intro j u hu
  rcases h.2 with ⟨rfl, _⟩ | ⟨g', cap, cur, fz, rfl, hb, hgg, hfz, h1, h2, h3, h4⟩
  · simp [Value.ownBlock] at hg
  · have e1 : g' = g := by simpa [Value.ownBlock] using hg
    subst e1
    rw [cell_add_row hgg]
    have hj : j < n := by
      have := (List.getElem?_eq_some_iff.1 hu).1
      have := h.1
      omega
    rw [← h4, List.getElem?_take_of_lt hj] at hu
    simpa using hu
theorem OwnsM.kept {w w' : World} {base : Nat} {e : TypeId} {v : Value} {n : Nat} {xs : List Value} (h : OwnsM w base e v n xs) (hk : ∀ g, v.ownBlock = some g → w'.heap[g]? = w.heap[g]?) : OwnsM w' base e v n xs := by
  refine ⟨h.1, ?_⟩
  rcases h.2 with hn | ⟨g, cap, cur, fz, rfl, hb, hgg, hfz, h1, h2, h3, h4⟩
  · exact .inl hn
  · exact .inr ⟨g, cap, cur, fz, rfl, hb, (hk g rfl).trans hgg, hfz, h1, h2, h3, h4⟩
theorem OwnsM.alloc {w : World} {base : Nat} {e : TypeId} {v : Value} {n : Nat} {xs : List Value} (h : OwnsM w base e v n xs) (o : Obj) : OwnsM (w.alloc o) base e v n xs := by
  rcases h.2 with ⟨rfl, hn⟩ | ⟨g, cap, cur, fz, rfl, hb, hgg, _⟩
  · exact ⟨h.1, .inl ⟨rfl, hn⟩⟩
  · refine h.kept fun k hk => ?_
    have e1 : g = k := by simpa [Value.ownBlock] using hk
    subst e1
    exact (below_alloc (Below.refl _ w) o).block g (Array.getElem?_eq_some_iff.1 hgg).1
theorem OwnsM.reads {w : World} {base : Nat} {e : TypeId} {v : Value} {xs : List Int} (h : OwnsM w base e v xs.length (xs.map (Value.int .u8))) : ∃ A c, v = .slice A xs.length c ∧ xs.length ≤ c ∧ (Kd.int .u8).C w A xs.length xs := by
  rcases h.2 with ⟨rfl, hn⟩ | ⟨g, cap, cur, fz, rfl, hb, hgg, hfz, h1, h2, h3, h4⟩
  · have hx : xs = [] := List.length_eq_zero_iff.1 hn
    subst hx
    exact ⟨none, 0, rfl, Nat.le_refl _, Kd.C_of_reads (enc := Value.int .u8) (d := (0 : Int)) (h1 := fun _ => rfl) ⟨rfl, by decide, fun h => absurd h (Nat.lt_irrefl _)⟩⟩
  · refine ⟨some ⟨g, 0, none⟩, cap, rfl, h1, Kd.C_of_reads (enc := Value.int .u8) (d := (0 : Int)) (h1 := fun _ => rfl) ⟨rfl, ?_, fun _ => ⟨_, rfl, fun j hj => ?_⟩⟩⟩
    · have : maxLen ≤ 9223372036854775807 := by decide
      omega
    · refine h.cells rfl j _ ?_
      simp [List.getElem?_map, List.getElem?_eq_getElem hj, List.getD_eq_getElem?_getD]
section
variable {P : Program} (w : World)
theorem run_append_room_M (t ty e : TypeId) (i : TypeInfo) (ht : P.underlying t = some (.slice e)) (hi : P.info? e = some i) (hs1 : i.size = 1)
    (g sLen sCap : Nat) (cur : Array Value) (fz : Nat × Nat) (hg : w.heap[g]? = some (.cells cur e fz)) (hfz : NoBar cur fz)
    (a : Addr) (m c : Nat) (news : List Value) (hl : news.length = m) (hnews : ∀ j u, news[j]? = some u → w.cell? (a.add j) = some u) (h1 : ∀ u ∈ news, u.oneCell' = true)
    (hroom : sLen + m ≤ sCap) (hfit : sLen + m ≤ cur.size) :
    (Builtin.append_ #[t, t] ty #[.slice (some ⟨g, 0, none⟩) sLen sCap, .slice (some a) m c]).run P w =
      .ok (.slice (some ⟨g, 0, none⟩) (sLen + m) sCap) (w.setRow g (cur.toList.take sLen ++ news ++ cur.toList.drop (sLen + m)).toArray) := by
  have hf := run_firstCells_some (P := P) w i.size m a m c news (by rw [hs1, hl, Nat.mul_one]) hnews
  have hst := storeCells_M P g sLen e fz news 0 cur w hg hfz (by rw [hl]; simpa using hfit) h1
  simp only [Nat.add_zero, hl] at hst
  rw [hs1] at hf
  simp [Builtin.append_, run_underlying ht, sizeOf, typeInfo, hi, hs1, Builtin.lenOf, hroom, hf, Addr.add_lit, hst]
theorem run_append_M (base : Nat) (t ty e : TypeId) (i : TypeInfo) (z : Value) (bytes : Nat) (ht : P.underlying t = some (.slice e)) (hi : P.info? e = some i) (hz : i.zero = some z)
    (hsize : i.size = 1) (hby : i.bytes = bytes) (hzs : z.cells.size = 1)
    (v : Value) (n : Nat) (xs : List Value) (hown : OwnsM w base e v n xs)
    (a : Addr) (m c : Nat) (news : List Value) (hl : news.length = m) (hnews : ∀ j u, news[j]? = some u → w.cell? (a.add j) = some u) (h1 : ∀ u ∈ news, u.oneCell' = true)
    (h63 : n + m ≤ maxLen) (hbytes : (n + m) * bytes ≤ 140737488355328) (hbase : base ≤ w.heap.size) :
    ∃ v' w', (Builtin.append_ #[t, t] ty #[v, .slice (some a) m c]).run P w = .ok v' w' ∧ OwnsM w' base e v' (n + m) (xs ++ news) ∧ w.grownBy w' v.ownBlock := by
  rcases hown.2 with ⟨rfl, rfl⟩ | ⟨g, cap, cur, fz, rfl, hbg, hg, hfz, hnc, hcm, hcs, htake⟩
  · obtain ⟨v', w', r1, r2, r3, r4⟩ := run_append_own (P := P) w base t ty e i z 1 bytes ht hi hz hsize hby hzs (by decide) (.slice none 0 0) 0 xs ⟨by simpa using hown.1, .inl ⟨rfl, rfl⟩⟩ a m c news (by simpa using hl) hnews h1 h63 hbytes hbase
    exact ⟨v', w', r1, OwnsM.of r2, r3⟩
  · subst hby
    have hsmall : n + m ≤ 9223372036854775807 := by simp only [maxLen] at h63; omega
    have hxl : xs.length = n := hown.1
    have hlen : (xs ++ news).length = n + m := by rw [List.length_append, hxl, hl]
    by_cases hroom : n + m ≤ cap
    · have hr := run_append_room_M (P := P) w t ty e i ht hi hsize g n cap cur fz hg hfz a m c news hl hnews h1 hroom (by omega)
      have hsz : (cur.toList.take n ++ news ++ cur.toList.drop (n + m)).toArray.size = cur.size := by
        simp only [List.size_toArray, List.length_append, List.length_take, List.length_drop, Array.length_toList]
        omega
      refine ⟨_, _, hr, ⟨hlen, .inr ⟨g, cap, _, fz, rfl, hbg, setRow_heap w g cur _ e _ hg, hfz.of_size hsz, hroom, hcm, hsz.trans hcs, ?_⟩⟩, ⟨rfl, rfl, rfl, by simp, fun k _ hk => setRow_other w g k _ (fun e => hk (by simp [Value.ownBlock, e]))⟩⟩
      rw [htake, ← hlen]
      exact List.take_left
    · have holds : ∀ j u, xs[j]? = some u → w.cell? ((⟨g, 0, none⟩ : Addr).add j) = some u := hown.cells (g := g) rfl
      have hr := run_append_grow (P := P) w t ty e i z ht hi hz ⟨g, 0, none⟩ n cap xs (by rw [hsize]; simpa using hxl) holds a m c news (by rw [hsize]; simpa using hl) hnews (by omega) (by omega) (growslice_fits (by omega) hbytes)
      have hge := grownCap_ge w (n + m) cap e
      have hcm2 : grownCap w (n + m) cap e ≤ maxLen := grownCap_le_maxLen w (n + m) cap e h63
      refine ⟨_, _, hr, ⟨hlen, .inr ⟨w.heap.size, _, _, (0, 0), rfl, hbase, heap_alloc_new w.drew _, fun j _ h => by simp at h, hge, hcm2, ?_, ?_⟩⟩, ⟨rfl, rfl, rfl, by simp, fun k hk _ => (below_alloc (below_drew (Below.refl _ w)) _).block k hk⟩⟩
      · simp only [Array.size_append, List.size_toArray, size_zeroCells, hzs, hxl, hl]
        omega
      · simp only [Array.toList_append, List.append_assoc]
        rw [← List.append_assoc, ← hlen]
        exact List.take_left
end
theorem wpList_append_M {P : Program} {w0 W : World} {ops : Array Oper} {rest : List Oper} {o : Oper} {a : Act} {Q : Exit → Act → World → Prop} (hgd : o.guard = none) (s x : Operand) (t e : TypeId)
    (ho : o.op = .call { callee := .builtin .append, args := #[s, x], argTypes := #[t, t] })
    (ht : P.underlying t = some (.slice e)) (hinfo : (P.info? e).map (fun i => (i.zero, i.size, i.bytes)) = some (some (.int .u8 0), 1, 1))
    (base : Nat) (v : Value) (n : Nat) (xs : List Value) (hs : a.eval s = v) (hown : OwnsM W base e v n xs)
    (u : Value) (hu : u.oneCell' = true) (hx : a.eval x = .slice (some ⟨W.heap.size, 0, none⟩) 1 1) (hB : Below base w0 W)
    (hn : n + 1 ≤ 140737488355328) (hbase : base ≤ W.heap.size)
    (h : ∀ v' w', OwnsM w' base e v' (n + 1) (xs ++ [u]) → Below base w0 w' → wpList P ops Q rest (a.put o.dst v') w') : wpList P ops Q (o :: rest) a (W.alloc (.cells #[u] e)) := by
  obtain ⟨i, hi, hii⟩ := Option.map_eq_some_iff.1 hinfo
  simp only [Prod.mk.injEq] at hii
  obtain ⟨hz, hsz, hby⟩ := hii
  refine wpList_plain hgd fun K hK => ?_
  obtain ⟨v', w', hr, h2, h3⟩ := run_append_M (P := P) (W.alloc (.cells #[u] e)) base t o.type e i (.int .u8 0) 1 ht hi hz hsz hby rfl v n xs (hown.alloc _) ⟨W.heap.size, 0, none⟩ 1 1 [u] rfl (cell_one_new _ _ _) (by simpa using hu) (by unfold maxLen; omega) (by omega) (by simp; omega)
  unfold Oper.wp execOp
  simp only [ho, resolve, invoke, builtin, Sem.run_bind, Sem.run_pure, Result.andThen_ok, List.map_toArray, List.map_cons, List.map_nil, hs, hx, hr]
  refine hK _ _ (h v' w' h2 ((hB.alloc hbase _).grown h3 (by simp; omega) (fun k hk => ?_)))
  rcases hown.2 with ⟨rfl, _⟩ | ⟨g, cap, cur, fz, rfl, hb, _⟩
  · simp [Value.ownBlock] at hk
  · have e1 : g = k := by simpa [Value.ownBlock] using hk
    omega
theorem bytesW_owns (W : World) (d : ByteArray) (hd : d.size ≤ 140737488355328) : OwnsM (bytesW W d) W.heap.size 5 (.slice (some ⟨W.heap.size, 0, none⟩) d.size (grownCap W d.size 0 5)) d.size ((bytesOf d).map (Value.int .u8)) := by
  have hge := grownCap_ge W d.size 0 5
  have hcm : grownCap W d.size 0 5 ≤ maxLen := grownCap_le_maxLen W d.size 0 5 (by unfold maxLen; omega)
  have hsz : (bytesRow d (grownCap W d.size 0 5)).size = grownCap W d.size 0 5 := by
    have hj2 : d.data.size = d.size := rfl
    unfold bytesRow
    simp [hj2]
    omega
  refine ⟨by rw [List.length_map, bytesOf_length], .inr ⟨W.heap.size, _, _, _, rfl, Nat.le_refl _, World.alloc_heap_new W _, fun j hj h => by simp only at h; omega, hge, hcm, hsz, ?_⟩⟩
  have hj2 : d.data.size = d.size := rfl
  unfold bytesRow
  rw [Array.toList_append, List.take_append_of_le_length (by simp [hj2])]
  simp [bytesOf, hj2, Function.comp_def, List.take_of_length_le]
end Go.Proofs.YtjiokdkgbnakhaaDoor.Own
end TMark
section TKx13
namespace Go.Proofs.YtjiokdkgbnakhaaDoor.Own
end Go.Proofs.YtjiokdkgbnakhaaDoor.Own
namespace Go.Proofs.YtjiokdkgbnakhaaDoor.K
open Go.RowKit Go.Proofs.YtjiokdkgbnakhaaDoorW.PrintWords Go.Proofs.YtjiokdkgbnakhaaDoorW.PrintLast Go.Proofs.YtjiokdkgbnakhaaDoorW.PrintMore Go.Proofs.YtjiokdkgbnakhaaDoor.Own
attribute [local go_sem] max2_int min2_int max_two min_two max_three min_three max_four min_four
set_option linter.unusedVariables false
set_option linter.unusedSimpArgs false
mutual
def arlinkref02_Fits.j0 : Nat → ByteArray → Bool → Option (Bool)
  | 0, _, _ => none
  | k + 1, x0, x19 => if x19 = true then (some false) else (arlinkref02_Fits.l0 k x0 0)
def arlinkref02_Fits.l0 : Nat → ByteArray → Int → Option (Bool)
  | 0, _, _ => none
  | k + 1, x0, x3 => if x3 < (x0.size : Int) then (if 0 ≤ x3 then (if (bt x0 x3) = 10 then (some false) else (if (bt x0 x3) = 0 then (some false) else (arlinkref02_Fits.l0 k x0 (wrap64 (x3 + 1))))) else (none)) else (some true)
end
def arlinkref02_Fits.f (k : Nat) (a0 : ByteArray) : Option (Bool) := if (a0.size : Int) < 1 then (arlinkref02_Fits.j0 k a0 true) else (if (a0.size : Int) > 16 then (arlinkref02_Fits.j0 k a0 true) else (if 0 ≤ (wrap64 ((a0.size : Int) - 1)) then (if (wrap64 ((a0.size : Int) - 1)) < (a0.size : Int) then (arlinkref02_Fits.j0 k a0 ((bt a0 (wrap64 ((a0.size : Int) - 1))) == 32)) else (none)) else (none)))
set_option maxHeartbeats 8000000 in
set_option maxRecDepth 100000 in
theorem arlinkref02_Fits.calls (k : Nat) (a0 : ByteArray) (r : Bool) (w : World) (h : arlinkref02_Fits.f k a0 = some r) :
    Calls Tryd.prog 51 #[.string a0] w fun e w' => e = .returned (.bool r) ∧ Drawn0 w w' := by
  have H : (if (a0.size : Int) < 1 then (arlinkref02_Fits.j0 k a0 true) else (if (a0.size : Int) > 16 then (arlinkref02_Fits.j0 k a0 true) else (if 0 ≤ (wrap64 ((a0.size : Int) - 1)) then (if (wrap64 ((a0.size : Int) - 1)) < (a0.size : Int) then (arlinkref02_Fits.j0 k a0 ((bt a0 (wrap64 ((a0.size : Int) - 1))) == 32)) else (none)) else (none)))) = some r := h
  clear h
  have HC2 := Aside0.mk H
  clear H
  go_enter Tryd.func51, Tryd.ntmps51
  go_upto_region 1 with (fail)
  go_cut [19] (fun v19 wc => ∃ (kq : Nat) (x19_1 : Bool), v19 = .bool x19_1 ∧ Aside0 (arlinkref02_Fits.j0 kq a0 x19_1 = some r) ∧ Aside0 (kq ≤ k) ∧ Drawn0 w wc)
  case first =>
    have H := HC2.out
    clear HC2
    by_cases c3 : (a0.size : Int) < 1
    · rw [if_pos c3] at H
      have c3b0 : decide ((a0.size : Int) < 1) = true := decide_eq_true c3
      have c3b1 : decide (a0.size < 1) = true := decide_eq_true (by omega)
      clear c3
      (first | rw [c3b0] | (simp only [i64_w, i32_w]; rw [c3b0]) | skip)
      have H' := Aside0.mk H
      clear H
      go_wp2
      go_meet
      case rel => exact ⟨_, (true), (by first | rfl | (simp; done) | (simp [*]; done)), H', ⟨by first | omega | exact Nat.le_refl _⟩, by repeat (first | exact Drawn0.refl _ | apply Drawn0.step)⟩
    · rw [if_neg c3] at H
      have c3b0 : decide ((a0.size : Int) < 1) = false := decide_eq_false c3
      have c3b1 : decide (a0.size < 1) = false := decide_eq_false (by omega)
      clear c3
      (first | rw [c3b0] | (simp only [i64_w, i32_w]; rw [c3b0]) | skip)
      by_cases c4 : (a0.size : Int) > 16
      · rw [if_pos c4] at H
        have c4b0 : decide (16 < (a0.size : Int)) = true := decide_eq_true c4
        have c4b1 : decide (16 < a0.size) = true := decide_eq_true (by omega)
        clear c4
        have H' := Aside0.mk H
        clear H
        go_wp2
        go_meet
        case rel => exact ⟨_, (true), (by first | rfl | (simp; done) | (simp [*]; done)), H', ⟨by first | omega | exact Nat.le_refl _⟩, by repeat (first | exact Drawn0.refl _ | apply Drawn0.step)⟩
      · rw [if_neg c4] at H
        have c4b0 : decide (16 < (a0.size : Int)) = false := decide_eq_false c4
        have c4b1 : decide (16 < a0.size) = false := decide_eq_false (by omega)
        clear c4
        obtain ⟨ji5, hji5⟩ : ∃ j_ : Int, (wrap64 ((a0.size : Int) - 1)) = j_ := ⟨_, rfl⟩
        replace H : (if 0 ≤ (ji5) then (if (ji5) < (a0.size : Int) then (arlinkref02_Fits.j0 k a0 ((bt a0 (ji5)) == 32)) else (none)) else (none)) = some r := by first | (rw [hji5] at H; exact H) | (simp only [hji5] at H ⊢; exact H)
        have hji5w : (IntKind.i64.wrap ((a0.size : Int) - 1)) = ji5 := (i64_w _).trans hji5
        by_cases c6 : 0 ≤ (ji5)
        · rw [if_pos c6] at H
          have c6b0 : decide (0 ≤ (ji5)) = true := decide_eq_true c6
          clear c6
          by_cases c7 : (ji5) < (a0.size : Int)
          · rw [if_pos c7] at H
            have c7b0 : decide ((ji5) < (a0.size : Int)) = true := decide_eq_true c7
            clear c7
            have H' := Aside0.mk H
            clear H
            have p8 : 0 ≤ ((ji5) : Int) := of_decide_eq_true (by first | (with_reducible assumption) | assumption)
            have q8 : (ji5) < (a0.size : Int) := of_decide_eq_true (by first | (with_reducible assumption) | assumption)
            have hx8 := bt_at a0 (ji5)
            replace p8 := eq_true p8
            replace q8 := eq_true q8
            go_wp2
            go_meet
            case rel => exact ⟨_, (((bt a0 (ji5)) == 32)), (by first | rfl | (simp; done) | (simp only [← hji5] <;> (first | rfl | simp)) | (simp [*]; done)), H', ⟨by first | omega | exact Nat.le_refl _⟩, by repeat (first | exact Drawn0.refl _ | apply Drawn0.step)⟩
          · rw [if_neg c7] at H
            exact absurd H (by simp)
        · rw [if_neg c6] at H
          exact absurd H (by simp)
  case rest =>
    clear HC2
    try clear p2
    try clear c3
    try clear c3b0
    try clear c3b1
    try clear c4
    try clear c4b0
    try clear c4b1
    try clear c5
    try clear c6
    try clear c6b0
    try clear p6
    try clear c7
    try clear c7b0
    try clear p8
    try clear q8
    try clear hx8
    try clear p8
    try clear q8
    obtain ⟨kq, x19_1, rfl, HA, HJ1, ⟨mc1, rfl⟩⟩ := hcut
    cases kq with
    | zero => exact absurd HA.out (by simp [arlinkref02_Fits.j0])
    | succ kj1 =>
      have H := HA.out
      clear HA
      simp only [arlinkref02_Fits.j0] at H
      by_cases c9 : x19_1 = true
      · subst c9
        have H1 : (some false) = some r := by rw [if_pos rfl] at H; exact H
        clear H
        have H := H1
        clear H1
        obtain rfl := Option.some.inj H
        go_wp2
        go_ret
        exact ⟨by first | rfl | (simp; done) | (simp [*]; done), by repeat (first | exact Drawn0.refl _ | apply Drawn0.step)⟩
      · replace c9 := Bool.eq_false_iff.mpr c9
        subst c9
        have H1 : (arlinkref02_Fits.l0 kj1 a0 0) = some r := by rw [if_neg (show ¬ (false = true) by decide)] at H; exact H
        clear H
        have H := H1
        clear H1
        have H' := Aside0.mk H
        clear H
        go_wp2
        go_loopg [3] kj1 (fun kq v3 w' => ∃ (x3_2 : Int), v3 = .int .i64 x3_2 ∧ Aside0 (arlinkref02_Fits.l0 kq a0 x3_2 = some r) ∧ Aside0 (kq ≤ kj1) ∧ Drawn0 w w')
        case atStart => exact ⟨(0), (by first | rfl | (simp; done) | (simp [*]; done)), H', ⟨Nat.le_refl _⟩, by repeat (first | exact Drawn0.refl _ | apply Drawn0.step)⟩
        case round =>
          clear H'
          try clear c1
          try clear p2
          try clear c3
          try clear c3b0
          try clear c3b1
          try clear c4
          try clear c4b0
          try clear c4b1
          try clear c5
          try clear c6
          try clear c6b0
          try clear p6
          try clear c7
          try clear c7b0
          try clear p8
          try clear q8
          try clear hx8
          try clear c9
          try clear p2
          try clear p6
          try clear p8
          try clear q8
          obtain ⟨x3_2, rfl, HA, HK2, ⟨m2, rfl⟩⟩ := hrel
          cases gk with
          | zero => exact absurd HA.out (by simp [arlinkref02_Fits.l0])
          | succ k2 =>
            have H := HA.out
            clear HA
            simp only [arlinkref02_Fits.l0] at H
            by_cases c10 : x3_2 < (a0.size : Int)
            · rw [if_pos c10] at H
              have c10b0 : decide (x3_2 < (a0.size : Int)) = true := decide_eq_true c10
              clear c10
              by_cases c11 : 0 ≤ x3_2
              · rw [if_pos c11] at H
                have c11b0 : decide (0 ≤ x3_2) = true := decide_eq_true c11
                clear c11
                by_cases c13 : (bt a0 x3_2) = 10
                · rw [if_pos c13] at H
                  have c13b0 : ((bt a0 x3_2) == 10) = true := beq_iff_eq.mpr c13
                  have c13b1 : ((bt a0 x3_2) != 10) = false := bne_eq_false_iff_eq.mpr c13
                  clear c13
                  obtain rfl := Option.some.inj H
                  have p12 : 0 ≤ (x3_2 : Int) := of_decide_eq_true (by first | (with_reducible assumption) | assumption)
                  have q12 : x3_2 < (a0.size : Int) := of_decide_eq_true (by first | (with_reducible assumption) | assumption)
                  have hx12 := bt_at a0 x3_2
                  replace p12 := eq_true p12
                  replace q12 := eq_true q12
                  go_wp2
                  go_ret
                  exact ⟨by first | rfl | (simp; done) | (simp [*]; done), by repeat (first | exact Drawn0.refl _ | apply Drawn0.step)⟩
                · rw [if_neg c13] at H
                  have c13b0 : ((bt a0 x3_2) == 10) = false := beq_eq_false_iff_ne.mpr c13
                  have c13b1 : ((bt a0 x3_2) != 10) = true := bne_iff_ne.mpr c13
                  by_cases c15 : (bt a0 x3_2) = 0
                  · rw [if_pos c15] at H
                    have c15b0 : ((bt a0 x3_2) == 0) = true := beq_iff_eq.mpr c15
                    have c15b1 : ((bt a0 x3_2) != 0) = false := bne_eq_false_iff_eq.mpr c15
                    clear c15
                    obtain rfl := Option.some.inj H
                    have p12 : 0 ≤ (x3_2 : Int) := of_decide_eq_true (by first | (with_reducible assumption) | assumption)
                    have q12 : x3_2 < (a0.size : Int) := of_decide_eq_true (by first | (with_reducible assumption) | assumption)
                    have hx12 := bt_at a0 x3_2
                    replace p12 := eq_true p12
                    replace q12 := eq_true q12
                    have p14 : 0 ≤ (x3_2 : Int) := of_decide_eq_true (by first | (with_reducible assumption) | assumption)
                    have q14 : x3_2 < (a0.size : Int) := of_decide_eq_true (by first | (with_reducible assumption) | assumption)
                    have hx14 := bt_at a0 x3_2
                    replace p14 := eq_true p14
                    replace q14 := eq_true q14
                    go_wp2
                    go_ret
                    exact ⟨by first | rfl | (simp; done) | (simp [*]; done), by repeat (first | exact Drawn0.refl _ | apply Drawn0.step)⟩
                  · rw [if_neg c15] at H
                    have c15b0 : ((bt a0 x3_2) == 0) = false := beq_eq_false_iff_ne.mpr c15
                    have c15b1 : ((bt a0 x3_2) != 0) = true := bne_iff_ne.mpr c15
                    have H' := Aside0.mk H
                    clear H
                    have p12 : 0 ≤ (x3_2 : Int) := of_decide_eq_true (by first | (with_reducible assumption) | assumption)
                    have q12 : x3_2 < (a0.size : Int) := of_decide_eq_true (by first | (with_reducible assumption) | assumption)
                    have hx12 := bt_at a0 x3_2
                    replace p12 := eq_true p12
                    replace q12 := eq_true q12
                    have p14 : 0 ≤ (x3_2 : Int) := of_decide_eq_true (by first | (with_reducible assumption) | assumption)
                    have q14 : x3_2 < (a0.size : Int) := of_decide_eq_true (by first | (with_reducible assumption) | assumption)
                    have hx14 := bt_at a0 x3_2
                    replace p14 := eq_true p14
                    replace q14 := eq_true q14
                    go_wp2
                    go_roundg k2
                    case measure => have := HJ1.out; have := HK2.out; omega
                    case rel => exact ⟨(wrap64 (x3_2 + 1)), (by first | rfl | (simp; done) | (simp [*]; done)), H', ⟨by have := HJ1.out; have := HK2.out; omega⟩, by repeat (first | exact Drawn0.refl _ | apply Drawn0.step)⟩
              · rw [if_neg c11] at H
                exact absurd H (by simp)
            · rw [if_neg c10] at H
              have c10b0 : decide (x3_2 < (a0.size : Int)) = false := decide_eq_false c10
              clear c10
              obtain rfl := Option.some.inj H
              go_wp2
              go_ret
              exact ⟨by first | rfl | (simp; done) | (simp [*]; done), by repeat (first | exact Drawn0.refl _ | apply Drawn0.step)⟩
def arlinkref02_spaces.l0 : Nat → Int → List Int → Int → Option (List Int)
  | 0, _, _, _ => none
  | k + 1, x0, x3, x4 => if x4 < x0 then (if x3.length < 140737488355328 then (arlinkref02_spaces.l0 k x0 (x3 ++ [32]) (wrap64 (x4 + 1))) else (none)) else (some x3)
def arlinkref02_spaces.f (k : Nat) (a0 : Int) : Option (List Int) := arlinkref02_spaces.l0 k a0 ([] : List Int) 0
set_option maxHeartbeats 8000000 in
set_option maxRecDepth 100000 in
theorem arlinkref02_spaces.calls (k : Nat) (a0 : Int) (r : List Int) (w : World) (h : arlinkref02_spaces.f k a0 = some r) :
    Calls Tryd.prog 54 #[.int .i64 a0] w fun e w' => ∃ v0_ : Value, e = .returned (v0_) ∧ Kd.R (Kd.int .u8) 5 w' w.heap.size (fun _ => True) v0_ r ∧ Below w.heap.size w w' := by
  have HB := Aside0.mk (Below.refl w.heap.size w)
  have H : (arlinkref02_spaces.l0 k a0 ([] : List Int) 0) = some r := h
  clear h
  have H' := Aside0.mk H
  clear H
  go_enter Tryd.func54, Tryd.ntmps54
  go_wp2
  go_loopg [3, 4] k (fun kq v3 v4 w' => ∃ (x3_1 : List Int) (x4_1 : Int), v4 = .int .i64 x4_1 ∧ Aside0 (arlinkref02_spaces.l0 kq a0 x3_1 x4_1 = some r) ∧ Aside0 (kq ≤ k) ∧ Aside0 (Kd.R (Kd.int .u8) 5 w' w.heap.size (fun _ => True) v3 x3_1) ∧ Aside0 (Below w.heap.size w w'))
  case atStart => exact ⟨(([] : List Int)), (0), (by first | rfl | (simp; done) | (simp [*]; done)), H', ⟨Nat.le_refl _⟩, ⟨by first | exact Kd.R_nil _ _ _ _ _ | exact Kd.N_nil _ _ _ _ _ | exact Kd.V_nil _ _ _ _ _ | exact Kd.Q_nil _ _ _ _ _ | exact Kd.S_nil _ _ _ _ _⟩, ⟨by repeat (first | (with_reducible first | exact HB.out | apply below_alloc | apply pw_below_drewN | apply below_drew1) | exact HB.out)⟩⟩
  case round =>
    clear H'
    obtain ⟨x3_1, x4_1, rfl, HA, HK1, HO_3, HB⟩ := hrel
    cases gk with
    | zero => exact absurd HA.out (by simp [arlinkref02_spaces.l0])
    | succ k1 =>
      have H := HA.out
      clear HA
      simp only [arlinkref02_spaces.l0] at H
      by_cases c2 : x4_1 < a0
      · rw [if_pos c2] at H
        have c2b0 : decide (x4_1 < a0) = true := decide_eq_true c2
        clear c2
        by_cases c3 : x3_1.length < 140737488355328
        · rw [if_pos c3] at H
          have LMc3 := Aside0.mk c3
          clear c3
          obtain ⟨y292, hy292⟩ : ∃ y_ : List Int, y_ = (x3_1 ++ [32]) := ⟨_, rfl⟩
          replace H : (arlinkref02_spaces.l0 k1 a0 y292 (wrap64 (x4_1 + 1))) = some r := by first | (rw [hy292]; with_reducible exact H) | (have H2_ := (Option.bind_some _ _).symm.trans H; rw [hy292]; with_reducible exact H2_) | (have H2_ := (Option.bind_some _ _).symm.trans H; with_reducible exact H2_) | with_reducible exact H | (rw [hy292]; exact H) | exact H
          have Ny292 := Aside0.mk hy292
          clear hy292
          have H' := Aside0.mk H
          clear H
          go_wp2_with (first | ((with_reducible refine gate_builtin (b := .append) (xs := #[.tmp 10, .tmp 11]) rfl ?_); at_builtin; refine Kd.R_append (Kd.int .u8) (w0 := w) w.heap.size rfl (.tmp 10) (.tmp 11) 22 5 (.int .u8 0) 1 rfl Tryd.underlying22 info5 rfl (by decide) (by omega) u3 x3_1 32 [.int .u8 32] (fun _ => True) (fun _ => False) rfl rfl ?aP (fun _ hk => hk.elim) ?aF ?aO ?aB ?aS ?aL ?_; (case aP => exact rfl); (case aB => exact (by repeat (first | (with_reducible first | exact HB.out | apply below_alloc | apply pw_below_drewN | apply below_drew1) | exact HB.out))); (case aF => exact (fun _ _ => trivial)); (case aO => exact (by (with_reducible repeat (first | apply Kd.R_alloc | apply Kd.R_drewN | apply Kd.R_drew)); exact HO_3.out)); (case aS => exact (below_size (by repeat (first | (with_reducible first | exact HB.out | apply below_alloc | apply pw_below_drewN | apply below_drew1) | exact HB.out)))); (case aL => have := LMc3.out; omega); intro v293 w4 ho hb hg hat; rw [← Ny292.out] at ho; have n0_ := Aside0.mk (hb); have n1_ := Aside0.mk (ho); clear HB; clear HO_3; have HB := n0_; have HO294 := n1_; clear n0_ n1_; clear ho hb hg hat))
          go_roundg k1
          case measure => have := HK1.out; omega
          case rel => exact ⟨(y292), (wrap64 (x4_1 + 1)), (by first | rfl | (simp; done) | (simp [*]; done)), H', ⟨by have := HK1.out; omega⟩, ⟨by (with_reducible repeat (first | apply Kd.R_alloc | apply Kd.R_drewN | apply Kd.R_drew)); exact HO294.out⟩, ⟨by repeat (first | (with_reducible first | exact HB.out | apply below_alloc | apply pw_below_drewN | apply below_drew1) | exact HB.out)⟩⟩
        · rw [if_neg c3] at H
          exact absurd H (by simp)
      · rw [if_neg c2] at H
        have c2b0 : decide (x4_1 < a0) = false := decide_eq_false c2
        clear c2
        obtain rfl := Option.some.inj H
        go_wp2
        go_ret
        exact ⟨_, by first | rfl | (simp [errW_none, errW_some] <;> rfl) | (simp [*, errW_none, errW_some] <;> rfl), by (with_reducible repeat (first | apply Kd.R_alloc | apply Kd.R_drewN | apply Kd.R_drew)); exact HO_3.out, by repeat (first | (with_reducible first | exact HB.out | apply below_alloc | apply pw_below_drewN | apply below_drew1) | exact HB.out)⟩
def arlinkref01_Based.f (a0 : Int) : Option (Bool) := if a0 = 8 then (some true) else (some (a0 == 10))
set_option maxHeartbeats 8000000 in
set_option maxRecDepth 100000 in
theorem arlinkref01_Based.calls (a0 : Int) (r : Bool) (w : World) (h : arlinkref01_Based.f a0 = some r) :
    Calls Tryd.prog 80 #[.int .i64 a0] w fun e w' => e = .returned (.bool r) ∧ Drawn0 w w' := by
  have H : (if a0 = 8 then (some true) else (some (a0 == 10))) = some r := h
  clear h
  by_cases c2 : a0 = 8
  · rw [if_pos c2] at H
    have c2b0 : (a0 == 8) = true := beq_iff_eq.mpr c2
    have c2b1 : (a0 != 8) = false := bne_eq_false_iff_eq.mpr c2
    clear c2
    obtain rfl := Option.some.inj H
    go_enter Tryd.func80, Tryd.ntmps80
    go_wp2
    go_ret
    exact ⟨by first | rfl | (simp; done) | (simp [*]; done), by repeat (first | exact Drawn0.refl _ | apply Drawn0.step)⟩
  · rw [if_neg c2] at H
    have c2b0 : (a0 == 8) = false := beq_eq_false_iff_ne.mpr c2
    have c2b1 : (a0 != 8) = true := bne_iff_ne.mpr c2
    obtain rfl := Option.some.inj H
    go_enter Tryd.func80, Tryd.ntmps80
    go_wp2
    go_ret
    exact ⟨by first | rfl | (simp; done) | (simp [*]; done), by repeat (first | exact Drawn0.refl _ | apply Drawn0.step)⟩
end Go.Proofs.YtjiokdkgbnakhaaDoor.K
end TKx13
section TFormat
set_option linter.unusedVariables false
set_option linter.unusedSimpArgs false
namespace Go.Proofs.YtjiokdkgbnakhaaDoor.Own
open Go.RowKit Go.Proofs.YtjiokdkgbnakhaaDoor Go.Proofs.YtjiokdkgbnakhaaDoorW.PrintWords Go.Proofs.YtjiokdkgbnakhaaDoorW.PrintLast Go.Proofs.YtjiokdkgbnakhaaDoorW.PrintMore
def Rw (w : World) (v : Value) (xs : List Int) : Prop := ∃ A c, v = .slice A xs.length c ∧ xs.length ≤ c ∧ (Kd.int .u8).C w A xs.length xs
theorem Rw.slice {w : World} {v : Value} {xs : List Int} (h : Rw w v xs) : ∃ A c, v = .slice A xs.length c := by
  obtain ⟨A, c, e, _⟩ := h
  exact ⟨A, c, e⟩
theorem Rw.nil (w : World) : Rw w (.slice none 0 0) [] := ⟨none, 0, rfl, Nat.le_refl _, Kd.C_of_reads (enc := Value.int .u8) (d := (0 : Int)) (h1 := fun _ => rfl) ⟨rfl, by decide, fun h => absurd h (Nat.lt_irrefl _)⟩⟩
def digB (b n : Nat) : List UInt8 := if h : n < b ∨ b < 2 then [UInt8.ofNat (48 + n)] else digB b (n / b) ++ [UInt8.ofNat (48 + n % b)]
termination_by n
decreasing_by exact Nat.div_lt_self (by omega) (by omega)
theorem digB_short (b n : Nat) : (digB b n).length ≤ n + 1 := by
  induction n using Nat.strongRecOn with
  | _ n ih =>
    rw [digB]
    split
    · simp
    · have hlt : n / b < n := Nat.div_lt_self (by omega) (by omega)
      have := ih (n / b) hlt
      simp only [List.length_append, List.length_cons, List.length_nil]
      omega
def textB (b n : Nat) : ByteArray := ⟨(digB b n).toArray⟩
theorem textB_size (b n : Nat) : (textB b n).size = (digB b n).length := rfl
theorem textB_ev (b : Nat) (hb : b = 8 ∨ b = 10) (n : Nat) (h : n < 9223372036854775808) : Ev (fun k => K.arlinkref01_Text.f k (n : Int) (b : Int)) (textB b n) := by
  induction n using Nat.strongRecOn with
  | _ n ih =>
    have hm : Int.tmod (n : Int) (b : Int) = ((n % b : Nat) : Int) := rfl
    have hdv : Int.tdiv (n : Int) (b : Int) = ((n / b : Nat) : Int) := rfl
    have hlt : n % b < b := Nat.mod_lt _ (by omega)
    have hex : ∀ j : Nat, j < 10 → (⟨#[48, 49, 50, 51, 52, 53, 54, 55, 56, 57]⟩ : ByteArray).extract j (j + 1) = ⟨#[UInt8.ofNat (48 + j)]⟩ := by decide
    by_cases h10 : n < b
    · refine Ev.step (f := fun _ => some (textB b n)) (fun k => ?_) (Ev.now _)
      rw [K.arlinkref01_Text.f, if_neg (by omega), hm, if_pos (by omega), wrap_up (by omega), if_pos (by omega), if_pos (by omega), if_pos (by omega)]
      rw [Int.toNat_natCast, Int.toNat_natCast, hex _ (by omega), textB, digB, dif_pos (.inl h10), Nat.mod_eq_of_lt h10]
    · have hdl : n / b < n := Nat.div_lt_self (by omega) (by omega)
      have hq : n / b ≤ n / 8 := by rcases hb with rfl | rfl <;> omega
      have hw : wrap64 ((n / b : Nat) : Int) = ((n / b : Nat) : Int) := by
        generalize n / b = m at hq
        unfold wrap64
        omega
      have hl := digB_short b (n / b)
      refine Ev.step (f := fun k => (K.arlinkref01_Text.f k ((n / b : Nat) : Int) (b : Int)).bind fun t => if t.size + 1 ≤ 9223372036854775807 then some (t ++ ⟨#[UInt8.ofNat (48 + n % b)]⟩) else none) (fun k => ?_) ?_
      · rw [K.arlinkref01_Text.f, if_neg (by omega), hm, if_pos (by omega), wrap_up (by omega), if_pos (by omega), if_pos (by omega), if_neg (by omega)]
        rw [Int.toNat_natCast, Int.toNat_natCast, hex _ (by omega), hdv, hw]
        rfl
      · refine Ev.bind (ih (n / b) hdl (by omega)) ?_
        rw [if_pos (by rw [textB_size]; omega)]
        have e : textB b (n / b) ++ ⟨#[UInt8.ofNat (48 + n % b)]⟩ = textB b n := by
          unfold textB
          rw [digB.eq_1 b n, dif_neg (by omega)]
          apply ByteArray.ext
          simp
        rw [e]
        exact Ev.now _
def isBase (b : Int) : Bool := decide (b = 8) || decide (b = 10)
def formatV (n base width : Int) : List Int × Int :=
  if isBase base = false ∨ width < 1 ∨ 18 < width then ([], 13)
  else if n < 0 ∨ width < ((textB base.toNat n.toNat).size : Int) then ([], 9)
  else (bytesOf (textB base.toNat n.toNat) ++ List.replicate (width.toNat - (textB base.toNat n.toNat).size) 32, 0)
def arlinkref01_Format.f (n base width : Int) : Option (List Int × Int) := if n < 9223372036854775808 then some (formatV n base width) else none
theorem based_f (b : Int) : K.arlinkref01_Based.f b = some (isBase b) := by
  unfold K.arlinkref01_Based.f isBase
  by_cases h : b = 8
  · simp [h]
  · simp [h]
    rfl
theorem text_calls (b n : Nat) (hb : b = 8 ∨ b = 10) (h : n < 9223372036854775808) (W : World) : Calls Tryd.prog 19 #[.int .i64 (n : Int), .int .i64 (b : Int)] W fun e w' => e = .returned (.string (textB b n)) ∧ ∃ nd, w' = W.drewN nd := by
  obtain ⟨k, hk⟩ := (textB_ev b hb n h).rounds
  refine (K.arlinkref01_Text.calls k (n : Int) (b : Int) (textB b n) W hk).mono ?_
  rintro e w' ⟨rfl, ⟨nd, rfl⟩⟩
  exact ⟨rfl, nd, rfl⟩
set_option maxRecDepth 100000 in
set_option maxHeartbeats 4000000 in
theorem format_bad (n base width : Int) (w : World) (h : isBase base = false ∨ width < 1 ∨ 18 < width) :
    Calls Tryd.prog 68 #[.int .i64 n, .int .i64 base, .int .i64 width] w fun e w' => e = .returned (.tuple #[.slice none 0 0, .int .i64 13]) ∧ Below w.heap.size w w' := by
  have hbc := K.arlinkref01_Based.calls base (isBase base) w (based_f base)
  have HBC := Lib.hid hbc
  clear hbc
  cases hb : isBase base with
  | false =>
    rw [hb] at HBC
    clear h hb
    go_enter Tryd.func68, Tryd.ntmps68
    go_wp2_with (go_at_call 80; refine HBC.out.mono ?_; rintro e w' ⟨rfl, ⟨nd, rfl⟩⟩)
    (try simp only [Exit.noGoto_ret, Exit.inBlock, Exit.then])
    go_ret2
    exact ⟨rfl, pw_below_drewN (Below.refl _ _) _⟩
  | true =>
    rw [hb] at HBC h
    by_cases h1 : width < 1
    · have d1 : decide (width < 1) = true := decide_eq_true h1
      clear h hb h1
      go_enter Tryd.func68, Tryd.ntmps68
      go_wp2_with (go_at_call 80; refine HBC.out.mono ?_; rintro e w' ⟨rfl, ⟨nd, rfl⟩⟩)
      (try simp only [Exit.noGoto_ret, Exit.inBlock, Exit.then])
      go_ret2
      exact ⟨rfl, pw_below_drewN (Below.refl _ _) _⟩
    · have h2 : 18 < width := by
        rcases h with h | h | h
        · cases h
        · exact absurd h h1
        · exact h
      have d1 : decide (width < 1) = false := decide_eq_false h1
      have d2 : decide (18 < width) = true := decide_eq_true h2
      clear h hb h1 h2
      go_enter Tryd.func68, Tryd.ntmps68
      go_wp2_with (go_at_call 80; refine HBC.out.mono ?_; rintro e w' ⟨rfl, ⟨nd, rfl⟩⟩)
      (try simp only [Exit.noGoto_ret, Exit.inBlock, Exit.then])
      go_ret2
      exact ⟨rfl, pw_below_drewN (Below.refl _ _) _⟩
set_option maxRecDepth 100000 in
set_option maxHeartbeats 4000000 in
theorem format_neg (n base width : Int) (w : World) (hb : isBase base = true) (h1 : ¬ width < 1) (h2 : ¬ 18 < width) (hn : n < 0) :
    Calls Tryd.prog 68 #[.int .i64 n, .int .i64 base, .int .i64 width] w fun e w' => e = .returned (.tuple #[.slice none 0 0, .int .i64 9]) ∧ Below w.heap.size w w' := by
  have hbc := K.arlinkref01_Based.calls base (isBase base) w (based_f base)
  rw [hb] at hbc
  have HBC := Lib.hid hbc
  have d1 : decide (width < 1) = false := decide_eq_false h1
  have d2 : decide (18 < width) = false := decide_eq_false h2
  have d3 : decide (n < 0) = true := decide_eq_true hn
  clear hbc hb h1 h2 hn
  go_enter Tryd.func68, Tryd.ntmps68
  go_wp2_with (go_at_call 80; refine HBC.out.mono ?_; rintro e w' ⟨rfl, ⟨nd, rfl⟩⟩)
  (try simp only [Exit.noGoto_ret, Exit.inBlock, Exit.then])
  go_ret2
  exact ⟨rfl, pw_below_drewN (Below.refl _ _) _⟩
set_option maxRecDepth 100000 in
set_option maxHeartbeats 4000000 in
theorem format_long (n b : Nat) (width : Int) (w : World) (hb : b = 8 ∨ b = 10) (h1 : ¬ width < 1) (h2 : ¬ 18 < width) (hn : n < 9223372036854775808) (hl : width < ((textB b n).size : Int)) :
    Calls Tryd.prog 68 #[.int .i64 (n : Int), .int .i64 (b : Int), .int .i64 width] w fun e w' => e = .returned (.tuple #[.slice none 0 0, .int .i64 9]) ∧ Below w.heap.size w w' := by
  have hbc := K.arlinkref01_Based.calls (b : Int) (isBase b) w (based_f b)
  rw [show isBase (b : Int) = true by rcases hb with rfl | rfl <;> rfl] at hbc
  have HBC := Lib.hid hbc
  have HTX := Lib.hid (text_calls b n hb hn)
  have d1 : decide (width < 1) = false := decide_eq_false h1
  have d2 : decide (18 < width) = false := decide_eq_false h2
  have d3 : decide ((n : Int) < 0) = false := decide_eq_false (by omega)
  have d4 : decide (width < ((textB b n).size : Int)) = true := decide_eq_true hl
  clear hbc hb h1 h2 hn hl
  go_enter Tryd.func68, Tryd.ntmps68
  go_wp2_with (first
    | (go_at_call 80; refine HBC.out.mono ?_; rintro e w' ⟨rfl, ⟨nd, rfl⟩⟩)
    | (go_at_call 19; refine (HTX.out _).mono ?_; rintro e w' ⟨rfl, ⟨nd1, rfl⟩⟩))
  (try simp only [Exit.noGoto_ret, Exit.inBlock, Exit.then])
  go_ret2
  exact ⟨rfl, pw_below_drewN (Below.refl _ _) _⟩
set_option maxRecDepth 100000 in
set_option maxHeartbeats 4000000 in
theorem format_ok (n b wd : Nat) (w : World) (hb : b = 8 ∨ b = 10) (h1 : 1 ≤ wd) (h2 : wd ≤ 18) (hn : n < 9223372036854775808) (hl : (textB b n).size ≤ wd) :
    Calls Tryd.prog 68 #[.int .i64 (n : Int), .int .i64 (b : Int), .int .i64 (wd : Int)] w fun e w' => ∃ v, e = .returned (.tuple #[v, .int .i64 0]) ∧ Rw w' v (bytesOf (textB b n) ++ List.replicate (wd - (textB b n).size) 32) ∧ Below w.heap.size w w' := by
  have hbc := K.arlinkref01_Based.calls (b : Int) (isBase b) w (based_f b)
  rw [show isBase (b : Int) = true by rcases hb with rfl | rfl <;> rfl] at hbc
  have HBC := Lib.hid hbc
  have HTX := Lib.hid (text_calls b n hb hn)
  obtain ⟨T, hT⟩ : ∃ T, textB b n = T := ⟨_, rfl⟩
  rw [hT] at hl HTX ⊢
  have d1 : decide ((wd : Int) < 1) = false := decide_eq_false (by omega)
  have d2 : decide (18 < (wd : Int)) = false := decide_eq_false (by omega)
  have d3 : decide ((n : Int) < 0) = false := decide_eq_false (by omega)
  have d4 : decide ((wd : Int) < (T.size : Int)) = false := decide_eq_false (by omega)
  have kc := conv_bytes
  clear hbc hb hT
  go_enter Tryd.func68, Tryd.ntmps68
  go_wp2_with (first
    | (go_at_call 80; refine HBC.out.mono ?_; rintro e w' ⟨rfl, ⟨nd, rfl⟩⟩)
    | (go_at_call 19; refine (HTX.out _).mono ?_; rintro e w' ⟨rfl, ⟨nd1, rfl⟩⟩))
  go_loopg [8] (wd - T.size) (fun g v8 wr => ∃ (j : Nat) (X : List Int), X = bytesOf T ++ List.replicate j 32 ∧ X.length = T.size + j ∧ j + g = wd - T.size ∧ Hid (OwnsM wr w.heap.size 5 v8 X.length (X.map (Value.int .u8))) ∧ Hid (Below w.heap.size w wr))
  case atStart =>
    refine ⟨0, bytesOf T, by simp, by rw [bytesOf_length]; rfl, by omega, Lib.hid ?_, Lib.hid ?_⟩
    · rw [bytesOf_length]
      exact bytesW_owns _ T (by omega)
    · exact below_step (pw_below_drewN (Below.refl _ _) _) (bytesW_below _ T)
  case round =>
    obtain ⟨j, X, hX, hXl, hjg, HO, HB⟩ := hrel
    obtain ⟨A, c, rfl, hc, hC⟩ := HO.out.reads
    have HX := Lib.hid hX
    have HC := Lib.hid (And.intro hc hC)
    clear hX hc hC
    by_cases hlt : (X.length : Int) < (wd : Int)
    · have d5 : decide ((X.length : Int) < (wd : Int)) = true := decide_eq_true hlt
      go_wp2_with (first
        | (at_builtin; refine wpList_append_M rfl _ _ 22 5 rfl Tryd.underlying22 K.info5 w.heap.size _ X.length _ rfl HO.out (.int .u8 32) rfl rfl HB.out (by omega) HB.out.size ?_; intro v' w' ho hb; have HO' := Lib.hid ho; have HB' := Lib.hid hb; clear ho hb))
      go_roundg (gk - 1)
      case measure => omega
      case rel =>
        refine ⟨j + 1, X ++ [32], ?_, by rw [List.length_append, hXl]; rfl, by omega, Lib.hid ?_, HB'⟩
        · rw [HX.out, List.replicate_succ', List.append_assoc]
        · rw [List.length_append, List.map_append]
          exact HO'.out
    · have d5 : decide ((X.length : Int) < (wd : Int)) = false := decide_eq_false hlt
      have hj : j = wd - T.size := by omega
      go_wp2
      go_ret2
      refine ⟨_, rfl, ?_, HB.out⟩
      rw [← hj, ← HX.out]
      obtain ⟨hc, hC⟩ := HC.out
      exact ⟨A, c, by simp [hXl]; omega, hc, hC⟩
theorem arlinkref01_Format.calls (n base width : Int) (r1 : List Int) (r2 : Int) (w : World) (h : arlinkref01_Format.f n base width = some (r1, r2)) :
    Calls Tryd.prog 68 #[.int .i64 n, .int .i64 base, .int .i64 width] w fun e w' => ∃ v, e = .returned (.tuple #[v, .int .i64 r2]) ∧ Rw w' v r1 ∧ Below w.heap.size w w' := by
  unfold arlinkref01_Format.f at h
  split at h
  · rename_i hn
    have hv := Option.some.inj h
    clear h
    by_cases hbad : isBase base = false ∨ width < 1 ∨ 18 < width
    · have e : formatV n base width = ([], 13) := by unfold formatV; rw [if_pos hbad]
      rw [e] at hv
      cases hv
      refine (format_bad n base width w hbad).mono ?_
      rintro e w' ⟨rfl, hb⟩
      exact ⟨_, rfl, Rw.nil _, hb⟩
    · simp only [not_or, Bool.not_eq_false] at hbad
      obtain ⟨hb, h1, h2⟩ := hbad
      have hbad' : ¬ (isBase base = false ∨ width < 1 ∨ 18 < width) := by
        rintro (h | h | h)
        · rw [hb] at h; cases h
        · exact h1 h
        · exact h2 h
      by_cases h0 : n < 0
      · have e : formatV n base width = ([], 9) := by unfold formatV; rw [if_neg hbad', if_pos (.inl h0)]
        rw [e] at hv
        cases hv
        refine (format_neg n base width w hb h1 h2 h0).mono ?_
        rintro e w' ⟨rfl, hb⟩
        exact ⟨_, rfl, Rw.nil _, hb⟩
      · obtain ⟨nn, rfl⟩ : ∃ nn : Nat, n = nn := ⟨n.toNat, by omega⟩
        have hbb : base = 8 ∨ base = 10 := by simpa [isBase] using hb
        obtain ⟨bb, rfl, hbn⟩ : ∃ bb : Nat, base = (bb : Int) ∧ (bb = 8 ∨ bb = 10) := ⟨base.toNat, by omega, by omega⟩
        obtain ⟨wd, rfl⟩ : ∃ wd : Nat, width = wd := ⟨width.toNat, by omega⟩
        by_cases hl : (wd : Int) < ((textB bb nn).size : Int)
        · have e : formatV (nn : Int) (bb : Int) (wd : Int) = ([], 9) := by unfold formatV; rw [if_neg hbad', if_pos (.inr hl)]
          rw [e] at hv
          cases hv
          refine (format_long nn bb wd w hbn h1 h2 (by omega) hl).mono ?_
          rintro e w' ⟨rfl, hb⟩
          exact ⟨_, rfl, Rw.nil _, hb⟩
        · have e : formatV (nn : Int) (bb : Int) (wd : Int) = (bytesOf (textB bb nn) ++ List.replicate (wd - (textB bb nn).size) 32, 0) := by
            unfold formatV
            rw [if_neg hbad']
            simp only [Int.toNat_natCast]
            rw [if_neg (fun h => h.elim h0 hl)]
          rw [e] at hv
          cases hv
          exact format_ok nn bb wd w hbn (by omega) (by omega) (by omega) (by omega)
  · cases h
#print axioms arlinkref01_Format.calls
end Go.Proofs.YtjiokdkgbnakhaaDoor.Own
end TFormat
section TMagic
set_option linter.unusedVariables false
set_option linter.unusedSimpArgs false
namespace Go.Proofs.YtjiokdkgbnakhaaDoor.Own
open Go.RowKit Go.Proofs.YtjiokdkgbnakhaaDoor Go.Proofs.YtjiokdkgbnakhaaDoorW.PrintWords Go.Proofs.YtjiokdkgbnakhaaDoorW.PrintLast Go.Proofs.YtjiokdkgbnakhaaDoorW.PrintMore
def magicL : List Int := [33, 60, 97, 114, 99, 104, 62, 10]
set_option maxRecDepth 100000 in
set_option maxHeartbeats 4000000 in
theorem magic_in (w : World) : Calls Tryd.prog 44 #[] w fun e w' => e = .returned (.slice (some ⟨w.heap.size, 0, none⟩) 8 8) ∧ w' = w.alloc (.cells #[.int .u8 33, .int .u8 60, .int .u8 97, .int .u8 114, .int .u8 99, .int .u8 104, .int .u8 62, .int .u8 10] 5 (8, 9)) := by
  have kc := fun (w : World) (C : Array Value) (n c : Nat) => Lib.run_convert_bytes_const (P := Tryd.prog) w 22 5 C n c Tryd.underlying22 Tryd.underlying5
  go_enter Tryd.func44, Tryd.ntmps44
  go_wp2
  go_ret
  exact ⟨rfl, rfl⟩
end Go.Proofs.YtjiokdkgbnakhaaDoor.Own
end TMagic
section TAddP
set_option linter.unusedVariables false
set_option linter.unusedSimpArgs false
namespace Go.Proofs.YtjiokdkgbnakhaaDoor.Own
open Go.RowKit Go.Proofs.YtjiokdkgbnakhaaDoor Go.Proofs.YtjiokdkgbnakhaaDoorW.PrintWords Go.Proofs.YtjiokdkgbnakhaaDoorW.PrintLast Go.Proofs.YtjiokdkgbnakhaaDoorW.PrintMore
structure PSt where
  hm : Bool
  map : List Int
  ms : List K.S57
  os : List Int
  names : List Int
  ht : Bool
def PSt.zero : PSt := ⟨false, [], [], [], [], false⟩
def memberV (n : ByteArray) (r : PartR) : K.S57 := ⟨n, r.2.1, r.2.2.1, r.2.2.2.1, r.2.2.2.2.1, r.data⟩
def PSt.first (st : PSt) : Bool := decide (st.ms.length = 0) && !st.ht
def isMap (s : ByteArray) : Bool := s.toList == [47]
def addV (st : PSt) (at_ : Nat) (r : PartR) : PSt × Int :=
  if isMap r.1 = true then (if st.first = false ∨ st.hm = true then (st, 8) else ({ st with hm := true, map := r.data }, 0))
  else if isTable r.1 = true then (if (entriesV r.data).2 ≠ 0 ∨ st.first = false then (st, 7) else ({ st with names := r.data, ht := true }, 0))
  else if (resolveV r.1 st.names).2 ≠ 0 then (st, (resolveV r.1 st.names).2)
  else ({ st with ms := st.ms ++ [memberV (resolveV r.1 st.names).1 r], os := st.os ++ [(at_ : Int)] }, 0)
abbrev ArcR : Type := Bool × List Int × List K.S57 × List Int × Int × Int
def badR (at_ : Nat) (e : Int) : ArcR := (false, [], [], [], (at_ : Int), e)
def foldP : PSt → List (Nat × PartR) → ArcR
  | st, [] => (st.hm, st.map, st.ms, st.os, 0, 0)
  | st, (a, r) :: ps => if r.why ≠ 0 then badR a r.why else if (addV st a r).2 ≠ 0 then badR a (addV st a r).2 else foldP (addV st a r).1 ps
def isV (l : List Int) : Bool := decide (l.take 8 = magicL)
def parseA (l : List Int) : ArcR :=
  if l.length < 8 then badR 0 2 else if isV l = false then badR 0 1 else foldP PSt.zero (partsOf l)
def stOf : PSt → List (Nat × PartR) → PSt
  | st, [] => st
  | st, (a, r) :: ps => stOf (addV st a r).1 ps
def goodP : PSt → List (Nat × PartR) → Bool
  | _, [] => true
  | st, (a, r) :: ps => (r.why == 0) && ((addV st a r).2 == 0) && goodP (addV st a r).1 ps
theorem stOf_snoc : ∀ (st : PSt) (ps : List (Nat × PartR)) (a : Nat) (r : PartR), stOf st (ps ++ [(a, r)]) = (addV (stOf st ps) a r).1
  | _, [], _, _ => rfl
  | st, (b, q) :: ps, a, r => by simp only [List.cons_append, stOf]; exact stOf_snoc _ ps a r
theorem goodP_snoc : ∀ (st : PSt) (ps : List (Nat × PartR)) (a : Nat) (r : PartR), goodP st (ps ++ [(a, r)]) = (goodP st ps && ((r.why == 0) && ((addV (stOf st ps) a r).2 == 0)))
  | _, [], _, _ => by simp [goodP, stOf]
  | st, (b, q) :: ps, a, r => by simp only [List.cons_append, goodP, stOf]; rw [goodP_snoc _ ps a r]; simp [Bool.and_assoc]
theorem foldP_good : ∀ (st : PSt) (ps : List (Nat × PartR)), goodP st ps = true → foldP st ps = ((stOf st ps).hm, (stOf st ps).map, (stOf st ps).ms, (stOf st ps).os, 0, 0)
  | _, [], _ => rfl
  | st, (a, r) :: ps, h => by
    simp only [goodP, Bool.and_eq_true, beq_iff_eq] at h
    simp only [foldP, stOf]
    rw [if_neg (fun e => e h.1.1), if_neg (fun e => e h.1.2)]
    exact foldP_good _ ps h.2
theorem foldP_bad : ∀ (st : PSt) (ps : List (Nat × PartR)) (a : Nat) (r : PartR) (qs : List (Nat × PartR)), goodP st ps = true →
    foldP st (ps ++ (a, r) :: qs) = if r.why ≠ 0 then badR a r.why else if (addV (stOf st ps) a r).2 ≠ 0 then badR a (addV (stOf st ps) a r).2 else foldP (addV (stOf st ps) a r).1 qs
  | _, [], _, _, _, _ => rfl
  | st, (b, q) :: ps, a, r, qs, h => by
    simp only [goodP, Bool.and_eq_true, beq_iff_eq] at h
    simp only [List.cons_append, foldP, stOf]
    rw [if_neg (fun e => e h.1.1), if_neg (fun e => e h.1.2)]
    exact foldP_bad _ ps a r qs h.2
theorem stOf_len : ∀ (st : PSt) (ps : List (Nat × PartR)), (stOf st ps).ms.length ≤ st.ms.length + ps.length ∧ (stOf st ps).os.length ≤ st.os.length + ps.length
  | _, [] => ⟨Nat.le_refl _, Nat.le_refl _⟩
  | st, (a, r) :: ps => by
    have h := stOf_len (addV st a r).1 ps
    have h1 : (addV st a r).1.ms.length ≤ st.ms.length + 1 ∧ (addV st a r).1.os.length ≤ st.os.length + 1 := by
      unfold addV
      repeat' split
      all_goals simp
    simp only [stOf, List.length_cons]
    omega
structure KeepP (B X : Nat) (W W' : World) : Prop where
  os : W'.os = W.os
  tape : W'.tape = W.tape
  output : W'.output = W.output
  size : W.heap.size ≤ W'.heap.size
  same : ∀ (i : Nat) (o : Obj), W.heap[i]? = some o → i ≠ X → (i < B ∨ ∀ cs t fr, o = .cells cs t fr → t ≠ 57 ∧ t ≠ 3) → W'.heap[i]? = some o
theorem KeepP.refl (B X : Nat) (W : World) : KeepP B X W W := ⟨rfl, rfl, rfl, Nat.le_refl _, fun _ _ h _ _ => h⟩
theorem KeepP.trans {B X : Nat} {W W1 W2 : World} (h : KeepP B X W W1) (k : KeepP B X W1 W2) : KeepP B X W W2 :=
  ⟨k.os.trans h.os, k.tape.trans h.tape, k.output.trans h.output, Nat.le_trans h.size k.size, fun i o hi hx ho => k.same i o (h.same i o hi hx ho) hx ho⟩
theorem KeepP.of_below {B X : Nat} {W W' : World} (hb : Below W.heap.size W W') : KeepP B X W W' :=
  ⟨hb.os, hb.tape, hb.output, hb.size, fun i o hi _ _ => (hb.block i (Array.getElem?_eq_some_iff.1 hi).1).trans hi⟩
theorem KeepP.set_ {B X : Nat} {W W1 : World} (h : KeepP B X W W1) (j : Nat) (v : Value) : KeepP B X W (W1.setCell ⟨X, j, none⟩ v) := by
  have hg := (Below.refl X W1).setCell (p := ⟨X, j, none⟩) (Nat.le_refl _) v
  exact ⟨hg.os.trans h.os, hg.tape.trans h.tape, hg.output.trans h.output, Nat.le_trans h.size hg.size, fun i o hi hx ho => (Below.heap_setCell W1 ⟨X, j, none⟩ v i (fun e => hx e)).trans (h.same i o hi hx ho)⟩
theorem KeepP.grow {B X : Nat} {W W1 W2 : World} (h : KeepP B X W W1) {row : Option Nat} (hg : W1.grownBy W2 row) (hB : ∀ k, row = some k → B ≤ k) (hty : ∀ k, row = some k → ∃ cells t, (t = 57 ∨ t = 3) ∧ W1.heap[k]? = some (.cells cells t (0, 0))) : KeepP B X W W2 :=
  h.trans ⟨hg.os, hg.tape, hg.output, hg.size, fun i o hi _ ho => by
    refine (hg.block i (Array.getElem?_eq_some_iff.1 hi).1 (fun e => ?_)).trans hi
    obtain ⟨cells, t, ht, hc⟩ := hty i e.symm
    rcases ho with ho | ho
    · have := hB i e.symm; omega
    · rw [hi] at hc
      cases hc
      have := ho cells t (0, 0) rfl
      rcases ht with rfl | rfl
      · exact this.1 rfl
      · exact this.2 rfl⟩
theorem KeepP.below {B X n₀ : Nat} {W W' : World} (h : KeepP B X W W') (hB : n₀ ≤ B) (hX : n₀ ≤ X) (hs : n₀ ≤ W.heap.size) : Below n₀ W W' :=
  ⟨h.os, h.tape, h.output, h.size, fun i hi => by
    obtain ⟨o, ho⟩ : ∃ o, W.heap[i]? = some o := ⟨_, Array.getElem?_eq_getElem (by omega)⟩
    exact (h.same i o ho (by omega) (.inl (by omega))).trans ho.symm⟩
theorem KeepP.blk {B X : Nat} {W W' : World} (h : KeepP B X W W') {i t : Nat} {cs : Array Value} {fr : Nat × Nat} (hi : W.heap[i]? = some (.cells cs t fr)) (hx : i ≠ X) (ht : i < B ∨ (t ≠ 57 ∧ t ≠ 3)) : W'.heap[i]? = some (.cells cs t fr) :=
  h.same i _ hi hx (ht.imp_right fun h0 cs' t' fr' e => by cases e; exact h0)
theorem KeepP.other {B X : Nat} {W W' : World} (h : KeepP B X W W') {i : Nat} {o : Obj} (hi : W.heap[i]? = some o) (hX : ∃ cs t fr, W.heap[X]? = some (.cells cs t fr)) (ho : o.isCells = false) : W'.heap[i]? = some o := by
  refine h.same i _ hi ?_ (.inr fun cs t fr e => by subst e; cases ho)
  rintro rfl
  obtain ⟨cs, t, fr, hc⟩ := hX
  rw [hi] at hc
  cases hc
  cases ho
def PInv (B X : Nat) (ok : Nat → Prop) (W : World) (st : PSt) : Prop := ∃ A1 A2 A3 A4 c1 c2 c3 c4,
  W.heap[X]? = some (.cells #[.bool st.hm, .slice A1 st.map.length c1, .slice A2 st.ms.length c2, .slice A3 st.os.length c3, .slice A4 st.names.length c4, .bool st.ht] 80 (0, 0)) ∧
  (Kd.int .u8).R 5 W B ok (.slice A1 st.map.length c1) st.map ∧
  Kd.S K.k57 57 W B (fun k => ok k ∧ some k ≠ (Value.slice A1 st.map.length c1).ownBlock) (.slice A2 st.ms.length c2) st.ms ∧
  (Kd.int .i64).R 3 W B (fun _ => True) (.slice A3 st.os.length c3) st.os ∧
  (Kd.int .u8).R 5 W B (fun _ => True) (.slice A4 st.names.length c4) st.names
theorem PInv.go {B X : Nat} {ok : Nat → Prop} {W W' : World} {st : PSt} (h : PInv B X ok W st) (hb : Below W.heap.size W W') : PInv B X ok W' st := by
  obtain ⟨A1, A2, A3, A4, c1, c2, c3, c4, h0, h1, h2, h3, h4⟩ := h
  exact ⟨A1, A2, A3, A4, c1, c2, c3, c4, (hb.block _ (Array.getElem?_eq_some_iff.1 h0).1).trans h0, Kd.R_below h1 hb, Kd.S_below h2 hb, Kd.R_below h3 hb, Kd.R_below h4 hb⟩
theorem PInv.zero {B X : Nat} {W : World} (h : W.heap[X]? = some (.cells #[.bool false, .slice none 0 0, .slice none 0 0, .slice none 0 0, .slice none 0 0, .bool false] 80 (0, 0))) : PInv B X (fun _ => True) W PSt.zero :=
  ⟨none, none, none, none, 0, 0, 0, 0, h, Kd.R_nil _ _ _ _ _, Kd.S_nil _ _ _ _ _, Kd.R_nil _ _ _ _ _, Kd.R_nil _ _ _ _ _⟩
theorem PInv.elder {B X : Nat} {W W' : World} {st : PSt} (h : PInv B X (fun _ => True) W st) (hb : Below W.heap.size W W') {vd : Value} (hv : ∀ k, vd.ownBlock = some k → W.heap.size ≤ k) : PInv B X (fun k => some k ≠ vd.ownBlock) W' st := by
  obtain ⟨A1, A2, A3, A4, c1, c2, c3, c4, h0, h1, h2, h3, h4⟩ := h
  exact ⟨A1, A2, A3, A4, c1, c2, c3, c4, (hb.block _ (Array.getElem?_eq_some_iff.1 h0).1).trans h0, Kd.R_mono (Kd.R_elder' h1 hv hb) (fun k hk => hk.2), Kd.S_mono (Kd.S_elder' h2 hv hb) (fun k hk => ⟨hk.2, hk.1.2⟩), Kd.R_below h3 hb, Kd.R_below h4 hb⟩
theorem PInv.cells {B X : Nat} {ok : Nat → Prop} {W : World} {st : PSt} (h : PInv B X ok W st) : ∃ A1 A2 A3 A4 c1 c2 c3 c4,
    W.cell? ⟨X, 0, none⟩ = some (.bool st.hm) ∧ W.cell? ⟨X, 1, none⟩ = some (.slice A1 st.map.length c1) ∧ W.cell? ⟨X, 2, none⟩ = some (.slice A2 st.ms.length c2) ∧ W.cell? ⟨X, 3, none⟩ = some (.slice A3 st.os.length c3) ∧ W.cell? ⟨X, 4, none⟩ = some (.slice A4 st.names.length c4) ∧ W.cell? ⟨X, 5, none⟩ = some (.bool st.ht) ∧ (∀ i, W.frozen? ⟨X, i, none⟩ = false) ∧ X < W.heap.size := by
  obtain ⟨A1, A2, A3, A4, c1, c2, c3, c4, h0, _⟩ := h
  have hc := fun i => cell_of_row W X i _ _ _ h0
  exact ⟨A1, A2, A3, A4, c1, c2, c3, c4, hc 0, hc 1, hc 2, hc 3, hc 4, hc 5, fun i => blk_frozen h0 i, (Array.getElem?_eq_some_iff.1 h0).1⟩
theorem PInv.frozen {B X : Nat} {ok : Nat → Prop} {W : World} {st : PSt} (h : PInv B X ok W st) (i : Nat) : W.frozen? ⟨X, i, none⟩ = false := by
  obtain ⟨A1, A2, A3, A4, c1, c2, c3, c4, _, _, _, _, _, _, hf, _⟩ := h.cells
  exact hf i
theorem R_setX {α : Type} {d : Kd α} {e base X t : Nat} {W : World} {ok : Nat → Prop} {v : Value} {xs : List α} {cells : Array Value} (h : d.R e W base ok v xs) (hb : W.heap[X]? = some (.cells cells t (0, 0))) (ht : ∀ q, q ∈ e :: d.E → q ≠ t) (j : Nat) (u : Value) : d.R e (W.setCell ⟨X, j, none⟩ u) base ok v xs :=
  Kd.R_mono (Kd.R_far (p := ⟨X, j, none⟩) (Kd.R_types h hb ht) (fun _ hk => hk.2) u) (fun _ hk => hk.1)
theorem types_u8 : ∀ q, q ∈ 5 :: (Kd.int .u8).E → q ≠ 80 := by decide
theorem types_i64 : ∀ q, q ∈ 3 :: (Kd.int .i64).E → q ≠ 80 := by decide
theorem types_k57 : ∀ q, q ∈ 57 :: K.k57.E → q ≠ 80 := by decide
theorem PInv.map {B X : Nat} {W : World} {st : PSt} {Ad : Option Addr} {cd : Nat} {d : List Int} (h : PInv B X (fun k => some k ≠ (Value.slice Ad d.length cd).ownBlock) W st) (hv : (Kd.int .u8).R 5 W B (fun _ => True) (.slice Ad d.length cd) d) :
    PInv B X (fun _ => True) ((W.setCell ⟨X, 0, none⟩ (.bool true)).setCell ⟨X, 1, none⟩ (.slice Ad d.length cd)) { st with hm := true, map := d } := by
  obtain ⟨A1, A2, A3, A4, c1, c2, c3, c4, h0, h1, h2, h3, h4⟩ := h
  have hs := blk_set h0 0 (.bool true)
  refine ⟨Ad, A2, A3, A4, cd, c2, c3, c4, blk_set hs 1 _, ?_, ?_, ?_, ?_⟩
  · exact R_setX (R_setX hv h0 types_u8 0 _) hs types_u8 1 _
  · exact Kd.S_mono (Kd.S_set (Kd.S_set h2 h0 types_k57 0 _) hs types_k57 1 _) (fun k hk => ⟨trivial, hk.1⟩)
  · exact R_setX (R_setX h3 h0 types_i64 0 _) hs types_i64 1 _
  · exact R_setX (R_setX h4 h0 types_u8 0 _) hs types_u8 1 _
theorem PInv.table {B X : Nat} {W : World} {st : PSt} {Ad : Option Addr} {cd : Nat} {d : List Int} (h : PInv B X (fun k => some k ≠ (Value.slice Ad d.length cd).ownBlock) W st) (hv : (Kd.int .u8).R 5 W B (fun _ => True) (.slice Ad d.length cd) d) :
    PInv B X (fun _ => True) ((W.setCell ⟨X, 5, none⟩ (.bool true)).setCell ⟨X, 4, none⟩ (.slice Ad d.length cd)) { st with names := d, ht := true } := by
  obtain ⟨A1, A2, A3, A4, c1, c2, c3, c4, h0, h1, h2, h3, h4⟩ := h
  have hs := blk_set h0 5 (.bool true)
  refine ⟨A1, A2, A3, Ad, c1, c2, c3, cd, blk_set hs 4 _, ?_, ?_, ?_, ?_⟩
  · exact R_setX (R_setX (Kd.R_mono h1 (fun _ _ => trivial)) h0 types_u8 5 _) hs types_u8 4 _
  · exact Kd.S_mono (Kd.S_set (Kd.S_set h2 h0 types_k57 5 _) hs types_k57 4 _) (fun k hk => ⟨trivial, hk.2⟩)
  · exact R_setX (R_setX h3 h0 types_i64 5 _) hs types_i64 4 _
  · exact R_setX (R_setX hv h0 types_u8 5 _) hs types_u8 4 _
end Go.Proofs.YtjiokdkgbnakhaaDoor.Own
end TAddP
section TKx20
namespace Go.Proofs.YtjiokdkgbnakhaaDoor.Own
end Go.Proofs.YtjiokdkgbnakhaaDoor.Own
namespace Go.Proofs.YtjiokdkgbnakhaaDoor.K
open Go.RowKit Go.Proofs.YtjiokdkgbnakhaaDoorW.PrintWords Go.Proofs.YtjiokdkgbnakhaaDoorW.PrintLast Go.Proofs.YtjiokdkgbnakhaaDoorW.PrintMore Go.Proofs.YtjiokdkgbnakhaaDoor.Own
attribute [local go_sem] max2_int min2_int max_two min_two max_three min_three max_four min_four
set_option linter.unusedVariables false
set_option linter.unusedSimpArgs false
def arlinkref04_SameMember.f (k : Nat) (a0_0 : ByteArray) (a0_1 : Int) (a0_2 : Int) (a0_3 : Int) (a0_4 : Int) (l0_5 : List Int) (a1_0 : ByteArray) (a1_1 : Int) (a1_2 : Int) (a1_3 : Int) (a1_4 : Int) (l1_5 : List Int) : Option (Bool) := if a0_0.toList = a1_0.toList then (if a0_1 = a1_1 then (if a0_2 = a1_2 then (if a0_3 = a1_3 then (if a0_4 = a1_4 then ((arlinkref01_Same.f k l0_5 l1_5).bind fun t397 => (some t397)) else (some false)) else (some false)) else (some false)) else (some false)) else (some false)
set_option maxHeartbeats 8000000 in
set_option maxRecDepth 100000 in
theorem arlinkref04_SameMember.calls (k : Nat) (a0_0 : ByteArray) (a0_1 : Int) (a0_2 : Int) (a0_3 : Int) (a0_4 : Int) (A0_5 : Option Addr) (c0_5 : Nat) (l0_5 : List Int) (a1_0 : ByteArray) (a1_1 : Int) (a1_2 : Int) (a1_3 : Int) (a1_4 : Int) (A1_5 : Option Addr) (c1_5 : Nat) (l1_5 : List Int) (r : Bool) (w : World) (hr0_5 : Kd.C (Kd.int .u8) w A0_5 l0_5.length l0_5) (hc0_5 : l0_5.length ≤ c0_5) (hr1_5 : Kd.C (Kd.int .u8) w A1_5 l1_5.length l1_5) (hc1_5 : l1_5.length ≤ c1_5) (h : arlinkref04_SameMember.f k a0_0 a0_1 a0_2 a0_3 a0_4 l0_5 a1_0 a1_1 a1_2 a1_3 a1_4 l1_5 = some r) :
    Calls Tryd.prog 45 #[.agg #[.string a0_0, .int .i64 a0_1, .int .i64 a0_2, .int .i64 a0_3, .int .i64 a0_4, .slice A0_5 l0_5.length c0_5], .agg #[.string a1_0, .int .i64 a1_1, .int .i64 a1_2, .int .i64 a1_3, .int .i64 a1_4, .slice A1_5 l1_5.length c1_5]] w fun e w' => e = .returned (.bool r) ∧ Below w.heap.size w w' := by
  have hu57 := Tryd.underlying57
  have HR0_5 := Aside0.mk hr0_5
  have HC0_5 := Aside0.mk hc0_5
  clear hr0_5 hc0_5
  have HR1_5 := Aside0.mk hr1_5
  have HC1_5 := Aside0.mk hc1_5
  clear hr1_5 hc1_5
  have HB := Aside0.mk (Below.refl w.heap.size w)
  have H : (if a0_0.toList = a1_0.toList then (if a0_1 = a1_1 then (if a0_2 = a1_2 then (if a0_3 = a1_3 then (if a0_4 = a1_4 then ((arlinkref01_Same.f k l0_5 l1_5).bind fun t397 => (some t397)) else (some false)) else (some false)) else (some false)) else (some false)) else (some false)) = some r := h
  clear h
  by_cases c3 : a0_0.toList = a1_0.toList
  · rw [if_pos c3] at H
    have c3b0 : (a0_0.toList == a1_0.toList) = true := beq_iff_eq.mpr c3
    have c3b1 : (a0_0.toList != a1_0.toList) = false := bne_eq_false_iff_eq.mpr c3
    clear c3
    by_cases c4 : a0_1 = a1_1
    · rw [if_pos c4] at H
      have c4b0 : (a0_1 == a1_1) = true := beq_iff_eq.mpr c4
      have c4b1 : (a0_1 != a1_1) = false := bne_eq_false_iff_eq.mpr c4
      clear c4
      by_cases c5 : a0_2 = a1_2
      · rw [if_pos c5] at H
        have c5b0 : (a0_2 == a1_2) = true := beq_iff_eq.mpr c5
        have c5b1 : (a0_2 != a1_2) = false := bne_eq_false_iff_eq.mpr c5
        clear c5
        by_cases c6 : a0_3 = a1_3
        · rw [if_pos c6] at H
          have c6b0 : (a0_3 == a1_3) = true := beq_iff_eq.mpr c6
          have c6b1 : (a0_3 != a1_3) = false := bne_eq_false_iff_eq.mpr c6
          clear c6
          by_cases c7 : a0_4 = a1_4
          · rw [if_pos c7] at H
            have c7b0 : (a0_4 == a1_4) = true := beq_iff_eq.mpr c7
            have c7b1 : (a0_4 != a1_4) = false := bne_eq_false_iff_eq.mpr c7
            clear c7
            replace H := Option.bind_eq_some_iff.mp H
            obtain ⟨t397, A80, H⟩ := H
            replace H : (some t397) = some r := H
            have A8 := Aside0.mk A80
            clear A80
            obtain rfl := Option.some.inj H
            go_enter Tryd.func45, Tryd.ntmps45
            go_wp2_with (first | ((with_reducible refine gate_dst (N := 2) rfl ?_); refine box_event ?hg (N := 2) ?hd (cs := #[.string a0_0, .int .i64 a0_1, .int .i64 a0_2, .int .i64 a0_3, .int .i64 a0_4, .slice A0_5 l0_5.length c0_5]) (t := 57) ?hr ?_; (case hd => rfl); (case hg => rfl); (case hr => first | (go_simp; done) | (go_simp; rfl)); intro gb395 hg w9 hbox hb; have n0_ := Aside0.mk (below_step (by repeat (first | (with_reducible first | exact HB.out | apply below_alloc | apply pw_below_drewN | apply below_drew1) | exact HB.out)) hb); have n1_ := Aside0.mk (hbox); have n2_ := Aside0.mk ((by rw [hg]; exact (below_size (by repeat (first | (with_reducible first | exact HB.out | apply below_alloc | apply pw_below_drewN | apply below_drew1) | exact HB.out))) : w.heap.size ≤ gb395)); have n3_ := Aside0.mk ((by rw [hg]; exact (below_size (by repeat (first | (with_reducible first | exact HB.out | apply below_alloc | apply pw_below_drewN | apply below_drew1) | exact HB.out))) : w.heap.size ≤ gb395)); clear HB; have HB := n0_; have BK395 := n1_; have GW395 := n2_; have GE395 := n3_; clear n0_ n1_ n2_ n3_; clear hb hbox hg) | ((with_reducible refine gate_dst (N := 3) rfl ?_); refine box_event ?hg (N := 3) ?hd (cs := #[.string a1_0, .int .i64 a1_1, .int .i64 a1_2, .int .i64 a1_3, .int .i64 a1_4, .slice A1_5 l1_5.length c1_5]) (t := 57) ?hr ?_; (case hd => rfl); (case hg => rfl); (case hr => first | (go_simp; done) | (go_simp; rfl)); intro gb396 hg w10 hbox hb; have n0_ := Aside0.mk (blk_below (g := gb395) (o := .cells #[.string a0_0, .int .i64 a0_1, .int .i64 a0_2, .int .i64 a0_3, .int .i64 a0_4, .slice A0_5 l0_5.length c0_5] 57 (0, 0)) (by (with_reducible repeat (first | refine blk_drewN ?_ _ | refine blk_drew ?_ | refine blk_alloc ?_ _)); exact BK395.out) hb); have n1_ := Aside0.mk (below_step (by repeat (first | (with_reducible first | exact HB.out | apply below_alloc | apply pw_below_drewN | apply below_drew1 | refine below_set ?_ GE395.out) | exact HB.out)) hb); have n2_ := Aside0.mk (hbox); have n3_ := Aside0.mk ((by rw [hg]; exact (below_size (by repeat (first | (with_reducible first | exact HB.out | apply below_alloc | apply pw_below_drewN | apply below_drew1 | refine below_set ?_ GE395.out) | exact HB.out))) : w.heap.size ≤ gb396)); have n4_ := Aside0.mk ((by rw [hg]; exact (below_size (by repeat (first | (with_reducible first | exact HB.out | apply below_alloc | apply pw_below_drewN | apply below_drew1 | refine below_set ?_ GE395.out) | exact HB.out))) : w.heap.size ≤ gb396)); have n5_ := Aside0.mk ((by rw [hg]; exact Nat.ne_of_lt (blk_lt (g := gb395) (o := .cells #[.string a0_0, .int .i64 a0_1, .int .i64 a0_2, .int .i64 a0_3, .int .i64 a0_4, .slice A0_5 l0_5.length c0_5] 57 (0, 0)) (by (with_reducible repeat (first | refine blk_drewN ?_ _ | refine blk_drew ?_ | refine blk_alloc ?_ _)); exact BK395.out)) : gb395 ≠ gb396)); have n6_ := Aside0.mk ((by rw [hg]; exact Nat.ne_of_gt (blk_lt (g := gb395) (o := .cells #[.string a0_0, .int .i64 a0_1, .int .i64 a0_2, .int .i64 a0_3, .int .i64 a0_4, .slice A0_5 l0_5.length c0_5] 57 (0, 0)) (by (with_reducible repeat (first | refine blk_drewN ?_ _ | refine blk_drew ?_ | refine blk_alloc ?_ _)); exact BK395.out)) : gb396 ≠ gb395)); clear BK395; clear HB; have BK395 := n0_; have HB := n1_; have BK396 := n2_; have GW396 := n3_; have GE396 := n4_; have NB395_396 := n5_; have NB396_395 := n6_; clear n0_ n1_ n2_ n3_ n4_ n5_ n6_; clear hb hbox hg; have hnb11 := NB395_396.out; have hnc11 := NB396_395.out; have hcz12_0 : w10.cell? ⟨gb395, 0, none⟩ = some (.string a0_0) := (blk_cell BK395.out 0).trans rfl; have hcz12_1 : w10.cell? ⟨gb395, 1, none⟩ = some (.int .i64 a0_1) := (blk_cell BK395.out 1).trans rfl; have hcz12_2 : w10.cell? ⟨gb395, 2, none⟩ = some (.int .i64 a0_2) := (blk_cell BK395.out 2).trans rfl; have hcz12_3 : w10.cell? ⟨gb395, 3, none⟩ = some (.int .i64 a0_3) := (blk_cell BK395.out 3).trans rfl; have hcz12_4 : w10.cell? ⟨gb395, 4, none⟩ = some (.int .i64 a0_4) := (blk_cell BK395.out 4).trans rfl; have hcz12_5 : w10.cell? ⟨gb395, 5, none⟩ = some (.slice A0_5 l0_5.length c0_5) := (blk_cell BK395.out 5).trans rfl; have hfz12_0 := blk_frozen BK395.out 0; have hfz12_1 := blk_frozen BK395.out 1; have hfz12_2 := blk_frozen BK395.out 2; have hfz12_3 := blk_frozen BK395.out 3; have hfz12_4 := blk_frozen BK395.out 4; have hfz12_5 := blk_frozen BK395.out 5; have hcz13_0 : w10.cell? ⟨gb396, 0, none⟩ = some (.string a1_0) := (blk_cell BK396.out 0).trans rfl; have hcz13_1 : w10.cell? ⟨gb396, 1, none⟩ = some (.int .i64 a1_1) := (blk_cell BK396.out 1).trans rfl; have hcz13_2 : w10.cell? ⟨gb396, 2, none⟩ = some (.int .i64 a1_2) := (blk_cell BK396.out 2).trans rfl; have hcz13_3 : w10.cell? ⟨gb396, 3, none⟩ = some (.int .i64 a1_3) := (blk_cell BK396.out 3).trans rfl; have hcz13_4 : w10.cell? ⟨gb396, 4, none⟩ = some (.int .i64 a1_4) := (blk_cell BK396.out 4).trans rfl; have hcz13_5 : w10.cell? ⟨gb396, 5, none⟩ = some (.slice A1_5 l1_5.length c1_5) := (blk_cell BK396.out 5).trans rfl; have hfz13_0 := blk_frozen BK396.out 0; have hfz13_1 := blk_frozen BK396.out 1; have hfz13_2 := blk_frozen BK396.out 2; have hfz13_3 := blk_frozen BK396.out 3; have hfz13_4 := blk_frozen BK396.out 4; have hfz13_5 := blk_frozen BK396.out 5) | (go_at_call 14; (with_reducible refine (arlinkref01_Same.calls k _ _ l0_5 _ _ l1_5 t397 _ ?side1 ?side2 ?side3 ?side4 A8.out).mono ?_); (case side1 => repeat (first | exact (Kd.C_below HR0_5.out HB.out) | (with_reducible refine Kd.C_alloc ?_ _) | (with_reducible refine Kd.C_drewN ?_ _) | (with_reducible refine Kd.C_drew ?_))); (case side2 => exact HC0_5.out); (case side3 => repeat (first | exact (Kd.C_below HR1_5.out HB.out) | (with_reducible refine Kd.C_alloc ?_ _) | (with_reducible refine Kd.C_drewN ?_ _) | (with_reducible refine Kd.C_drew ?_))); (case side4 => exact HC1_5.out); rintro e w' ⟨rfl, ⟨nd, rfl⟩⟩))
            go_ret
            exact ⟨by first | rfl | (simp [errW_none, errW_some] <;> rfl) | (simp [*, errW_none, errW_some] <;> rfl), by repeat (first | (with_reducible first | exact HB.out | apply below_alloc | apply pw_below_drewN | apply below_drew1 | refine below_set ?_ GE395.out | refine below_set ?_ GE396.out) | exact HB.out)⟩
          · rw [if_neg c7] at H
            have c7b0 : (a0_4 == a1_4) = false := beq_eq_false_iff_ne.mpr c7
            have c7b1 : (a0_4 != a1_4) = true := bne_iff_ne.mpr c7
            obtain rfl := Option.some.inj H
            go_enter Tryd.func45, Tryd.ntmps45
            go_wp2_with (first | ((with_reducible refine gate_dst (N := 2) rfl ?_); refine box_event ?hg (N := 2) ?hd (cs := #[.string a0_0, .int .i64 a0_1, .int .i64 a0_2, .int .i64 a0_3, .int .i64 a0_4, .slice A0_5 l0_5.length c0_5]) (t := 57) ?hr ?_; (case hd => rfl); (case hg => rfl); (case hr => first | (go_simp; done) | (go_simp; rfl)); intro gb395 hg w14 hbox hb; have n0_ := Aside0.mk (below_step (by repeat (first | (with_reducible first | exact HB.out | apply below_alloc | apply pw_below_drewN | apply below_drew1) | exact HB.out)) hb); have n1_ := Aside0.mk (hbox); have n2_ := Aside0.mk ((by rw [hg]; exact (below_size (by repeat (first | (with_reducible first | exact HB.out | apply below_alloc | apply pw_below_drewN | apply below_drew1) | exact HB.out))) : w.heap.size ≤ gb395)); have n3_ := Aside0.mk ((by rw [hg]; exact (below_size (by repeat (first | (with_reducible first | exact HB.out | apply below_alloc | apply pw_below_drewN | apply below_drew1) | exact HB.out))) : w.heap.size ≤ gb395)); clear HB; have HB := n0_; have BK395 := n1_; have GW395 := n2_; have GE395 := n3_; clear n0_ n1_ n2_ n3_; clear hb hbox hg) | ((with_reducible refine gate_dst (N := 3) rfl ?_); refine box_event ?hg (N := 3) ?hd (cs := #[.string a1_0, .int .i64 a1_1, .int .i64 a1_2, .int .i64 a1_3, .int .i64 a1_4, .slice A1_5 l1_5.length c1_5]) (t := 57) ?hr ?_; (case hd => rfl); (case hg => rfl); (case hr => first | (go_simp; done) | (go_simp; rfl)); intro gb396 hg w15 hbox hb; have n0_ := Aside0.mk (blk_below (g := gb395) (o := .cells #[.string a0_0, .int .i64 a0_1, .int .i64 a0_2, .int .i64 a0_3, .int .i64 a0_4, .slice A0_5 l0_5.length c0_5] 57 (0, 0)) (by (with_reducible repeat (first | refine blk_drewN ?_ _ | refine blk_drew ?_ | refine blk_alloc ?_ _)); exact BK395.out) hb); have n1_ := Aside0.mk (below_step (by repeat (first | (with_reducible first | exact HB.out | apply below_alloc | apply pw_below_drewN | apply below_drew1 | refine below_set ?_ GE395.out) | exact HB.out)) hb); have n2_ := Aside0.mk (hbox); have n3_ := Aside0.mk ((by rw [hg]; exact (below_size (by repeat (first | (with_reducible first | exact HB.out | apply below_alloc | apply pw_below_drewN | apply below_drew1 | refine below_set ?_ GE395.out) | exact HB.out))) : w.heap.size ≤ gb396)); have n4_ := Aside0.mk ((by rw [hg]; exact (below_size (by repeat (first | (with_reducible first | exact HB.out | apply below_alloc | apply pw_below_drewN | apply below_drew1 | refine below_set ?_ GE395.out) | exact HB.out))) : w.heap.size ≤ gb396)); have n5_ := Aside0.mk ((by rw [hg]; exact Nat.ne_of_lt (blk_lt (g := gb395) (o := .cells #[.string a0_0, .int .i64 a0_1, .int .i64 a0_2, .int .i64 a0_3, .int .i64 a0_4, .slice A0_5 l0_5.length c0_5] 57 (0, 0)) (by (with_reducible repeat (first | refine blk_drewN ?_ _ | refine blk_drew ?_ | refine blk_alloc ?_ _)); exact BK395.out)) : gb395 ≠ gb396)); have n6_ := Aside0.mk ((by rw [hg]; exact Nat.ne_of_gt (blk_lt (g := gb395) (o := .cells #[.string a0_0, .int .i64 a0_1, .int .i64 a0_2, .int .i64 a0_3, .int .i64 a0_4, .slice A0_5 l0_5.length c0_5] 57 (0, 0)) (by (with_reducible repeat (first | refine blk_drewN ?_ _ | refine blk_drew ?_ | refine blk_alloc ?_ _)); exact BK395.out)) : gb396 ≠ gb395)); clear BK395; clear HB; have BK395 := n0_; have HB := n1_; have BK396 := n2_; have GW396 := n3_; have GE396 := n4_; have NB395_396 := n5_; have NB396_395 := n6_; clear n0_ n1_ n2_ n3_ n4_ n5_ n6_; clear hb hbox hg; have hnb16 := NB395_396.out; have hnc16 := NB396_395.out; have hcz17_0 : w15.cell? ⟨gb395, 0, none⟩ = some (.string a0_0) := (blk_cell BK395.out 0).trans rfl; have hcz17_1 : w15.cell? ⟨gb395, 1, none⟩ = some (.int .i64 a0_1) := (blk_cell BK395.out 1).trans rfl; have hcz17_2 : w15.cell? ⟨gb395, 2, none⟩ = some (.int .i64 a0_2) := (blk_cell BK395.out 2).trans rfl; have hcz17_3 : w15.cell? ⟨gb395, 3, none⟩ = some (.int .i64 a0_3) := (blk_cell BK395.out 3).trans rfl; have hcz17_4 : w15.cell? ⟨gb395, 4, none⟩ = some (.int .i64 a0_4) := (blk_cell BK395.out 4).trans rfl; have hcz17_5 : w15.cell? ⟨gb395, 5, none⟩ = some (.slice A0_5 l0_5.length c0_5) := (blk_cell BK395.out 5).trans rfl; have hfz17_0 := blk_frozen BK395.out 0; have hfz17_1 := blk_frozen BK395.out 1; have hfz17_2 := blk_frozen BK395.out 2; have hfz17_3 := blk_frozen BK395.out 3; have hfz17_4 := blk_frozen BK395.out 4; have hfz17_5 := blk_frozen BK395.out 5; have hcz18_0 : w15.cell? ⟨gb396, 0, none⟩ = some (.string a1_0) := (blk_cell BK396.out 0).trans rfl; have hcz18_1 : w15.cell? ⟨gb396, 1, none⟩ = some (.int .i64 a1_1) := (blk_cell BK396.out 1).trans rfl; have hcz18_2 : w15.cell? ⟨gb396, 2, none⟩ = some (.int .i64 a1_2) := (blk_cell BK396.out 2).trans rfl; have hcz18_3 : w15.cell? ⟨gb396, 3, none⟩ = some (.int .i64 a1_3) := (blk_cell BK396.out 3).trans rfl; have hcz18_4 : w15.cell? ⟨gb396, 4, none⟩ = some (.int .i64 a1_4) := (blk_cell BK396.out 4).trans rfl; have hcz18_5 : w15.cell? ⟨gb396, 5, none⟩ = some (.slice A1_5 l1_5.length c1_5) := (blk_cell BK396.out 5).trans rfl; have hfz18_0 := blk_frozen BK396.out 0; have hfz18_1 := blk_frozen BK396.out 1; have hfz18_2 := blk_frozen BK396.out 2; have hfz18_3 := blk_frozen BK396.out 3; have hfz18_4 := blk_frozen BK396.out 4; have hfz18_5 := blk_frozen BK396.out 5))
            go_ret
            exact ⟨by first | rfl | (simp [errW_none, errW_some] <;> rfl) | (simp [*, errW_none, errW_some] <;> rfl), by repeat (first | (with_reducible first | exact HB.out | apply below_alloc | apply pw_below_drewN | apply below_drew1 | refine below_set ?_ GE395.out | refine below_set ?_ GE396.out) | exact HB.out)⟩
        · rw [if_neg c6] at H
          have c6b0 : (a0_3 == a1_3) = false := beq_eq_false_iff_ne.mpr c6
          have c6b1 : (a0_3 != a1_3) = true := bne_iff_ne.mpr c6
          obtain rfl := Option.some.inj H
          go_enter Tryd.func45, Tryd.ntmps45
          go_wp2_with (first | ((with_reducible refine gate_dst (N := 2) rfl ?_); refine box_event ?hg (N := 2) ?hd (cs := #[.string a0_0, .int .i64 a0_1, .int .i64 a0_2, .int .i64 a0_3, .int .i64 a0_4, .slice A0_5 l0_5.length c0_5]) (t := 57) ?hr ?_; (case hd => rfl); (case hg => rfl); (case hr => first | (go_simp; done) | (go_simp; rfl)); intro gb395 hg w19 hbox hb; have n0_ := Aside0.mk (below_step (by repeat (first | (with_reducible first | exact HB.out | apply below_alloc | apply pw_below_drewN | apply below_drew1) | exact HB.out)) hb); have n1_ := Aside0.mk (hbox); have n2_ := Aside0.mk ((by rw [hg]; exact (below_size (by repeat (first | (with_reducible first | exact HB.out | apply below_alloc | apply pw_below_drewN | apply below_drew1) | exact HB.out))) : w.heap.size ≤ gb395)); have n3_ := Aside0.mk ((by rw [hg]; exact (below_size (by repeat (first | (with_reducible first | exact HB.out | apply below_alloc | apply pw_below_drewN | apply below_drew1) | exact HB.out))) : w.heap.size ≤ gb395)); clear HB; have HB := n0_; have BK395 := n1_; have GW395 := n2_; have GE395 := n3_; clear n0_ n1_ n2_ n3_; clear hb hbox hg) | ((with_reducible refine gate_dst (N := 3) rfl ?_); refine box_event ?hg (N := 3) ?hd (cs := #[.string a1_0, .int .i64 a1_1, .int .i64 a1_2, .int .i64 a1_3, .int .i64 a1_4, .slice A1_5 l1_5.length c1_5]) (t := 57) ?hr ?_; (case hd => rfl); (case hg => rfl); (case hr => first | (go_simp; done) | (go_simp; rfl)); intro gb396 hg w20 hbox hb; have n0_ := Aside0.mk (blk_below (g := gb395) (o := .cells #[.string a0_0, .int .i64 a0_1, .int .i64 a0_2, .int .i64 a0_3, .int .i64 a0_4, .slice A0_5 l0_5.length c0_5] 57 (0, 0)) (by (with_reducible repeat (first | refine blk_drewN ?_ _ | refine blk_drew ?_ | refine blk_alloc ?_ _)); exact BK395.out) hb); have n1_ := Aside0.mk (below_step (by repeat (first | (with_reducible first | exact HB.out | apply below_alloc | apply pw_below_drewN | apply below_drew1 | refine below_set ?_ GE395.out) | exact HB.out)) hb); have n2_ := Aside0.mk (hbox); have n3_ := Aside0.mk ((by rw [hg]; exact (below_size (by repeat (first | (with_reducible first | exact HB.out | apply below_alloc | apply pw_below_drewN | apply below_drew1 | refine below_set ?_ GE395.out) | exact HB.out))) : w.heap.size ≤ gb396)); have n4_ := Aside0.mk ((by rw [hg]; exact (below_size (by repeat (first | (with_reducible first | exact HB.out | apply below_alloc | apply pw_below_drewN | apply below_drew1 | refine below_set ?_ GE395.out) | exact HB.out))) : w.heap.size ≤ gb396)); have n5_ := Aside0.mk ((by rw [hg]; exact Nat.ne_of_lt (blk_lt (g := gb395) (o := .cells #[.string a0_0, .int .i64 a0_1, .int .i64 a0_2, .int .i64 a0_3, .int .i64 a0_4, .slice A0_5 l0_5.length c0_5] 57 (0, 0)) (by (with_reducible repeat (first | refine blk_drewN ?_ _ | refine blk_drew ?_ | refine blk_alloc ?_ _)); exact BK395.out)) : gb395 ≠ gb396)); have n6_ := Aside0.mk ((by rw [hg]; exact Nat.ne_of_gt (blk_lt (g := gb395) (o := .cells #[.string a0_0, .int .i64 a0_1, .int .i64 a0_2, .int .i64 a0_3, .int .i64 a0_4, .slice A0_5 l0_5.length c0_5] 57 (0, 0)) (by (with_reducible repeat (first | refine blk_drewN ?_ _ | refine blk_drew ?_ | refine blk_alloc ?_ _)); exact BK395.out)) : gb396 ≠ gb395)); clear BK395; clear HB; have BK395 := n0_; have HB := n1_; have BK396 := n2_; have GW396 := n3_; have GE396 := n4_; have NB395_396 := n5_; have NB396_395 := n6_; clear n0_ n1_ n2_ n3_ n4_ n5_ n6_; clear hb hbox hg; have hnb21 := NB395_396.out; have hnc21 := NB396_395.out; have hcz22_0 : w20.cell? ⟨gb395, 0, none⟩ = some (.string a0_0) := (blk_cell BK395.out 0).trans rfl; have hcz22_1 : w20.cell? ⟨gb395, 1, none⟩ = some (.int .i64 a0_1) := (blk_cell BK395.out 1).trans rfl; have hcz22_2 : w20.cell? ⟨gb395, 2, none⟩ = some (.int .i64 a0_2) := (blk_cell BK395.out 2).trans rfl; have hcz22_3 : w20.cell? ⟨gb395, 3, none⟩ = some (.int .i64 a0_3) := (blk_cell BK395.out 3).trans rfl; have hcz22_4 : w20.cell? ⟨gb395, 4, none⟩ = some (.int .i64 a0_4) := (blk_cell BK395.out 4).trans rfl; have hcz22_5 : w20.cell? ⟨gb395, 5, none⟩ = some (.slice A0_5 l0_5.length c0_5) := (blk_cell BK395.out 5).trans rfl; have hfz22_0 := blk_frozen BK395.out 0; have hfz22_1 := blk_frozen BK395.out 1; have hfz22_2 := blk_frozen BK395.out 2; have hfz22_3 := blk_frozen BK395.out 3; have hfz22_4 := blk_frozen BK395.out 4; have hfz22_5 := blk_frozen BK395.out 5; have hcz23_0 : w20.cell? ⟨gb396, 0, none⟩ = some (.string a1_0) := (blk_cell BK396.out 0).trans rfl; have hcz23_1 : w20.cell? ⟨gb396, 1, none⟩ = some (.int .i64 a1_1) := (blk_cell BK396.out 1).trans rfl; have hcz23_2 : w20.cell? ⟨gb396, 2, none⟩ = some (.int .i64 a1_2) := (blk_cell BK396.out 2).trans rfl; have hcz23_3 : w20.cell? ⟨gb396, 3, none⟩ = some (.int .i64 a1_3) := (blk_cell BK396.out 3).trans rfl; have hcz23_4 : w20.cell? ⟨gb396, 4, none⟩ = some (.int .i64 a1_4) := (blk_cell BK396.out 4).trans rfl; have hcz23_5 : w20.cell? ⟨gb396, 5, none⟩ = some (.slice A1_5 l1_5.length c1_5) := (blk_cell BK396.out 5).trans rfl; have hfz23_0 := blk_frozen BK396.out 0; have hfz23_1 := blk_frozen BK396.out 1; have hfz23_2 := blk_frozen BK396.out 2; have hfz23_3 := blk_frozen BK396.out 3; have hfz23_4 := blk_frozen BK396.out 4; have hfz23_5 := blk_frozen BK396.out 5))
          go_ret
          exact ⟨by first | rfl | (simp [errW_none, errW_some] <;> rfl) | (simp [*, errW_none, errW_some] <;> rfl), by repeat (first | (with_reducible first | exact HB.out | apply below_alloc | apply pw_below_drewN | apply below_drew1 | refine below_set ?_ GE395.out | refine below_set ?_ GE396.out) | exact HB.out)⟩
      · rw [if_neg c5] at H
        have c5b0 : (a0_2 == a1_2) = false := beq_eq_false_iff_ne.mpr c5
        have c5b1 : (a0_2 != a1_2) = true := bne_iff_ne.mpr c5
        obtain rfl := Option.some.inj H
        go_enter Tryd.func45, Tryd.ntmps45
        go_wp2_with (first | ((with_reducible refine gate_dst (N := 2) rfl ?_); refine box_event ?hg (N := 2) ?hd (cs := #[.string a0_0, .int .i64 a0_1, .int .i64 a0_2, .int .i64 a0_3, .int .i64 a0_4, .slice A0_5 l0_5.length c0_5]) (t := 57) ?hr ?_; (case hd => rfl); (case hg => rfl); (case hr => first | (go_simp; done) | (go_simp; rfl)); intro gb395 hg w24 hbox hb; have n0_ := Aside0.mk (below_step (by repeat (first | (with_reducible first | exact HB.out | apply below_alloc | apply pw_below_drewN | apply below_drew1) | exact HB.out)) hb); have n1_ := Aside0.mk (hbox); have n2_ := Aside0.mk ((by rw [hg]; exact (below_size (by repeat (first | (with_reducible first | exact HB.out | apply below_alloc | apply pw_below_drewN | apply below_drew1) | exact HB.out))) : w.heap.size ≤ gb395)); have n3_ := Aside0.mk ((by rw [hg]; exact (below_size (by repeat (first | (with_reducible first | exact HB.out | apply below_alloc | apply pw_below_drewN | apply below_drew1) | exact HB.out))) : w.heap.size ≤ gb395)); clear HB; have HB := n0_; have BK395 := n1_; have GW395 := n2_; have GE395 := n3_; clear n0_ n1_ n2_ n3_; clear hb hbox hg) | ((with_reducible refine gate_dst (N := 3) rfl ?_); refine box_event ?hg (N := 3) ?hd (cs := #[.string a1_0, .int .i64 a1_1, .int .i64 a1_2, .int .i64 a1_3, .int .i64 a1_4, .slice A1_5 l1_5.length c1_5]) (t := 57) ?hr ?_; (case hd => rfl); (case hg => rfl); (case hr => first | (go_simp; done) | (go_simp; rfl)); intro gb396 hg w25 hbox hb; have n0_ := Aside0.mk (blk_below (g := gb395) (o := .cells #[.string a0_0, .int .i64 a0_1, .int .i64 a0_2, .int .i64 a0_3, .int .i64 a0_4, .slice A0_5 l0_5.length c0_5] 57 (0, 0)) (by (with_reducible repeat (first | refine blk_drewN ?_ _ | refine blk_drew ?_ | refine blk_alloc ?_ _)); exact BK395.out) hb); have n1_ := Aside0.mk (below_step (by repeat (first | (with_reducible first | exact HB.out | apply below_alloc | apply pw_below_drewN | apply below_drew1 | refine below_set ?_ GE395.out) | exact HB.out)) hb); have n2_ := Aside0.mk (hbox); have n3_ := Aside0.mk ((by rw [hg]; exact (below_size (by repeat (first | (with_reducible first | exact HB.out | apply below_alloc | apply pw_below_drewN | apply below_drew1 | refine below_set ?_ GE395.out) | exact HB.out))) : w.heap.size ≤ gb396)); have n4_ := Aside0.mk ((by rw [hg]; exact (below_size (by repeat (first | (with_reducible first | exact HB.out | apply below_alloc | apply pw_below_drewN | apply below_drew1 | refine below_set ?_ GE395.out) | exact HB.out))) : w.heap.size ≤ gb396)); have n5_ := Aside0.mk ((by rw [hg]; exact Nat.ne_of_lt (blk_lt (g := gb395) (o := .cells #[.string a0_0, .int .i64 a0_1, .int .i64 a0_2, .int .i64 a0_3, .int .i64 a0_4, .slice A0_5 l0_5.length c0_5] 57 (0, 0)) (by (with_reducible repeat (first | refine blk_drewN ?_ _ | refine blk_drew ?_ | refine blk_alloc ?_ _)); exact BK395.out)) : gb395 ≠ gb396)); have n6_ := Aside0.mk ((by rw [hg]; exact Nat.ne_of_gt (blk_lt (g := gb395) (o := .cells #[.string a0_0, .int .i64 a0_1, .int .i64 a0_2, .int .i64 a0_3, .int .i64 a0_4, .slice A0_5 l0_5.length c0_5] 57 (0, 0)) (by (with_reducible repeat (first | refine blk_drewN ?_ _ | refine blk_drew ?_ | refine blk_alloc ?_ _)); exact BK395.out)) : gb396 ≠ gb395)); clear BK395; clear HB; have BK395 := n0_; have HB := n1_; have BK396 := n2_; have GW396 := n3_; have GE396 := n4_; have NB395_396 := n5_; have NB396_395 := n6_; clear n0_ n1_ n2_ n3_ n4_ n5_ n6_; clear hb hbox hg; have hnb26 := NB395_396.out; have hnc26 := NB396_395.out; have hcz27_0 : w25.cell? ⟨gb395, 0, none⟩ = some (.string a0_0) := (blk_cell BK395.out 0).trans rfl; have hcz27_1 : w25.cell? ⟨gb395, 1, none⟩ = some (.int .i64 a0_1) := (blk_cell BK395.out 1).trans rfl; have hcz27_2 : w25.cell? ⟨gb395, 2, none⟩ = some (.int .i64 a0_2) := (blk_cell BK395.out 2).trans rfl; have hcz27_3 : w25.cell? ⟨gb395, 3, none⟩ = some (.int .i64 a0_3) := (blk_cell BK395.out 3).trans rfl; have hcz27_4 : w25.cell? ⟨gb395, 4, none⟩ = some (.int .i64 a0_4) := (blk_cell BK395.out 4).trans rfl; have hcz27_5 : w25.cell? ⟨gb395, 5, none⟩ = some (.slice A0_5 l0_5.length c0_5) := (blk_cell BK395.out 5).trans rfl; have hfz27_0 := blk_frozen BK395.out 0; have hfz27_1 := blk_frozen BK395.out 1; have hfz27_2 := blk_frozen BK395.out 2; have hfz27_3 := blk_frozen BK395.out 3; have hfz27_4 := blk_frozen BK395.out 4; have hfz27_5 := blk_frozen BK395.out 5; have hcz28_0 : w25.cell? ⟨gb396, 0, none⟩ = some (.string a1_0) := (blk_cell BK396.out 0).trans rfl; have hcz28_1 : w25.cell? ⟨gb396, 1, none⟩ = some (.int .i64 a1_1) := (blk_cell BK396.out 1).trans rfl; have hcz28_2 : w25.cell? ⟨gb396, 2, none⟩ = some (.int .i64 a1_2) := (blk_cell BK396.out 2).trans rfl; have hcz28_3 : w25.cell? ⟨gb396, 3, none⟩ = some (.int .i64 a1_3) := (blk_cell BK396.out 3).trans rfl; have hcz28_4 : w25.cell? ⟨gb396, 4, none⟩ = some (.int .i64 a1_4) := (blk_cell BK396.out 4).trans rfl; have hcz28_5 : w25.cell? ⟨gb396, 5, none⟩ = some (.slice A1_5 l1_5.length c1_5) := (blk_cell BK396.out 5).trans rfl; have hfz28_0 := blk_frozen BK396.out 0; have hfz28_1 := blk_frozen BK396.out 1; have hfz28_2 := blk_frozen BK396.out 2; have hfz28_3 := blk_frozen BK396.out 3; have hfz28_4 := blk_frozen BK396.out 4; have hfz28_5 := blk_frozen BK396.out 5))
        go_ret
        exact ⟨by first | rfl | (simp [errW_none, errW_some] <;> rfl) | (simp [*, errW_none, errW_some] <;> rfl), by repeat (first | (with_reducible first | exact HB.out | apply below_alloc | apply pw_below_drewN | apply below_drew1 | refine below_set ?_ GE395.out | refine below_set ?_ GE396.out) | exact HB.out)⟩
    · rw [if_neg c4] at H
      have c4b0 : (a0_1 == a1_1) = false := beq_eq_false_iff_ne.mpr c4
      have c4b1 : (a0_1 != a1_1) = true := bne_iff_ne.mpr c4
      obtain rfl := Option.some.inj H
      go_enter Tryd.func45, Tryd.ntmps45
      go_wp2_with (first | ((with_reducible refine gate_dst (N := 2) rfl ?_); refine box_event ?hg (N := 2) ?hd (cs := #[.string a0_0, .int .i64 a0_1, .int .i64 a0_2, .int .i64 a0_3, .int .i64 a0_4, .slice A0_5 l0_5.length c0_5]) (t := 57) ?hr ?_; (case hd => rfl); (case hg => rfl); (case hr => first | (go_simp; done) | (go_simp; rfl)); intro gb395 hg w29 hbox hb; have n0_ := Aside0.mk (below_step (by repeat (first | (with_reducible first | exact HB.out | apply below_alloc | apply pw_below_drewN | apply below_drew1) | exact HB.out)) hb); have n1_ := Aside0.mk (hbox); have n2_ := Aside0.mk ((by rw [hg]; exact (below_size (by repeat (first | (with_reducible first | exact HB.out | apply below_alloc | apply pw_below_drewN | apply below_drew1) | exact HB.out))) : w.heap.size ≤ gb395)); have n3_ := Aside0.mk ((by rw [hg]; exact (below_size (by repeat (first | (with_reducible first | exact HB.out | apply below_alloc | apply pw_below_drewN | apply below_drew1) | exact HB.out))) : w.heap.size ≤ gb395)); clear HB; have HB := n0_; have BK395 := n1_; have GW395 := n2_; have GE395 := n3_; clear n0_ n1_ n2_ n3_; clear hb hbox hg) | ((with_reducible refine gate_dst (N := 3) rfl ?_); refine box_event ?hg (N := 3) ?hd (cs := #[.string a1_0, .int .i64 a1_1, .int .i64 a1_2, .int .i64 a1_3, .int .i64 a1_4, .slice A1_5 l1_5.length c1_5]) (t := 57) ?hr ?_; (case hd => rfl); (case hg => rfl); (case hr => first | (go_simp; done) | (go_simp; rfl)); intro gb396 hg w30 hbox hb; have n0_ := Aside0.mk (blk_below (g := gb395) (o := .cells #[.string a0_0, .int .i64 a0_1, .int .i64 a0_2, .int .i64 a0_3, .int .i64 a0_4, .slice A0_5 l0_5.length c0_5] 57 (0, 0)) (by (with_reducible repeat (first | refine blk_drewN ?_ _ | refine blk_drew ?_ | refine blk_alloc ?_ _)); exact BK395.out) hb); have n1_ := Aside0.mk (below_step (by repeat (first | (with_reducible first | exact HB.out | apply below_alloc | apply pw_below_drewN | apply below_drew1 | refine below_set ?_ GE395.out) | exact HB.out)) hb); have n2_ := Aside0.mk (hbox); have n3_ := Aside0.mk ((by rw [hg]; exact (below_size (by repeat (first | (with_reducible first | exact HB.out | apply below_alloc | apply pw_below_drewN | apply below_drew1 | refine below_set ?_ GE395.out) | exact HB.out))) : w.heap.size ≤ gb396)); have n4_ := Aside0.mk ((by rw [hg]; exact (below_size (by repeat (first | (with_reducible first | exact HB.out | apply below_alloc | apply pw_below_drewN | apply below_drew1 | refine below_set ?_ GE395.out) | exact HB.out))) : w.heap.size ≤ gb396)); have n5_ := Aside0.mk ((by rw [hg]; exact Nat.ne_of_lt (blk_lt (g := gb395) (o := .cells #[.string a0_0, .int .i64 a0_1, .int .i64 a0_2, .int .i64 a0_3, .int .i64 a0_4, .slice A0_5 l0_5.length c0_5] 57 (0, 0)) (by (with_reducible repeat (first | refine blk_drewN ?_ _ | refine blk_drew ?_ | refine blk_alloc ?_ _)); exact BK395.out)) : gb395 ≠ gb396)); have n6_ := Aside0.mk ((by rw [hg]; exact Nat.ne_of_gt (blk_lt (g := gb395) (o := .cells #[.string a0_0, .int .i64 a0_1, .int .i64 a0_2, .int .i64 a0_3, .int .i64 a0_4, .slice A0_5 l0_5.length c0_5] 57 (0, 0)) (by (with_reducible repeat (first | refine blk_drewN ?_ _ | refine blk_drew ?_ | refine blk_alloc ?_ _)); exact BK395.out)) : gb396 ≠ gb395)); clear BK395; clear HB; have BK395 := n0_; have HB := n1_; have BK396 := n2_; have GW396 := n3_; have GE396 := n4_; have NB395_396 := n5_; have NB396_395 := n6_; clear n0_ n1_ n2_ n3_ n4_ n5_ n6_; clear hb hbox hg; have hnb31 := NB395_396.out; have hnc31 := NB396_395.out; have hcz32_0 : w30.cell? ⟨gb395, 0, none⟩ = some (.string a0_0) := (blk_cell BK395.out 0).trans rfl; have hcz32_1 : w30.cell? ⟨gb395, 1, none⟩ = some (.int .i64 a0_1) := (blk_cell BK395.out 1).trans rfl; have hcz32_2 : w30.cell? ⟨gb395, 2, none⟩ = some (.int .i64 a0_2) := (blk_cell BK395.out 2).trans rfl; have hcz32_3 : w30.cell? ⟨gb395, 3, none⟩ = some (.int .i64 a0_3) := (blk_cell BK395.out 3).trans rfl; have hcz32_4 : w30.cell? ⟨gb395, 4, none⟩ = some (.int .i64 a0_4) := (blk_cell BK395.out 4).trans rfl; have hcz32_5 : w30.cell? ⟨gb395, 5, none⟩ = some (.slice A0_5 l0_5.length c0_5) := (blk_cell BK395.out 5).trans rfl; have hfz32_0 := blk_frozen BK395.out 0; have hfz32_1 := blk_frozen BK395.out 1; have hfz32_2 := blk_frozen BK395.out 2; have hfz32_3 := blk_frozen BK395.out 3; have hfz32_4 := blk_frozen BK395.out 4; have hfz32_5 := blk_frozen BK395.out 5; have hcz33_0 : w30.cell? ⟨gb396, 0, none⟩ = some (.string a1_0) := (blk_cell BK396.out 0).trans rfl; have hcz33_1 : w30.cell? ⟨gb396, 1, none⟩ = some (.int .i64 a1_1) := (blk_cell BK396.out 1).trans rfl; have hcz33_2 : w30.cell? ⟨gb396, 2, none⟩ = some (.int .i64 a1_2) := (blk_cell BK396.out 2).trans rfl; have hcz33_3 : w30.cell? ⟨gb396, 3, none⟩ = some (.int .i64 a1_3) := (blk_cell BK396.out 3).trans rfl; have hcz33_4 : w30.cell? ⟨gb396, 4, none⟩ = some (.int .i64 a1_4) := (blk_cell BK396.out 4).trans rfl; have hcz33_5 : w30.cell? ⟨gb396, 5, none⟩ = some (.slice A1_5 l1_5.length c1_5) := (blk_cell BK396.out 5).trans rfl; have hfz33_0 := blk_frozen BK396.out 0; have hfz33_1 := blk_frozen BK396.out 1; have hfz33_2 := blk_frozen BK396.out 2; have hfz33_3 := blk_frozen BK396.out 3; have hfz33_4 := blk_frozen BK396.out 4; have hfz33_5 := blk_frozen BK396.out 5))
      go_ret
      exact ⟨by first | rfl | (simp [errW_none, errW_some] <;> rfl) | (simp [*, errW_none, errW_some] <;> rfl), by repeat (first | (with_reducible first | exact HB.out | apply below_alloc | apply pw_below_drewN | apply below_drew1 | refine below_set ?_ GE395.out | refine below_set ?_ GE396.out) | exact HB.out)⟩
  · rw [if_neg c3] at H
    have c3b0 : (a0_0.toList == a1_0.toList) = false := beq_eq_false_iff_ne.mpr c3
    have c3b1 : (a0_0.toList != a1_0.toList) = true := bne_iff_ne.mpr c3
    obtain rfl := Option.some.inj H
    go_enter Tryd.func45, Tryd.ntmps45
    go_wp2_with (first | ((with_reducible refine gate_dst (N := 2) rfl ?_); refine box_event ?hg (N := 2) ?hd (cs := #[.string a0_0, .int .i64 a0_1, .int .i64 a0_2, .int .i64 a0_3, .int .i64 a0_4, .slice A0_5 l0_5.length c0_5]) (t := 57) ?hr ?_; (case hd => rfl); (case hg => rfl); (case hr => first | (go_simp; done) | (go_simp; rfl)); intro gb395 hg w34 hbox hb; have n0_ := Aside0.mk (below_step (by repeat (first | (with_reducible first | exact HB.out | apply below_alloc | apply pw_below_drewN | apply below_drew1) | exact HB.out)) hb); have n1_ := Aside0.mk (hbox); have n2_ := Aside0.mk ((by rw [hg]; exact (below_size (by repeat (first | (with_reducible first | exact HB.out | apply below_alloc | apply pw_below_drewN | apply below_drew1) | exact HB.out))) : w.heap.size ≤ gb395)); have n3_ := Aside0.mk ((by rw [hg]; exact (below_size (by repeat (first | (with_reducible first | exact HB.out | apply below_alloc | apply pw_below_drewN | apply below_drew1) | exact HB.out))) : w.heap.size ≤ gb395)); clear HB; have HB := n0_; have BK395 := n1_; have GW395 := n2_; have GE395 := n3_; clear n0_ n1_ n2_ n3_; clear hb hbox hg) | ((with_reducible refine gate_dst (N := 3) rfl ?_); refine box_event ?hg (N := 3) ?hd (cs := #[.string a1_0, .int .i64 a1_1, .int .i64 a1_2, .int .i64 a1_3, .int .i64 a1_4, .slice A1_5 l1_5.length c1_5]) (t := 57) ?hr ?_; (case hd => rfl); (case hg => rfl); (case hr => first | (go_simp; done) | (go_simp; rfl)); intro gb396 hg w35 hbox hb; have n0_ := Aside0.mk (blk_below (g := gb395) (o := .cells #[.string a0_0, .int .i64 a0_1, .int .i64 a0_2, .int .i64 a0_3, .int .i64 a0_4, .slice A0_5 l0_5.length c0_5] 57 (0, 0)) (by (with_reducible repeat (first | refine blk_drewN ?_ _ | refine blk_drew ?_ | refine blk_alloc ?_ _)); exact BK395.out) hb); have n1_ := Aside0.mk (below_step (by repeat (first | (with_reducible first | exact HB.out | apply below_alloc | apply pw_below_drewN | apply below_drew1 | refine below_set ?_ GE395.out) | exact HB.out)) hb); have n2_ := Aside0.mk (hbox); have n3_ := Aside0.mk ((by rw [hg]; exact (below_size (by repeat (first | (with_reducible first | exact HB.out | apply below_alloc | apply pw_below_drewN | apply below_drew1 | refine below_set ?_ GE395.out) | exact HB.out))) : w.heap.size ≤ gb396)); have n4_ := Aside0.mk ((by rw [hg]; exact (below_size (by repeat (first | (with_reducible first | exact HB.out | apply below_alloc | apply pw_below_drewN | apply below_drew1 | refine below_set ?_ GE395.out) | exact HB.out))) : w.heap.size ≤ gb396)); have n5_ := Aside0.mk ((by rw [hg]; exact Nat.ne_of_lt (blk_lt (g := gb395) (o := .cells #[.string a0_0, .int .i64 a0_1, .int .i64 a0_2, .int .i64 a0_3, .int .i64 a0_4, .slice A0_5 l0_5.length c0_5] 57 (0, 0)) (by (with_reducible repeat (first | refine blk_drewN ?_ _ | refine blk_drew ?_ | refine blk_alloc ?_ _)); exact BK395.out)) : gb395 ≠ gb396)); have n6_ := Aside0.mk ((by rw [hg]; exact Nat.ne_of_gt (blk_lt (g := gb395) (o := .cells #[.string a0_0, .int .i64 a0_1, .int .i64 a0_2, .int .i64 a0_3, .int .i64 a0_4, .slice A0_5 l0_5.length c0_5] 57 (0, 0)) (by (with_reducible repeat (first | refine blk_drewN ?_ _ | refine blk_drew ?_ | refine blk_alloc ?_ _)); exact BK395.out)) : gb396 ≠ gb395)); clear BK395; clear HB; have BK395 := n0_; have HB := n1_; have BK396 := n2_; have GW396 := n3_; have GE396 := n4_; have NB395_396 := n5_; have NB396_395 := n6_; clear n0_ n1_ n2_ n3_ n4_ n5_ n6_; clear hb hbox hg; have hnb36 := NB395_396.out; have hnc36 := NB396_395.out; have hcz37_0 : w35.cell? ⟨gb395, 0, none⟩ = some (.string a0_0) := (blk_cell BK395.out 0).trans rfl; have hcz37_1 : w35.cell? ⟨gb395, 1, none⟩ = some (.int .i64 a0_1) := (blk_cell BK395.out 1).trans rfl; have hcz37_2 : w35.cell? ⟨gb395, 2, none⟩ = some (.int .i64 a0_2) := (blk_cell BK395.out 2).trans rfl; have hcz37_3 : w35.cell? ⟨gb395, 3, none⟩ = some (.int .i64 a0_3) := (blk_cell BK395.out 3).trans rfl; have hcz37_4 : w35.cell? ⟨gb395, 4, none⟩ = some (.int .i64 a0_4) := (blk_cell BK395.out 4).trans rfl; have hcz37_5 : w35.cell? ⟨gb395, 5, none⟩ = some (.slice A0_5 l0_5.length c0_5) := (blk_cell BK395.out 5).trans rfl; have hfz37_0 := blk_frozen BK395.out 0; have hfz37_1 := blk_frozen BK395.out 1; have hfz37_2 := blk_frozen BK395.out 2; have hfz37_3 := blk_frozen BK395.out 3; have hfz37_4 := blk_frozen BK395.out 4; have hfz37_5 := blk_frozen BK395.out 5; have hcz38_0 : w35.cell? ⟨gb396, 0, none⟩ = some (.string a1_0) := (blk_cell BK396.out 0).trans rfl; have hcz38_1 : w35.cell? ⟨gb396, 1, none⟩ = some (.int .i64 a1_1) := (blk_cell BK396.out 1).trans rfl; have hcz38_2 : w35.cell? ⟨gb396, 2, none⟩ = some (.int .i64 a1_2) := (blk_cell BK396.out 2).trans rfl; have hcz38_3 : w35.cell? ⟨gb396, 3, none⟩ = some (.int .i64 a1_3) := (blk_cell BK396.out 3).trans rfl; have hcz38_4 : w35.cell? ⟨gb396, 4, none⟩ = some (.int .i64 a1_4) := (blk_cell BK396.out 4).trans rfl; have hcz38_5 : w35.cell? ⟨gb396, 5, none⟩ = some (.slice A1_5 l1_5.length c1_5) := (blk_cell BK396.out 5).trans rfl; have hfz38_0 := blk_frozen BK396.out 0; have hfz38_1 := blk_frozen BK396.out 1; have hfz38_2 := blk_frozen BK396.out 2; have hfz38_3 := blk_frozen BK396.out 3; have hfz38_4 := blk_frozen BK396.out 4; have hfz38_5 := blk_frozen BK396.out 5))
    go_ret
    exact ⟨by first | rfl | (simp [errW_none, errW_some] <;> rfl) | (simp [*, errW_none, errW_some] <;> rfl), by repeat (first | (with_reducible first | exact HB.out | apply below_alloc | apply pw_below_drewN | apply below_drew1 | refine below_set ?_ GE395.out | refine below_set ?_ GE396.out) | exact HB.out)⟩
end Go.Proofs.YtjiokdkgbnakhaaDoor.K
end TKx20
section TKx21
namespace Go.Proofs.YtjiokdkgbnakhaaDoor.Own
end Go.Proofs.YtjiokdkgbnakhaaDoor.Own
namespace Go.Proofs.YtjiokdkgbnakhaaDoor.K
open Go.RowKit Go.Proofs.YtjiokdkgbnakhaaDoorW.PrintWords Go.Proofs.YtjiokdkgbnakhaaDoorW.PrintLast Go.Proofs.YtjiokdkgbnakhaaDoorW.PrintMore Go.Proofs.YtjiokdkgbnakhaaDoor.Own
attribute [local go_sem] max2_int min2_int max_two min_two max_three min_three max_four min_four
set_option linter.unusedVariables false
set_option linter.unusedSimpArgs false
end Go.Proofs.YtjiokdkgbnakhaaDoor.K
end TKx21
section TKx22
namespace Go.Proofs.YtjiokdkgbnakhaaDoor.Own
end Go.Proofs.YtjiokdkgbnakhaaDoor.Own
namespace Go.Proofs.YtjiokdkgbnakhaaDoor.K
open Go.RowKit Go.Proofs.YtjiokdkgbnakhaaDoorW.PrintWords Go.Proofs.YtjiokdkgbnakhaaDoorW.PrintLast Go.Proofs.YtjiokdkgbnakhaaDoorW.PrintMore Go.Proofs.YtjiokdkgbnakhaaDoor.Own
attribute [local go_sem] max2_int min2_int max_two min_two max_three min_three max_four min_four
set_option linter.unusedVariables false
set_option linter.unusedSimpArgs false
def stringslite_HasPrefix.f (a0 : ByteArray) (a1 : ByteArray) : Option (Bool) := if (a0.size : Int) ≥ (a1.size : Int) then (if 0 ≤ (a1.size : Int) then (if (a1.size : Int) ≤ (a0.size : Int) then (some ((a0.extract 0 ((a1.size : Int) : Int).toNat).toList == a1.toList)) else (none)) else (none)) else (some false)
set_option maxHeartbeats 8000000 in
set_option maxRecDepth 100000 in
theorem stringslite_HasPrefix.calls (a0 : ByteArray) (a1 : ByteArray) (r : Bool) (w : World) (h : stringslite_HasPrefix.f a0 a1 = some r) :
    Calls Tryd.prog 66 #[.string a0, .string a1] w fun e w' => e = .returned (.bool r) ∧ Drawn0 w w' := by
  have H : (if (a0.size : Int) ≥ (a1.size : Int) then (if 0 ≤ (a1.size : Int) then (if (a1.size : Int) ≤ (a0.size : Int) then (some ((a0.extract 0 ((a1.size : Int) : Int).toNat).toList == a1.toList)) else (none)) else (none)) else (some false)) = some r := h
  clear h
  by_cases c3 : (a0.size : Int) ≥ (a1.size : Int)
  · rw [if_pos c3] at H
    have c3b0 : decide ((a1.size : Int) ≤ (a0.size : Int)) = true := decide_eq_true c3
    have c3b1 : decide (a1.size ≤ a0.size) = true := decide_eq_true (Int.ofNat_le.mp c3)
    clear c3
    by_cases c4 : 0 ≤ (a1.size : Int)
    · rw [if_pos c4] at H
      have c4b0 := eq_true c4
      have c4b1 : decide (0 ≤ (a1.size : Int)) = true := decide_eq_true c4
      clear c4
      by_cases c5 : (a1.size : Int) ≤ (a0.size : Int)
      · rw [if_pos c5] at H
        have c5b0 := eq_true c5
        have c5b1 : decide ((a1.size : Int) ≤ (a0.size : Int)) = true := decide_eq_true c5
        clear c5
        obtain rfl := Option.some.inj H
        go_enter Tryd.func66, Tryd.ntmps66
        go_wp2
        go_ret
        exact ⟨by first | rfl | (simp; done) | (simp [*]; done), by repeat (first | exact Drawn0.refl _ | apply Drawn0.step)⟩
      · rw [if_neg c5] at H
        exact absurd H (by simp)
    · rw [if_neg c4] at H
      exact absurd H (by simp)
  · rw [if_neg c3] at H
    have c3b0 : decide ((a1.size : Int) ≤ (a0.size : Int)) = false := decide_eq_false c3
    have c3b1 : decide (a1.size ≤ a0.size) = false := decide_eq_false (fun h => c3 (Int.ofNat_le.mpr h))
    clear c3
    obtain rfl := Option.some.inj H
    go_enter Tryd.func66, Tryd.ntmps66
    go_wp2
    go_ret
    exact ⟨by first | rfl | (simp; done) | (simp [*]; done), by repeat (first | exact Drawn0.refl _ | apply Drawn0.step)⟩
def strings_HasPrefix.f (a0 : ByteArray) (a1 : ByteArray) : Option (Bool) := (stringslite_HasPrefix.f a0 a1).bind fun t410 => (some t410)
set_option maxHeartbeats 8000000 in
set_option maxRecDepth 100000 in
theorem strings_HasPrefix.calls (a0 : ByteArray) (a1 : ByteArray) (r : Bool) (w : World) (h : strings_HasPrefix.f a0 a1 = some r) :
    Calls Tryd.prog 50 #[.string a0, .string a1] w fun e w' => e = .returned (.bool r) ∧ Drawn0 w w' := by
  have H : ((stringslite_HasPrefix.f a0 a1).bind fun t410 => (some t410)) = some r := h
  clear h
  replace H := Option.bind_eq_some_iff.mp H
  obtain ⟨t410, A30, H⟩ := H
  replace H : (some t410) = some r := H
  have A3 := Aside0.mk A30
  clear A30
  obtain rfl := Option.some.inj H
  go_enter Tryd.func50, Tryd.ntmps50
  go_wp2_with (first | ((with_reducible refine gate_callee (f := 66) rfl ?_); refine goesL_ (some 7) rfl rfl Tryd.func66 (by kernel_rfl) rfl #[.string a0, .string a1] rfl (by (try simp only [List.map_toArray, List.map_cons, List.map_nil]); first | done | rfl | (simp only [List.length_drop, List.length_take]; rfl)) ?_; (with_reducible refine (stringslite_HasPrefix.calls a0 a1 t410 _ A3.out).mono ?_); rintro e w' ⟨rfl, ⟨nd, rfl⟩⟩; refine ⟨_, rfl, ?_⟩))
  go_ret
  exact ⟨by first | rfl | (simp; done) | (simp [*]; done), by repeat (first | exact Drawn0.refl _ | apply Drawn0.step)⟩
def arparse_Is.f (l0 : List Int) : Option (Bool) := (strings_HasPrefix.f (strOfNums l0) (⟨#[33, 60, 97, 114, 99, 104, 62, 10]⟩ : ByteArray)).bind fun t411 => (some t411)
set_option maxHeartbeats 8000000 in
set_option maxRecDepth 100000 in
theorem arparse_Is.calls (A0 : Option Addr) (c0 : Nat) (l0 : List Int) (r : Bool) (w : World) (hr0 : Kd.C (Kd.int .u8) w A0 l0.length l0) (hc0 : l0.length ≤ c0) (h : arparse_Is.f l0 = some r) :
    Calls Tryd.prog 29 #[.slice A0 l0.length c0] w fun e w' => e = .returned (.bool r) ∧ Drawn0 w w' := by
  have HR0 := Aside0.mk hr0
  have HC0 := Aside0.mk hc0
  clear hr0 hc0
  have H : ((strings_HasPrefix.f (strOfNums l0) (⟨#[33, 60, 97, 114, 99, 104, 62, 10]⟩ : ByteArray)).bind fun t411 => (some t411)) = some r := h
  clear h
  replace H := Option.bind_eq_some_iff.mp H
  obtain ⟨t411, A20, H⟩ := H
  replace H : (some t411) = some r := H
  have A2 := Aside0.mk A20
  clear A20
  obtain rfl := Option.some.inj H
  have hcv3 := Kd.C_string (P := Tryd.prog) (A := A0) (c := c0) Tryd.underlying22 Tryd.underlying5 Tryd.underlying9 HR0.out
  go_enter Tryd.func29, Tryd.ntmps29
  go_wp2_with (first | ((with_reducible refine gate_callee (f := 50) rfl ?_); refine goesL_ (some 5) rfl rfl Tryd.func50 (by kernel_rfl) rfl #[.string (strOfNums l0), .string (⟨#[33, 60, 97, 114, 99, 104, 62, 10]⟩ : ByteArray)] rfl (by (try simp only [List.map_toArray, List.map_cons, List.map_nil]); first | done | rfl | (simp only [List.length_drop, List.length_take]; rfl)) ?_; (with_reducible refine (strings_HasPrefix.calls (strOfNums l0) (⟨#[33, 60, 97, 114, 99, 104, 62, 10]⟩ : ByteArray) t411 _ A2.out).mono ?_); rintro e w' ⟨rfl, ⟨nd, rfl⟩⟩; refine ⟨_, rfl, ?_⟩))
  go_ret
  exact ⟨by first | rfl | (simp; done) | (simp [*]; done), by repeat (first | exact Drawn0.refl _ | apply Drawn0.step)⟩
end Go.Proofs.YtjiokdkgbnakhaaDoor.K
end TKx22
section TArcP
set_option linter.unusedVariables false
set_option linter.unusedSimpArgs false
namespace Go.Proofs.YtjiokdkgbnakhaaDoor.Own
open Go.RowKit Go.Proofs.YtjiokdkgbnakhaaDoor Go.Proofs.YtjiokdkgbnakhaaDoorW.PrintWords Go.Proofs.YtjiokdkgbnakhaaDoorW.PrintLast Go.Proofs.YtjiokdkgbnakhaaDoorW.PrintMore
def Small (n : Nat) (hm : Bool) (mp : List Int) (ms : List K.S57) (os : List Int) : Prop :=
  mp.length ≤ n ∧ ms.length ≤ n ∧ os.length ≤ n ∧ ∀ m ∈ ms, m.f5.length ≤ n
theorem addV_small {n a : Nat} {st : PSt} {r : PartR} (h : Small n st.hm st.map st.ms st.os) (hm : st.ms.length < n) (ho : st.os.length < n) (hr : r.data.length ≤ n) :
    Small n (addV st a r).1.hm (addV st a r).1.map (addV st a r).1.ms (addV st a r).1.os := by
  obtain ⟨h1, h2, h3, h4⟩ := h
  unfold addV
  split
  · split
    · exact ⟨h1, h2, h3, h4⟩
    · exact ⟨hr, h2, h3, h4⟩
  · split
    · split
      · exact ⟨h1, h2, h3, h4⟩
      · exact ⟨h1, h2, h3, h4⟩
    · split
      · exact ⟨h1, h2, h3, h4⟩
      · refine ⟨h1, by simp; omega, by simp; omega, fun m hm' => ?_⟩
        rcases List.mem_append.1 hm' with hm' | hm'
        · exact h4 m hm'
        · rw [List.mem_singleton.1 hm']
          exact hr
theorem fold_small (l : List Int) : ∀ k a st, a ≤ l.length → st.ms.length ≤ a → st.os.length ≤ a → Small l.length st.hm st.map st.ms st.os →
    Small l.length (foldP st (partsF k l a)).1 (foldP st (partsF k l a)).2.1 (foldP st (partsF k l a)).2.2.1 (foldP st (partsF k l a)).2.2.2.1
  | 0, a, st, ha, hm, ho, h => by simpa [partsF, foldP] using h
  | k + 1, a, st, ha, hm, ho, h => by
    have hb : ∀ x e, Small l.length (badR x e).1 (badR x e).2.1 (badR x e).2.2.1 (badR x e).2.2.2.1 := fun x e => ⟨Nat.zero_le _, Nat.zero_le _, Nat.zero_le _, fun m hm => by cases hm⟩
    by_cases hl : a < l.length
    · by_cases hw : (nextV (l.drop a)).why = 0
      · rw [partsF_more k l a hl hw]
        simp only [foldP]
        rw [if_neg (fun e => e hw)]
        by_cases hz : (addV st a (nextV (l.drop a))).2 = 0
        · rw [if_neg (fun e => e hz)]
          have hn := nextV_len hw
          rw [List.length_drop] at hn
          have h1 : (addV st a (nextV (l.drop a))).1.ms.length ≤ st.ms.length + 1 ∧ (addV st a (nextV (l.drop a))).1.os.length ≤ st.os.length + 1 := by
            unfold addV
            repeat' split
            all_goals simp
          exact fold_small l k _ _ (by omega) (by omega) (by omega) (addV_small h (by omega) (by omega) (by omega))
        · rw [if_pos hz]
          exact hb _ _
      · rw [partsF_last k l a hl hw]
        simp only [foldP]
        rw [if_pos hw]
        exact hb _ _
    · rw [partsF_end _ l a hl]
      exact h
theorem parseA_small (l : List Int) : Small l.length (parseA l).1 (parseA l).2.1 (parseA l).2.2.1 (parseA l).2.2.2.1 := by
  have hb : ∀ x e, Small l.length (badR x e).1 (badR x e).2.1 (badR x e).2.2.1 (badR x e).2.2.2.1 := fun x e => ⟨Nat.zero_le _, Nat.zero_le _, Nat.zero_le _, fun m hm => by cases hm⟩
  unfold parseA
  split
  · exact hb _ _
  · split
    · exact hb _ _
    · exact fold_small l _ 8 _ (by omega) (Nat.zero_le _) (Nat.zero_le _) ⟨Nat.zero_le _, Nat.zero_le _, Nat.zero_le _, fun m hm => by cases hm⟩
end Go.Proofs.YtjiokdkgbnakhaaDoor.Own
end TArcP
section TParts
set_option linter.unusedVariables false
set_option linter.unusedSimpArgs false
namespace Go.Proofs.YtjiokdkgbnakhaaDoor.Own
open Go.RowKit Go.Shelf Go.Proofs.YtjiokdkgbnakhaaDoor Go.Proofs.YtjiokdkgbnakhaaDoorW.PrintWords Go.Proofs.YtjiokdkgbnakhaaDoorW.PrintLast Go.Proofs.YtjiokdkgbnakhaaDoorW.PrintMore
attribute [local go_sem] Oper.semAt_some
def KpP (n₀ : Nat) (W W' : World) : Prop := Below n₀ W W' ∧ ∀ (i t : Nat) (cs : Array Value), t = 22 ∨ t = 86 → W.heap[i]? = some (.cells cs t (0, 0)) → W'.heap[i]? = some (.cells cs t (0, 0))
theorem KpP_t {n₀ : Nat} {A B C : World} (h : KpP n₀ A B) (k : KpP n₀ B C) : KpP n₀ A C := ⟨h.1.trans k.1, fun i t cs ht e => k.2 i t cs ht (h.2 i t cs ht e)⟩
theorem KpP_b {n₀ : Nat} {w : World} (hn : n₀ ≤ w.heap.size) (W : World) (l : Nat) (o o' : Obj) (hl : w.heap.size ≤ l) (h : W.heap[l]? = some o) (hc : o.isCells = false) (hw : o.isWalk = false) : KpP n₀ W (W.putObj l o') :=
  ⟨belowK_b hn W l o o' hl h hc hw, fun i t cs ht e => by
    have hne : i ≠ l := by
      rintro rfl
      rw [e] at h
      cases h
      cases hc
    rw [World.putObj_heap_other hne]
    exact e⟩
theorem KpP_refl (n₀ : Nat) (W : World) : KpP n₀ W W := ⟨Below.refl _ _, fun _ _ _ _ e => e⟩
theorem KpP_below {n₀ : Nat} {W W' : World} (hn : n₀ ≤ W.heap.size) (hb : Below W.heap.size W W') : KpP n₀ W W' :=
  ⟨hb.mono hn, fun i t cs _ e => (hb.block i (Array.getElem?_eq_some_iff.1 e).1).trans e⟩
abbrev PartY : Type := Nat × PartR × Value
def encP (x : PartY) : Array Value := #[.int .i64 (x.1 : Int), .agg #[.string x.2.1.1, .int .i64 x.2.1.2.1, .int .i64 x.2.1.2.2.1, .int .i64 x.2.1.2.2.2.1, .int .i64 x.2.1.2.2.2.2.1, .int .i64 x.2.1.2.2.2.2.2.1, x.2.2, .int .i64 x.2.1.2.2.2.2.2.2.2.1]]
def bareP (x : PartY) : Nat × PartR := (x.1, x.2.1)
set_option maxRecDepth 100000 in
set_option maxHeartbeats 4000000 in
theorem parts_in (A : Option Addr) (n c : Nat) (w : World) :
    Calls Tryd.prog 46 #[.slice A n c] w fun e w' => e = .returned (.func (.func 64) #[] #[.pointer (some ⟨w.heap.size, 0, none⟩)]) ∧ w' = w.alloc (.cells #[.slice A n c] 22) := by
  go_enter Tryd.func46, Tryd.ntmps46
  go_wp2
  go_ret
  exact ⟨rfl, rfl⟩
set_option maxRecDepth 100000 in
set_option maxHeartbeats 4000000 in
theorem parts1_in (l Bs n₀ : Nat) (A : Option Addr) (c : Nat) (xs : List Int) (hlen : xs.length ≤ c) (hx4 : xs.length < 140737488355328) (hby : Byt xs) (J Jx : List PartY → World → Prop)
    (hY : ∀ pre x W0 W, J pre W0 → Below W0.heap.size W0 W → n₀ ≤ W0.heap.size → (Kd.int .u8).R 5 W W0.heap.size (fun _ => True) x.2.2 x.2.1.data → (pre ++ [x]).map bareP <+: partsOf xs → YieldAt Fence.wide 2 Tryd.prog l (encP x) W fun e W' =>
      (e = .returned (.bool true) ∧ J (pre ++ [x]) W' ∧ KpP n₀ W W') ∨ (e = .returned (.bool false) ∧ Jx (pre ++ [x]) W'))
    (W : World) (hn₀ : n₀ ≤ W.heap.size) (hBs : W.heap[Bs]? = some (.cells #[.slice A xs.length c] 22 (0, 0)))
    (hC : ∀ W', Below n₀ W W' → (Kd.int .u8).C W' A xs.length xs) (h0 : J [] W) :
    CallsIn Fence.wide 3 Tryd.prog 64 #[.func (.yield l) #[] #[], .pointer (some ⟨Bs, 0, none⟩)] W fun e W' => (∃ v, e = .returned v) ∧
      ((∃ ys, ys.map bareP = partsOf xs ∧ J ys W') ∨ (∃ pre, pre.map bareP <+: partsOf xs ∧ Jx pre W')) := by
  obtain ⟨i0, hi, hz0, hz1, hz2⟩ := info_parts K.info5
  have HY := Lib.hid hY
  have HC := Lib.hid hC
  have HBY := Lib.hid hby
  clear hY hC hby
  refine callsIn_of_wp Tryd.func64 rfl trivial ?_ rfl
  simp only [Tryd.ntmps64, List.size_toArray, List.length_cons, List.length_nil, Nat.reduceAdd, Nat.reduceSub, Array.replicate_succ, Array.replicate_zero, List.push_toArray, List.append_toArray, List.nil_append, List.cons_append]
  gi_wp2
  gi_loopw [3] (fun i wr => ∃ (pre : List PartY) (k a : Nat), i = .int .i64 (a : Int) ∧ Hid (partsOf xs = pre.map bareP ++ partsF k xs a) ∧ xs.length < a + k ∧ (a ≤ xs.length ∨ a = 8) ∧ J pre wr ∧ KpP n₀ W wr ∧ n₀ ≤ wr.heap.size)
    (fun i _ => xs.length - (intOf i).toNat)
  case atStart => exact ⟨[], xs.length + 1, 8, rfl, rfl, by omega, .inr rfl, h0, KpP_refl _ _, hn₀⟩
  case round =>
    obtain ⟨pre, k, a, rfl, HL, hk, hak, hJs, hKp, hnr⟩ := hrel
    have hbx := hKp.2 _ _ _ (.inl rfl) hBs
    have hcell : wr.cell? ⟨Bs, 0, none⟩ = some (.slice A xs.length c) := cell_of_row wr Bs 0 _ _ _ hbx
    by_cases hlt : a < xs.length
    · obtain ⟨k, rfl⟩ : ∃ m, k = m + 1 := ⟨k - 1, by omega⟩
      obtain ⟨A', hcut, hA'⟩ := print_cut 22 5 .i64 Tryd.underlying22 hi hz1 A xs.length c a (by omega)
      have hR := hA' wr .u8 xs hlen (Kd.reads_of_C (enc := Value.int .u8) (d := (0 : Int)) (h1 := fun _ => rfl) (HC.out wr hKp.1))
      obtain ⟨ad, rfl, hrd⟩ := hR.2.2 (by omega)
      clear hA' hrd
      obtain ⟨r, hr⟩ : ∃ r, nextV (xs.drop a) = r := ⟨_, rfl⟩
      have hnx := next_f (xs.drop a) (HBY.out.drop a) (by rw [List.length_drop]; omega)
      rw [hr] at hnx
      obtain ⟨r1, r2, r3, r4, r5, r6, r7, r8, r9⟩ := r
      have hcall := K.arparse_next.calls (some ad) (c - a) (xs.drop a) r1 r2 r3 r4 r5 r6 r7 r8 r9 wr (Kd.C_of_reads (enc := Value.int .u8) (d := (0 : Int)) (h1 := fun _ => rfl) (by rw [List.length_drop]; exact hR)) (by rw [List.length_drop]; omega) hnx
      rw [List.length_drop] at hcall
      have HN := Lib.hid hcall
      have HP := Lib.hid hKp
      have HX := Lib.hid hbx
      have HJ := Lib.hid hJs
      have HR9 := Lib.hid hr
      clear hcall hKp hbx hJs hR hnx hr
      have hpre : ∀ v : Value, (pre ++ [(a, (r1, r2, r3, r4, r5, r6, r7, r8, r9), v)]).map bareP <+: partsOf xs := by
        intro v
        obtain ⟨t, ht⟩ := partsF_head k xs a hlt
        rw [HR9.out] at ht
        rw [HL.out, ht, List.map_append]
        exact ⟨t, by simp [bareP]⟩
      have HPR := Lib.hid hpre
      clear hpre
      gi_wp2_with (refine ⟨trivial, ?_⟩; gi_at_call 65; refine (callsIn_wide.2 HN.out).mono ?_; rintro e w2 ⟨v6, rfl, hv, hb⟩; obtain ⟨A7, c7, rfl⟩ := Kd.R_slice hv; have HV := Lib.hid hv; have HB := Lib.hid hb; clear hv hb; have hcell2 : w2.cell? ⟨Bs, 0, none⟩ = some (.slice A xs.length c) := pw_cell_below HB.out hcell; obtain ⟨fn, tmps, assign, body, hy, hR⟩ := HY.out pre (a, (r1, r2, r3, r4, r5, r6, r7, r8, r9), .slice A7 r7.length c7) wr (w2.alloc (.cells #[.string r1, .int .i64 r2, .int .i64 r3, .int .i64 r4, .int .i64 r5, .int .i64 r6, .slice A7 r7.length c7, .int .i64 r8] 86)) HJ.out (below_alloc HB.out _) hnr (Kd.R_alloc HV.out _) (HPR.out _); simp only [encP] at hy; have HRd := Lib.hid hR; clear hR)
      refine HRd.out.mono ?_
      rintro e W3 (⟨rfl, hJ3, hk3⟩ | ⟨rfl, hJx3⟩)
      · have hKW : KpP n₀ wr W3 := KpP_t (KpP_below hnr (below_alloc HB.out _)) hk3
        have hc3 : W3.cell? ⟨w2.heap.size, 7, none⟩ = some (.int .i64 r8) := by
          have := hk3.2 _ _ _ (.inr rfl) (World.alloc_heap_new w2 (.cells #[.string r1, .int .i64 r2, .int .i64 r3, .int .i64 r4, .int .i64 r5, .int .i64 r6, .slice A7 r7.length c7, .int .i64 r8] 86))
          exact cell_of_row W3 w2.heap.size 7 _ _ _ this
        have HK3 := Lib.hid hKW
        have HJ3 := Lib.hid hJ3
        clear hk3 hJ3 hKW hcell2 hy HRd HY
        by_cases hz : r8 = 0
        · subst hz
          obtain ⟨hl1, hl2, _, _⟩ := nextV_len (l := xs.drop a) (by rw [HR9.out]; rfl)
          rw [HR9.out, List.length_drop] at hl2
          rw [HR9.out] at hl1
          simp only [PartR.len] at hl1 hl2
          obtain ⟨n, rfl⟩ := Int.eq_ofNat_of_zero_le (a := r9) (by omega)
          have hall := partsF_more k xs a hlt (by rw [HR9.out]; rfl)
          rw [HR9.out] at hall
          simp only [PartR.len, Int.toNat_natCast] at hall
          have HA := Lib.hid hall
          clear hall
          gi_wp2
          go_roundw
          case rel => exact ⟨pre ++ [(a, (r1, r2, r3, r4, r5, r6, r7, 0, (n : Int)), .slice A7 r7.length c7)], k, a + n, by go_num, by rw [HL.out, HA.out, List.map_append, List.append_assoc]; rfl, by omega, by omega, HJ3.out, KpP_t HP.out HK3.out, Nat.le_trans hnr HK3.out.1.size⟩
          case measure => simp [intOf]; omega
        · have hall := partsF_last k xs a hlt (by rw [HR9.out]; exact hz)
          rw [HR9.out] at hall
          have HA := Lib.hid hall
          have hzb : (r8 == 0) = false := by simpa using hz
          have hzn : (r8 != 0) = true := by simpa using hz
          clear hall hz
          gi_wp2
          refine bodyPost_ret (results_none rfl _ _ _) rfl ?_
          exact ⟨⟨_, rfl⟩, .inl ⟨_, by rw [HL.out, HA.out, List.map_append]; rfl, HJ3.out⟩⟩
      · gi_wp2
        refine bodyPost_ret (results_none rfl _ _ _) rfl ?_
        exact ⟨⟨_, rfl⟩, .inr ⟨_, HPR.out _, hJx3⟩⟩
    · gi_wp2
      go_end0
      exact ⟨⟨_, rfl⟩, .inl ⟨pre, by rw [HL.out, partsF_end k xs _ (by omega), List.append_nil], hJs⟩⟩
end Go.Proofs.YtjiokdkgbnakhaaDoor.Own
end TParts
section TAdd
set_option linter.unusedVariables false
set_option linter.unusedSimpArgs false
namespace Go.Proofs.YtjiokdkgbnakhaaDoor.Own
open Go.RowKit Go.Proofs.YtjiokdkgbnakhaaDoor Go.Proofs.YtjiokdkgbnakhaaDoorW.PrintWords Go.Proofs.YtjiokdkgbnakhaaDoorW.PrintLast Go.Proofs.YtjiokdkgbnakhaaDoorW.PrintMore
def cellsP (r : PartR) (v : Value) : Array Value := #[.string r.1, .int .i64 r.2.1, .int .i64 r.2.2.1, .int .i64 r.2.2.2.1, .int .i64 r.2.2.2.2.1, .int .i64 r.2.2.2.2.2.1, v, .int .i64 r.2.2.2.2.2.2.2.1]
def argP (r : PartR) (v : Value) : Value := .agg (cellsP r v)
theorem first_false {st : PSt} (h : st.first = false) : ((st.ms.length : Int) == 0) = false ∨ (((st.ms.length : Int) == 0) = true ∧ st.ht = true) := by
  unfold PSt.first at h
  cases ht : st.ht with
  | true =>
    cases hl : ((st.ms.length : Int) == 0) with
    | true => exact .inr ⟨rfl, rfl⟩
    | false => exact .inl rfl
  | false =>
    rw [ht] at h
    simp only [Bool.not_false, Bool.and_true, decide_eq_false_iff_not] at h
    exact .inl (beq_eq_false_iff_ne.2 (by omega))
theorem first_true {st : PSt} (h : st.first = true) : ((st.ms.length : Int) == 0) = true ∧ st.ht = false := by
  unfold PSt.first at h
  simp only [Bool.and_eq_true, decide_eq_true_eq, Bool.not_eq_true'] at h
  exact ⟨beq_iff_eq.2 (by omega), h.2⟩
set_option maxRecDepth 100000 in
set_option maxHeartbeats 4000000 in
theorem add_map_bad (B X : Nat) (ok : Nat → Prop) (W : World) (st : PSt) (at_ : Int) (r : PartR) (Ad : Option Addr) (cd : Nat) (hP : PInv B X ok W st) (hm : isMap r.1 = true) (hb : st.first = false ∨ st.hm = true) :
    Calls Tryd.prog 47 #[.pointer (some ⟨X, 0, none⟩), .int .i64 at_, argP r (.slice Ad r.data.length cd)] W fun e W' => e = .returned (.int .i64 8) ∧ Below W.heap.size W W' := by
  obtain ⟨A1, A2, A3, A4, c1, c2, c3, c4, h0, h1, h2, h3, h4, h5, hf, hX⟩ := hP.cells
  obtain ⟨r1, r2, r3, r4, r5, r6, r7, r8, r9⟩ := r
  simp only [PartR.data, argP, cellsP] at *
  have q : (r1.toList == [47]) = true := hm
  clear hm hP hf
  rcases hb with hb | hb
  · rcases first_false hb with hl | ⟨hl, ht⟩
    · clear hb
      go_enter Tryd.func47, Tryd.ntmps47
      go_wp2
      go_ret
      exact ⟨rfl, below_alloc (Below.refl _ _) _⟩
    · rw [ht] at h5
      clear hb ht
      go_enter Tryd.func47, Tryd.ntmps47
      go_wp2
      go_ret
      exact ⟨rfl, below_alloc (Below.refl _ _) _⟩
  · rw [hb] at h0
    cases hl : ((st.ms.length : Int) == 0) with
    | false =>
      clear hb
      go_enter Tryd.func47, Tryd.ntmps47
      go_wp2
      go_ret
      exact ⟨rfl, below_alloc (Below.refl _ _) _⟩
    | true =>
      clear hb
      generalize st.ht = t at *
      cases t
      all_goals
        go_enter Tryd.func47, Tryd.ntmps47
        go_wp2
        go_ret
        exact ⟨rfl, below_alloc (Below.refl _ _) _⟩
set_option maxRecDepth 100000 in
set_option maxHeartbeats 4000000 in
theorem add_map_good (B X : Nat) (ok : Nat → Prop) (W : World) (st : PSt) (at_ : Int) (r : PartR) (Ad : Option Addr) (cd : Nat) (hP : PInv B X ok W st) (hm : isMap r.1 = true) (hb : st.first = true) (hh : st.hm = false) :
    Calls Tryd.prog 47 #[.pointer (some ⟨X, 0, none⟩), .int .i64 at_, argP r (.slice Ad r.data.length cd)] W fun e W' => e = .returned (.int .i64 0) ∧
      W' = (((W.setCell ⟨X, 0, none⟩ (.bool true)).setCell ⟨X, 1, none⟩ (.slice Ad r.data.length cd)).alloc (.cells (cellsP r (.slice Ad r.data.length cd)) 86)).drew := by
  obtain ⟨A1, A2, A3, A4, c1, c2, c3, c4, h0, h1, h2, h3, h4, h5, hf, hX⟩ := hP.cells
  obtain ⟨hl, ht⟩ := first_true hb
  have f0 := hf 0
  have f1 := hf 1
  obtain ⟨r1, r2, r3, r4, r5, r6, r7, r8, r9⟩ := r
  simp only [PartR.data, argP, cellsP] at *
  have q : (r1.toList == [47]) = true := hm
  rw [hh] at h0
  rw [ht] at h5
  clear hm hP hf hb ht hh
  go_enter Tryd.func47, Tryd.ntmps47
  go_wp2
  go_region
  all_goals
    go_wp2
    go_ret
    exact ⟨rfl, rfl⟩
theorem entries_calls (Ad : Option Addr) (cd : Nat) (d : List Int) (W : World) (hr : (Kd.int .u8).C W Ad d.length d) (hc : d.length ≤ cd) (hG : Gmaxlen W) (hby : Byt d) (hl : d.length < 4294967281) :
    Calls Tryd.prog 13 #[.slice Ad d.length cd] W fun e w' => ∃ A c, e = .returned (.tuple #[.slice A (entriesV d).1.length c, .int .i64 (entriesV d).2]) ∧ Below W.heap.size W w' := by
  refine (longname_Entries.calls Ad cd d (entriesV d).1 (entriesV d).2 W hr hc hG ?_).mono ?_
  · unfold longname_Entries.f
    rw [if_pos ⟨hby.to, hl⟩]
  · rintro e w' ⟨v, rfl, hv, hb⟩
    obtain ⟨A, c, rfl⟩ := Kd.R_slice hv
    exact ⟨A, c, rfl, hb⟩
def TableSays (W : World) (X : Nat) (E2 : Int) (fst : Bool) (v : Value) (e : Ending) (W' : World) : Prop :=
  ((E2 ≠ 0 ∨ fst = false) ∧ e = .returned (.int .i64 7) ∧ Below W.heap.size W W') ∨
  ((E2 = 0 ∧ fst = true) ∧ e = .returned (.int .i64 0) ∧ ∃ w2, Below W.heap.size W w2 ∧ W' = ((w2.setCell ⟨X, 5, none⟩ (.bool true)).setCell ⟨X, 4, none⟩ v).drew)
set_option maxRecDepth 100000 in
set_option maxHeartbeats 4000000 in
theorem add_table (B X : Nat) (ok : Nat → Prop) (W : World) (st : PSt) (at_ : Int) (r : PartR) (Ad : Option Addr) (cd : Nat) (hP : PInv B X ok W st) (hm : isMap r.1 = false) (ht' : isTable r.1 = true)
    (hr : (Kd.int .u8).C W Ad r.data.length r.data) (hc : r.data.length ≤ cd) (hG : Gmaxlen W) (hby : Byt r.data) (hlt : r.data.length < 4294967281) :
    Calls Tryd.prog 47 #[.pointer (some ⟨X, 0, none⟩), .int .i64 at_, argP r (.slice Ad r.data.length cd)] W (TableSays W X (entriesV r.data).2 st.first (.slice Ad r.data.length cd)) := by
  obtain ⟨A1, A2, A3, A4, c1, c2, c3, c4, h0, h1, h2, h3, h4, h5, hf, hX⟩ := hP.cells
  have HE := Lib.hid (entries_calls Ad cd r.data (W.alloc (.cells (cellsP r (.slice Ad r.data.length cd)) 86)) (Kd.C_alloc hr _) hc (hG.below (below_alloc (Below.refl _ _) _)) hby hlt)
  obtain ⟨r1, r2, r3, r4, r5, r6, r7, r8, r9⟩ := r
  simp only [PartR.data, argP, cellsP] at *
  have q : (r1.toList == [47]) = false := hm
  have q2 : (r1.toList == [47, 47]) = true := ht'
  have HP := Lib.hid hP
  clear hm ht' hP hr hc hG hby hlt hf
  generalize hev : entriesV r7 = E at *
  clear hev
  obtain ⟨E1, E2⟩ := E
  simp only at HE ⊢
  by_cases hz : E2 = 0
  · subst hz
    cases hfst : st.first with
    | false =>
      rcases first_false hfst with hl | ⟨hl, ht⟩
      · clear hfst
        go_enter Tryd.func47, Tryd.ntmps47
        go_wp2_with (go_at_call 13; refine HE.out.mono ?_; rintro e w2 ⟨A, c, rfl, hb⟩; have HB := Lib.hid hb; clear hb)
        go_ret
        exact .inl ⟨.inr rfl, rfl, below_step (below_alloc (Below.refl _ _) _) HB.out⟩
      · rw [ht] at h5
        clear hfst ht
        go_enter Tryd.func47, Tryd.ntmps47
        go_wp2_with (go_at_call 13; refine HE.out.mono ?_; rintro e w2 ⟨A, c, rfl, hb⟩; have HB := Lib.hid hb; clear hb)
        go_ret
        exact .inl ⟨.inr rfl, rfl, below_step (below_alloc (Below.refl _ _) _) HB.out⟩
    | true =>
      obtain ⟨hl, ht⟩ := first_true hfst
      rw [ht] at h5
      clear hfst ht
      go_enter Tryd.func47, Tryd.ntmps47
      go_wp2_with (go_at_call 13; refine HE.out.mono ?_; rintro e w2 ⟨A, c, rfl, hb⟩; have HB := Lib.hid hb; have k5 := pw_cell_below (below_step (below_alloc (Below.refl _ _) _) hb) h5; have k4 := pw_cell_below (below_step (below_alloc (Below.refl _ _) _) hb) h4; have f5 := (HP.out.go (below_step (below_alloc (Below.refl _ _) _) hb)).frozen 5; have f4 := (HP.out.go (below_step (below_alloc (Below.refl _ _) _) hb)).frozen 4; have p6 := cell_of_row w2 W.heap.size 6 _ _ _ ((hb.block _ (by simp)).trans (World.alloc_heap_new _ _)); simp at p6; clear hb h0 h1 h2 h3 h4 h5)
      go_region
      all_goals
        go_wp2
        go_ret
        exact .inr ⟨⟨rfl, rfl⟩, rfl, w2, below_step (below_alloc (Below.refl _ _) _) HB.out, rfl⟩
  · have hzb : (E2 == 0) = false := by simpa using hz
    have hzn : (E2 != 0) = true := by simpa using hz
    have HZ := Lib.hid hz
    clear hz
    cases hfst : st.first with
    | false =>
      rcases first_false hfst with hl | ⟨hl, ht⟩
      · clear hfst
        go_enter Tryd.func47, Tryd.ntmps47
        go_wp2_with (go_at_call 13; refine HE.out.mono ?_; rintro e w2 ⟨A, c, rfl, hb⟩; have HB := Lib.hid hb; clear hb)
        go_ret
        exact .inl ⟨.inr rfl, rfl, below_step (below_alloc (Below.refl _ _) _) HB.out⟩
      · rw [ht] at h5
        clear hfst ht
        go_enter Tryd.func47, Tryd.ntmps47
        go_wp2_with (go_at_call 13; refine HE.out.mono ?_; rintro e w2 ⟨A, c, rfl, hb⟩; have HB := Lib.hid hb; clear hb)
        go_ret
        exact .inl ⟨.inr rfl, rfl, below_step (below_alloc (Below.refl _ _) _) HB.out⟩
    | true =>
      obtain ⟨hl, ht⟩ := first_true hfst
      rw [ht] at h5
      clear hfst ht
      go_enter Tryd.func47, Tryd.ntmps47
      go_wp2_with (go_at_call 13; refine HE.out.mono ?_; rintro e w2 ⟨A, c, rfl, hb⟩; have HB := Lib.hid hb; clear hb)
      go_ret
      exact .inl ⟨.inl HZ.out, rfl, below_step (below_alloc (Below.refl _ _) _) HB.out⟩
end Go.Proofs.YtjiokdkgbnakhaaDoor.Own
end TAdd
