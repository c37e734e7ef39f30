/- LongnameTables, in plain terms: it tells true for every row of bytes. -/
import Derived.Test.YtjiokdkgbnakhaaDoorTab
import Derived.Test.YtjiokdkgbnakhaaDoorKx2
set_option linter.unusedVariables false
set_option linter.unusedSimpArgs false
namespace Go.Proofs.YtjiokdkgbnakhaaDoor.Own
open Go.RowKit Go.Proofs.YtjiokdkgbnakhaaDoor Go.Proofs.YtjiokdkgbnakhaaDoorW.PrintWords Go.Proofs.YtjiokdkgbnakhaaDoorW.PrintLast Go.Proofs.YtjiokdkgbnakhaaDoorW.PrintMore

theorem entries_f {l : List Int} (hb : Byt l) (h : l.length < 4294967281) : longname_Entries.f l = some (entriesV l) := by
  unfold longname_Entries.f
  rw [if_pos ⟨hb.to, h⟩]
theorem entries_f2 {l : List Int} : (entriesV l).2 = 0 ∨ entriesV l = ([], 7) := by
  by_cases h : (entriesV l).2 = 0
  · exact .inl h
  · exact .inr (entries_bad h)
theorem names_short {l : List Int} : ∀ {ns : List ByteArray}, tableV ns = l → ns.length ≤ l.length
  | [], _ => Nat.zero_le _
  | s :: ns, h => by
    subst h
    have := names_short (ns := ns) rfl
    rw [tableV_cons]
    simp only [List.length_append, List.length_cons, List.length_nil]
    omega
theorem tables_true (l : List Int) (hb : Byt l) : ∃ k, K.arlinklaw03_LongnameTables.f k l = some true := by
  apply Ev.rounds
  by_cases hl : l.length ≤ 1000
  · rcases entries_f2 (l := l) with he | he
    · obtain ⟨h1, h2⟩ := entries_ok hb he
      obtain ⟨ns, hns⟩ : ∃ ns, (entriesV l).1 = ns := ⟨_, rfl⟩
      rw [hns] at h1 h2
      have hev : entriesV l = (ns, 0) := by rw [← hns, ← he]
      have hnl := names_short h1
      have ht := table_ev ns (by omega) (by rw [h1]; omega)
      have hs := same_ev (tableV ns) l (by rw [h1]; omega)
      rw [h1, decide_eq_true rfl] at hs
      refine Ev.step (f := fun k => (K.arlinkref03_Table.f k ns).bind fun t119 => ((K.arlinkref01_Same.f k t119 l).bind fun t122 => (if t122 = true then (if l.length = 0 then some ((ns.length : Int) == 0) else (longname_Entries.f (l.take (l.length - 1))).bind fun bt => some (bt.2 == 7)) else none))) (fun k => ?_) ?_
      · unfold K.arlinklaw03_LongnameTables.f
        rw [show arlinklaw03_awake.f = some true from rfl, Option.bind_some, if_pos rfl, decide_eq_false (by omega), K.arlinklaw03_LongnameTables.j0, if_neg Bool.false_ne_true, entries_f hb (by omega), hev]
        simp only [Option.bind_some, if_pos]
        have hk : ∀ k, K.arlinkref03_Table.f k ns = none ∨ K.arlinkref03_Table.f k ns = some l := fun k => by
          cases e : K.arlinkref03_Table.f k ns with
          | none => exact .inl rfl
          | some x =>
            obtain ⟨K0, hK⟩ := ht
            have e2 := at_rounds (K.arlinkref03_Table.mono ns) (show k ≤ max k K0 by omega) e
            have e3 : K.arlinkref03_Table.f (max k K0) ns = some (tableV ns) := hK _ (by omega)
            rw [e3, h1] at e2
            cases e2
            exact .inr rfl
        have hq : ∀ k, K.arlinkref01_Same.f k l l = none ∨ K.arlinkref01_Same.f k l l = some true := fun k => by
          cases e : K.arlinkref01_Same.f k l l with
          | none => exact .inl rfl
          | some x =>
            obtain ⟨K0, hK⟩ := hs
            have e2 := at_rounds (K.arlinkref01_Same.mono l l) (show k ≤ max k K0 by omega) e
            have e3 : K.arlinkref01_Same.f (max k K0) l l = some true := hK _ (by omega)
            rw [e3] at e2
            cases e2
            exact .inr rfl
        rcases hk k with e | e
        · rw [e]; rfl
        · rw [e]
          simp only [Option.bind_some]
          rcases hq k with e | e
          · rw [e]; rfl
          · rw [e]
            simp only [Option.bind_some, if_true]
            by_cases h0 : l.length = 0
            · rw [if_pos (by omega), if_pos h0]
            · have hw : wrap64 ((l.length : Int) - 1) = ((l.length - 1 : Nat) : Int) := by unfold wrap64; omega
              rw [if_neg (by omega), if_neg h0, hw, if_pos (by omega), if_pos (by omega), Int.toNat_natCast]
      · refine Ev.bind ht ?_
        rw [h1]
        refine Ev.bind hs ?_
        rw [if_pos rfl]
        by_cases h0 : l.length = 0
        · rw [if_pos h0]
          have : ns.length = 0 := by omega
          rw [this]
          exact Ev.now _
        · rw [if_neg h0, entries_f (hb.take _) (by rw [List.length_take]; omega)]
          have hne : ns ≠ [] := by
            rintro rfl
            rw [tableV_nil] at h1
            rw [← h1] at h0
            exact h0 rfl
          have hlast : ∃ r, l = r ++ [10] := by
            have : ∀ ns : List ByteArray, ns ≠ [] → ∃ r, tableV ns = r ++ [10] := by
              intro ns
              induction ns with
              | nil => intro h; exact absurd rfl h
              | cons s t ih =>
                intro _
                rw [tableV_cons]
                by_cases ht : t = []
                · subst ht; exact ⟨bytesOf s ++ [47], by simp [tableV_nil]⟩
                · obtain ⟨r, hr⟩ := ih ht
                  exact ⟨bytesOf s ++ [47, 10] ++ r, by rw [hr]; simp⟩
            rw [← h1]
            exact this ns hne
          obtain ⟨r, hr⟩ := hlast
          have htk : l.take (l.length - 1) = r := by rw [hr]; simp
          have hbr : Byt r := by rw [← htk]; exact hb.take _
          rw [htk, entries_cut hne hbr h2 (by rw [h1, ← hr])]
          exact Ev.now _
    · refine Ev.step (f := fun _ => some true) (fun k => ?_) (Ev.now _)
      unfold K.arlinklaw03_LongnameTables.f
      rw [show arlinklaw03_awake.f = some true from rfl, Option.bind_some, if_pos rfl, decide_eq_false (by omega), K.arlinklaw03_LongnameTables.j0, if_neg Bool.false_ne_true, entries_f hb (by omega), he]
      rfl
  · refine Ev.step (f := fun _ => some true) (fun k => ?_) (Ev.now _)
    unfold K.arlinklaw03_LongnameTables.f
    rw [show arlinklaw03_awake.f = some true from rfl, Option.bind_some, if_pos rfl, decide_eq_true (by omega), K.arlinklaw03_LongnameTables.j0, if_pos rfl]
    rfl

end Go.Proofs.YtjiokdkgbnakhaaDoor.Own
