/- LongnameConcat, in plain terms: it tells true for every input. -/
import Derived.Test.YtjiokdkgbnakhaaDoorBuild
import Derived.Test.YtjiokdkgbnakhaaDoorKx11
set_option linter.unusedVariables false
set_option linter.unusedSimpArgs false
namespace Go.Proofs.YtjiokdkgbnakhaaDoor.Own
open Go.RowKit Go.Proofs.YtjiokdkgbnakhaaDoor Go.Proofs.YtjiokdkgbnakhaaDoorW.PrintWords Go.Proofs.YtjiokdkgbnakhaaDoorW.PrintLast Go.Proofs.YtjiokdkgbnakhaaDoorW.PrintMore

/-! ### LongnameConcat -/
theorem concat_true (a b : List ByteArray) : ∃ k, K.arlinklaw03_LongnameConcat.f k a b = some true := by
  apply Ev.rounds
  refine Ev.congr (f := fun k => (K.arlinkref03_Few.f k a).bind fun t245 => (if t245 = true then ((K.arlinkref03_Few.f k b).bind fun t246 => (K.arlinklaw03_LongnameConcat.j0 k a b (!t246))) else (K.arlinklaw03_LongnameConcat.j0 k a b true))) (fun k => rfl) ?_
  refine Ev.bind (few_ev a) ?_
  have hother : Ev (fun k => K.arlinklaw03_LongnameConcat.j0 k a b true) true := by
    refine Ev.step (f := fun _ => some true) (fun k => ?_) (Ev.now _)
    rw [K.arlinklaw03_LongnameConcat.j0, if_pos rfl]
    rfl
  by_cases hfa : fewV a = true
  · simp only [if_pos hfa]
    refine Ev.bind (few_ev b) ?_
    by_cases hfb : fewV b = true
    · obtain ⟨hna, hsa⟩ := fewV_iff hfa
      obtain ⟨hnb, hsb⟩ := fewV_iff hfb
      have hsab : ∀ s ∈ a ++ b, s.size ≤ 300 := fun s h => (List.mem_append.1 h).elim (hsa s) (hsb s)
      have hnab : (a ++ b).length ≤ 1000 := by rw [List.length_append]; omega
      obtain ⟨hb1, hb2⟩ := buildV_small a (by omega) hsa
      obtain ⟨hb3, hb4⟩ := buildV_small b (by omega) hsb
      obtain ⟨hb5, hb6⟩ := buildV_small (a ++ b) hnab hsab
      simp only [hfb, Bool.not_true]
      refine Ev.step (f := fun k => (K.longname_Build.f k a).bind fun bt248 => (K.longname_Build.f k b).bind fun bt255 => (K.longname_Build.f k (a ++ b)).bind fun bt271 => (if bt248.2.2 = 0 then (K.arlinklaw03_LongnameConcat.j1 k bt248.1 bt248.2.1 bt255.1 bt255.2.1 bt271.1 bt271.2.1 bt271.2.2 (bt255.2.2 != 0)) else (K.arlinklaw03_LongnameConcat.j1 k bt248.1 bt248.2.1 bt255.1 bt255.2.1 bt271.1 bt271.2.1 bt271.2.2 true))) (fun k => ?_) ?_
      · rw [K.arlinklaw03_LongnameConcat.j0, if_neg Bool.false_ne_true]
        simp only [Option.bind_some, List.nil_append, List.length_nil, if_pos (show 0 + a.length < 8796093022208 by omega), if_pos (show a.length + b.length < 8796093022208 by omega)]
      · refine Ev.bind (build_ev a (by omega) hsa) ?_
        refine Ev.bind (build_ev b (by omega) hsb) ?_
        refine Ev.bind (build_ev (a ++ b) hnab hsab) ?_
        have hbad : (a ++ b).all validB = false → ∀ x5 x6 x8 x9 x11 x12, Ev (fun k => K.arlinklaw03_LongnameConcat.j1 k x5 x6 x8 x9 x11 x12 (buildV (a ++ b)).2.2 true) true := fun h x5 x6 x8 x9 x11 x12 => by
          have e : buildV (a ++ b) = ([], [], 6) := by unfold buildV; rw [h]; rfl
          rw [e]
          refine Ev.step (f := fun _ => some true) (fun k => ?_) (Ev.now _)
          rw [K.arlinklaw03_LongnameConcat.j1, if_pos rfl]
          rfl
        have hall : (a ++ b).all validB = (a.all validB && b.all validB) := List.all_append
        cases hva : a.all validB with
        | false =>
          have e : buildV a = ([], [], 6) := by unfold buildV; rw [hva]; rfl
          have := hbad (by rw [hall, hva]; rfl)
          rw [e]
          simp only [if_neg (show ¬ (6 : Int) = 0 by decide)]
          exact this _ _ _ _ _ _
        | true =>
          have ea : buildV a = (tableV (longV a), fieldsF 0 a, 0) := by unfold buildV; rw [hva]; rfl
          rw [ea]
          simp only [if_true]
          cases hvb : b.all validB with
          | false =>
            have e : buildV b = ([], [], 6) := by unfold buildV; rw [hvb]; rfl
            have := hbad (by rw [hall, hvb, Bool.and_false])
            rw [e]
            exact this _ _ _ _ _ _
          | true =>
            have eb : buildV b = (tableV (longV b), fieldsF 0 b, 0) := by unfold buildV; rw [hvb]; rfl
            have eab : buildV (a ++ b) = (tableV (longV (a ++ b)), fieldsF 0 (a ++ b), 0) := by unfold buildV; rw [hall, hva, hvb]; rfl
            rw [ea] at hb1 hb2
            rw [eb] at hb3 hb4
            rw [eab] at hb5 hb6
            rw [eb, eab]
            simp only at hb1 hb2 hb3 hb4 hb5 hb6
            have hap : tableV (longV (a ++ b)) = tableV (longV a) ++ tableV (longV b) := by rw [longV_append, tableV_append]
            refine Ev.step (f := fun k => (K.arlinkref01_Same.f k (tableV (longV (a ++ b))) (tableV (longV a) ++ tableV (longV b))).bind fun t281 => if t281 = true then (K.arlinkref03_Texts.f k (fieldsF 0 a) (fieldsF 0 a)).bind fun t286 => some t286 else some false) (fun k => ?_) ?_
            · have hadd : K.arlinkref01_Add.f (tableV (longV a)) (tableV (longV b)) = some (tableV (longV a) ++ tableV (longV b)) := by
                unfold K.arlinkref01_Add.f
                simp only [Option.bind_some, List.nil_append, List.length_nil]
                rw [if_pos (by omega), if_pos (by omega)]
              rw [K.arlinklaw03_LongnameConcat.j1, if_neg (show ¬ (((0 : Int) != 0) = true) by decide), if_pos rfl, hadd]
              simp only [Option.bind_some]
              have hlen : ((fieldsF 0 (a ++ b)).length : Int) = wrap64 (((fieldsF 0 a).length : Int) + ((fieldsF 0 b).length : Int)) := by
                rw [fieldsF_length, fieldsF_length, fieldsF_length, List.length_append]
                unfold wrap64
                omega
              have hle : (fieldsF 0 a).length ≤ (fieldsF 0 (a ++ b)).length := by rw [fieldsF_length, fieldsF_length, List.length_append]; omega
              rw [if_pos hlen, if_pos (by omega), if_pos (by omega), Int.toNat_natCast, fieldsF_append, List.take_left]
            · have h3 := same_ev (tableV (longV (a ++ b))) (tableV (longV a) ++ tableV (longV b)) (by omega)
              rw [hap, decide_eq_true rfl] at h3
              rw [hap]
              refine Ev.bind h3 ?_
              simp only [if_true]
              have h4 := texts_ev (fieldsF 0 a) (fieldsF 0 a) (by omega)
              rw [decide_eq_true rfl] at h4
              exact Ev.bind h4 (Ev.now _)
    · simp only [Bool.not_eq_true] at hfb
      simp only [hfb, Bool.not_false]
      exact hother
  · simp only [if_neg hfa]
    exact hother

end Go.Proofs.YtjiokdkgbnakhaaDoor.Own
