/- LongnameKeeps, in plain terms: it tells true for every input. -/
import Derived.Test.YtjiokdkgbnakhaaDoorBuild
import Derived.Test.YtjiokdkgbnakhaaDoorKx9
set_option linter.unusedVariables false
set_option linter.unusedSimpArgs false
namespace Go.Proofs.YtjiokdkgbnakhaaDoor.Own
open Go.RowKit Go.Proofs.YtjiokdkgbnakhaaDoor Go.Proofs.YtjiokdkgbnakhaaDoorW.PrintWords Go.Proofs.YtjiokdkgbnakhaaDoorW.PrintLast Go.Proofs.YtjiokdkgbnakhaaDoorW.PrintMore

/-! ### LongnameKeeps -/
theorem keeps_end (ns : List ByteArray) (l : List Int) (hl : l.length ≤ 1000) (hn : ns.length ≤ 40) (hs : ∀ s ∈ ns, s.size ≤ 300) :
    ∀ d (i : Nat) (x8 : List ByteArray), x8.length = i + d → x8.length < 9223372036854775807 → Ev (fun k => K.arlinklaw03_LongnameKeeps.l1 k ns l ns l x8 (i : Int)) true
  | 0, i, x8, h, hb => by
    obtain ⟨hb1, hb2⟩ := buildV_small ns (by omega) hs
    refine Ev.step (f := fun k => (K.longname_Build.f k ns).bind fun bt217 => ((K.arlinkref03_Build.f k ns).bind fun bt224 => ((K.arlinkref03_Texts.f k ns ns).bind fun t231 => (if t231 = true then ((K.arlinkref01_Same.f k l l).bind fun t232 => (if t232 = true then ((K.arlinkref01_Same.f k bt217.1 bt224.1).bind fun t233 => (if t233 = true then ((K.arlinkref03_Texts.f k bt217.2.1 bt224.2.1).bind fun t234 => (some t234)) else (some false))) else (some false))) else (some false))))) (fun k => ?_) ?_
    · rw [K.arlinklaw03_LongnameKeeps.l1, if_neg (by omega)]
    · refine Ev.bind (build_ev ns (by omega) hs) ?_
      refine Ev.bind (rbuild_ev ns (by omega) hs) ?_
      have h1 := texts_ev ns ns (by omega)
      rw [decide_eq_true rfl] at h1
      refine Ev.bind h1 ?_
      simp only [if_true]
      have h2 := same_ev l l (by omega)
      rw [decide_eq_true rfl] at h2
      refine Ev.bind h2 ?_
      simp only [if_true]
      have h3 := same_ev (buildV ns).1 (buildV ns).1 (by omega)
      rw [decide_eq_true rfl] at h3
      refine Ev.bind h3 ?_
      simp only [if_true]
      have h4 := texts_ev (buildV ns).2.1 (buildV ns).2.1 (by omega)
      rw [decide_eq_true rfl] at h4
      exact Ev.bind h4 (Ev.now _)
  | d + 1, i, x8, h, hb => by
    refine Ev.step (f := fun k => K.arlinklaw03_LongnameKeeps.l1 k ns l ns l (x8.set i ⟨#[]⟩) ((i + 1 : Nat) : Int)) (fun k => ?_) ?_
    · rw [K.arlinklaw03_LongnameKeeps.l1, if_pos (by omega), if_pos (by omega), wrap_up (by omega), Int.toNat_natCast]
    · exact keeps_end ns l hl hn hs d (i + 1) _ (by rw [List.length_set]; omega) (by rw [List.length_set]; omega)
theorem keeps_mid (ns : List ByteArray) (l : List Int) (hl : l.length ≤ 1000) (hn : ns.length ≤ 40) (hs : ∀ s ∈ ns, s.size ≤ 300) (x8 : List ByteArray) (h8 : x8.length < 9223372036854775807) :
    ∀ d (i : Nat) (x7 : List Int), x7.length = i + d → x7.length < 9223372036854775807 → Ev (fun k => K.arlinklaw03_LongnameKeeps.l0 k ns l ns l x7 x8 (i : Int)) true
  | 0, i, x7, h, hb => by
    refine Ev.step (f := fun k => K.arlinklaw03_LongnameKeeps.l1 k ns l ns l x8 ((0 : Nat) : Int)) (fun k => ?_) (keeps_end ns l hl hn hs x8.length 0 x8 (by omega) h8)
    rw [K.arlinklaw03_LongnameKeeps.l0, if_neg (by omega)]
    rfl
  | d + 1, i, x7, h, hb => by
    refine Ev.step (f := fun k => K.arlinklaw03_LongnameKeeps.l0 k ns l ns l (x7.set i 0) x8 ((i + 1 : Nat) : Int)) (fun k => ?_) ?_
    · rw [K.arlinklaw03_LongnameKeeps.l0, if_pos (by omega), if_pos (by omega), wrap_up (by omega), Int.toNat_natCast]
    · exact keeps_mid ns l hl hn hs x8 h8 d (i + 1) _ (by rw [List.length_set]; omega) (by rw [List.length_set]; omega)
theorem keeps_true (ns : List ByteArray) (l : List Int) (hby : Byt l) : ∃ k, K.arlinklaw03_LongnameKeeps.f k ns l = some true := by
  apply Ev.rounds
  refine Ev.congr (f := fun k => (K.arlinkref03_Few.f k ns).bind fun t => (if t = true then (K.arlinklaw03_LongnameKeeps.j0 k ns l (decide ((l.length : Int) > 1000))) else (K.arlinklaw03_LongnameKeeps.j0 k ns l true))) (fun k => rfl) ?_
  refine Ev.bind (few_ev ns) ?_
  have hother : Ev (fun k => K.arlinklaw03_LongnameKeeps.j0 k ns l true) true := by
    refine Ev.step (f := fun _ => some true) (fun k => ?_) (Ev.now _)
    rw [K.arlinklaw03_LongnameKeeps.j0, if_pos rfl]
    rfl
  by_cases hfew : fewV ns = true
  · obtain ⟨hn, hs⟩ := fewV_iff hfew
    simp only [if_pos hfew]
    by_cases hl : l.length ≤ 1000
    · obtain ⟨hb1, hb2⟩ := buildV_small ns (by omega) hs
      rw [show decide ((l.length : Int) > 1000) = false from decide_eq_false (by omega)]
      refine Ev.step (f := fun k => (K.longname_Build.f k ns).bind fun bt208 => K.arlinklaw03_LongnameKeeps.l0 k ns l ns l bt208.1 bt208.2.1 0) (fun k => ?_) ?_
      · have he : longname_Entries.f l = some (entriesV l) := by
          unfold longname_Entries.f
          rw [if_pos ⟨hby.to, by omega⟩]
        rw [K.arlinklaw03_LongnameKeeps.j0, if_neg Bool.false_ne_true, he]
        simp only [Option.bind_some, List.nil_append]
        rw [if_pos (by rw [List.length_nil]; omega), if_pos (by rw [List.length_nil]; omega)]
      · refine Ev.bind (build_ev ns (by omega) hs) ?_
        exact keeps_mid ns l hl hn hs _ (by omega) (buildV ns).1.length 0 _ (by omega) (by omega)
    · rw [show decide ((l.length : Int) > 1000) = true from decide_eq_true (by omega)]
      exact hother
  · simp only [if_neg hfew]
    exact hother

end Go.Proofs.YtjiokdkgbnakhaaDoor.Own
