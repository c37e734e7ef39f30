/- longname.Build and its reference, in plain terms: the same table, fields and error. -/
import Derived.Test.YtjiokdkgbnakhaaDoorTab
import Derived.Test.YtjiokdkgbnakhaaDoorRes
import Derived.Test.YtjiokdkgbnakhaaDoorKx6
import Derived.Test.YtjiokdkgbnakhaaDoorKx7
set_option linter.unusedVariables false
set_option linter.unusedSimpArgs false
namespace Go.Proofs.YtjiokdkgbnakhaaDoor.Own
open Go.RowKit Go.Proofs.YtjiokdkgbnakhaaDoor Go.Proofs.YtjiokdkgbnakhaaDoorW.PrintWords Go.Proofs.YtjiokdkgbnakhaaDoorW.PrintLast Go.Proofs.YtjiokdkgbnakhaaDoorW.PrintMore

def decB (a : Nat) : ByteArray := ⟨(Lib.decDigits a).toArray⟩
theorem decB_size (a : Nat) : (decB a).size ≤ a + 1 := decDigits_short a
/-- the fields of names whose table begins at offset a -/
def fieldsF : Nat → List ByteArray → List ByteArray
  | _, [] => []
  | a, s :: r => if shortB s = true then (s ++ ⟨#[47]⟩) :: fieldsF a r else (⟨#[47]⟩ ++ decB a) :: fieldsF (a + s.size + 2) r
def longV (ns : List ByteArray) : List ByteArray := ns.filter fun s => !shortB s
def buildV (ns : List ByteArray) : List Int × List ByteArray × Int := if ns.all validB = true then (tableV (longV ns), fieldsF 0 ns, 0) else ([], [], 6)
theorem fieldsF_length : ∀ (a : Nat) (ns : List ByteArray), (fieldsF a ns).length = ns.length
  | _, [] => rfl
  | a, s :: r => by
    rw [fieldsF]
    split
    · rw [List.length_cons, List.length_cons, fieldsF_length]
    · rw [List.length_cons, List.length_cons, fieldsF_length]
theorem fieldsF_append : ∀ (a : Nat) (ns ms : List ByteArray), fieldsF a (ns ++ ms) = fieldsF a ns ++ fieldsF (a + (tableV (longV ns)).length) ms
  | a, [], ms => by simp [fieldsF, longV, tableV_nil]
  | a, s :: r, ms => by
    rw [List.cons_append, fieldsF, fieldsF]
    by_cases h : shortB s = true
    · rw [if_pos h, if_pos h, fieldsF_append a r ms, List.cons_append]
      have : longV (s :: r) = longV r := by simp [longV, h]
      rw [this]
    · rw [if_neg h, if_neg h, fieldsF_append (a + s.size + 2) r ms, List.cons_append]
      have : longV (s :: r) = s :: longV r := by simp [longV, h]
      rw [this, tableV_cons]
      simp only [List.length_append, bytesOf_length, List.length_cons, List.length_nil]
      rw [show a + s.size + 2 + (tableV (longV r)).length = a + (s.size + (0 + 1 + 1) + (tableV (longV r)).length) by omega]
theorem longV_append (a b : List ByteArray) : longV (a ++ b) = longV a ++ longV b := by simp [longV]
theorem tableV_filter (ns : List ByteArray) : (tableV (longV ns)).length ≤ (tableV ns).length := by
  induction ns with
  | nil => exact Nat.le_refl _
  | cons s r ih =>
    by_cases h : shortB s = true
    · have : longV (s :: r) = longV r := by simp [longV, h]
      rw [this, tableV_cons]
      simp only [List.length_append]
      omega
    · have : longV (s :: r) = s :: longV r := by simp [longV, h]
      rw [this, tableV_cons, tableV_cons]
      simp only [List.length_append]
      omega

theorem itoa_nat (a : Nat) (h : a ≤ 9223372036854775807) : strconv_Itoa.f (a : Int) = some (decB a) := by
  unfold strconv_Itoa.f
  rw [if_pos ⟨by omega, by omega⟩]
  unfold Lib.itoa
  rw [if_neg (by omega), Int.toNat_natCast]
  rfl
def buildAt (t : List Int) (fs : List ByteArray) (a : Nat) (ns : List ByteArray) : List Int × List ByteArray × Int :=
  if ns.all validB = true then (t ++ tableV (longV ns), fs ++ fieldsF a ns, 0) else ([], [], 6)
theorem buildAt_bad {t : List Int} {fs : List ByteArray} {a : Nat} {s : ByteArray} {r : List ByteArray} (h : ¬ validB s = true) : buildAt t fs a (s :: r) = ([], [], 6) := by
  unfold buildAt
  rw [if_neg (by rw [List.all_cons]; simp [h])]
theorem buildAt_short {t : List Int} {fs : List ByteArray} {a : Nat} {s : ByteArray} {r : List ByteArray} (h : validB s = true) (hs : shortB s = true) : buildAt t fs a (s :: r) = buildAt t (fs ++ [s ++ ⟨#[47]⟩]) a r := by
  have e : longV (s :: r) = longV r := by simp [longV, hs]
  unfold buildAt
  rw [List.all_cons, h, Bool.true_and, e, fieldsF, if_pos hs]
  simp
theorem buildAt_long {t : List Int} {fs : List ByteArray} {a : Nat} {s : ByteArray} {r : List ByteArray} (h : validB s = true) (hs : ¬ shortB s = true) :
    buildAt t fs a (s :: r) = buildAt (t ++ bytesOf s ++ [47, 10]) (fs ++ [⟨#[47]⟩ ++ decB a]) (a + s.size + 2) r := by
  have e : longV (s :: r) = s :: longV r := by simp [longV, hs]
  unfold buildAt
  rw [List.all_cons, h, Bool.true_and, e, fieldsF, if_neg hs, tableV_cons]
  simp
theorem build_loop (ns : List ByteArray) (hn : ns.length ≤ 1000) (hs : ∀ s ∈ ns, s.size ≤ 300) : ∀ d i (t : List Int) (fs : List ByteArray), ns.length = i + d → t.length ≤ i * 302 → fs.length ≤ i →
    Ev (fun k => K.longname_Build.l0 k t fs ns (ns.length : Int) (i : Int)) (buildAt t fs t.length (ns.drop i))
  | 0, i, t, fs, h, _, _ => by
    refine Ev.step (f := fun _ => some (t, fs, 0)) (fun k => ?_) ?_
    · rw [K.longname_Build.l0, if_neg (by omega)]
    · rw [List.drop_eq_nil_of_le (by omega)]
      have : buildAt t fs t.length [] = (t, fs, 0) := by simp [buildAt, longV, tableV_nil, fieldsF]
      rw [this]
      exact Ev.now _
  | d + 1, i, t, fs, h, ht, hf => by
    have hi : i < ns.length := by omega
    have hsz := hs ns[i] (List.getElem_mem hi)
    rw [List.drop_eq_getElem_cons hi]
    have hstep : ∀ k, K.longname_Build.l0 (k + 1) t fs ns (ns.length : Int) (i : Int) = if validB ns[i] = true then (if shortB ns[i] = true then K.longname_Build.l0 k t (fs ++ [ns[i] ++ ⟨#[47]⟩]) ns (ns.length : Int) ((i + 1 : Nat) : Int) else K.longname_Build.l0 k (t ++ bytesOf ns[i] ++ [47, 10]) (fs ++ [⟨#[47]⟩ ++ decB t.length]) ns (ns.length : Int) ((i + 1 : Nat) : Int)) else some ([], [], 6) := fun k => by
      have hd := decB_size t.length
      rw [K.longname_Build.l0, if_pos (by omega), if_pos (by omega), if_pos (by omega), rdOf_nat _ _ _ hi, valid_f, short_f, itoa_nat _ (by omega), wrap_up (by omega)]
      have c1 : ns[i].size + 1 ≤ 9223372036854775807 := by omega
      have c2 : fs.length < 8796093022208 := by omega
      have c3 : 1 + (decB t.length).size ≤ 9223372036854775807 := by omega
      have c4 : t.length + ns[i].size < 140737488355328 := by omega
      have c5 : (t ++ bytesOf ns[i]).length + 2 < 140737488355328 := by rw [List.length_append, bytesOf_length]; omega
      simp only [Option.bind_some, if_pos c1, if_pos c2, if_pos c3, if_pos c4, if_pos c5]
      rfl
    by_cases hv : validB ns[i] = true
    · by_cases hsh : shortB ns[i] = true
      · rw [buildAt_short hv hsh]
        refine Ev.step (f := fun k => K.longname_Build.l0 k t (fs ++ [ns[i] ++ ⟨#[47]⟩]) ns (ns.length : Int) ((i + 1 : Nat) : Int)) (fun k => by rw [hstep, if_pos hv, if_pos hsh]) ?_
        exact build_loop ns hn hs d (i + 1) t (fs ++ [ns[i] ++ ⟨#[47]⟩]) (by omega) (Nat.le_trans ht (Nat.mul_le_mul_right _ (Nat.le_succ i))) (by rw [List.length_append]; simp; omega)
      · rw [buildAt_long hv hsh]
        refine Ev.step (f := fun k => K.longname_Build.l0 k (t ++ bytesOf ns[i] ++ [47, 10]) (fs ++ [⟨#[47]⟩ ++ decB t.length]) ns (ns.length : Int) ((i + 1 : Nat) : Int)) (fun k => by rw [hstep, if_pos hv, if_neg hsh]) ?_
        have hl : (t ++ bytesOf ns[i] ++ [47, 10]).length = t.length + ns[i].size + 2 := by simp [bytesOf_length]; omega
        have := build_loop ns hn hs d (i + 1) (t ++ bytesOf ns[i] ++ [47, 10]) (fs ++ [⟨#[47]⟩ ++ decB t.length]) (by omega) (by rw [hl]; omega) (by simp; omega)
        rw [hl] at this
        exact this
    · rw [buildAt_bad hv]
      exact Ev.step (f := fun _ => some ([], [], 6)) (fun k => by rw [hstep, if_neg hv]) (Ev.now _)
theorem buildAt_nil (ns : List ByteArray) : buildAt [] [] 0 ns = buildV ns := by simp [buildAt, buildV]
theorem build_ev (ns : List ByteArray) (hn : ns.length ≤ 1000) (hs : ∀ s ∈ ns, s.size ≤ 300) : Ev (fun k => K.longname_Build.f k ns) (buildV ns) := by
  have := build_loop ns hn hs ns.length 0 [] [] (by omega) (by simp) (by simp)
  rw [List.length_nil, List.drop_zero, buildAt_nil] at this
  exact this

theorem rshort_ev' (s : ByteArray) : Ev (fun k => K.arlinkref03_Short.f k s) (shortB s) := by
  unfold shortB
  refine Ev.bind (rvalid_ev s) ?_
  cases hv : validB s with
  | false => exact Ev.now _
  | true =>
    have hsz := valid_size hv
    have hw : wrap64 ((s.size : Int) - 1) = (s.size : Int) - 1 := by unfold wrap64; omega
    rw [if_pos rfl]
    by_cases h15 : s.size ≤ 15
    · rw [if_pos (by omega), hw, if_pos (by omega), if_pos (by omega), decide_eq_true h15]
      exact Ev.now _
    · rw [if_neg (by omega), decide_eq_false h15]
      exact Ev.now _
theorem rbuild_loop (ns : List ByteArray) (hn : ns.length ≤ 1000) (hs : ∀ s ∈ ns, s.size ≤ 300) : ∀ d i (lg fs : List ByteArray), ns.length = i + d → (∀ s ∈ lg, s.size ≤ 300) → lg.length ≤ i → fs.length ≤ i →
    Ev (fun k => K.arlinkref03_Build.l0 k ns lg fs (i : Int)) (buildAt (tableV lg) fs (tableV lg).length (ns.drop i))
  | 0, i, lg, fs, h, hlg, hll, _ => by
    have htl := tableV_few hlg
    refine Ev.step (f := fun k => (K.arlinkref03_Table.f k lg).bind fun t => some (t, fs, 0)) (fun k => ?_) ?_
    · rw [K.arlinkref03_Build.l0, if_neg (by omega)]
    · rw [List.drop_eq_nil_of_le (by omega)]
      have : buildAt (tableV lg) fs (tableV lg).length [] = (tableV lg, fs, 0) := by simp [buildAt, longV, tableV_nil, fieldsF]
      rw [this]
      exact Ev.bind (table_ev lg (by omega) (by omega)) (Ev.now _)
  | d + 1, i, lg, fs, h, hlg, hll, hf => by
    have hi : i < ns.length := by omega
    have hsz := hs ns[i] (List.getElem_mem hi)
    have htl := tableV_few hlg
    have hd := decB_size (tableV lg).length
    rw [List.drop_eq_getElem_cons hi]
    refine Ev.step (f := fun k => (K.arlinkref03_Valid.f k ns[i]).bind fun v => if v = true then (K.arlinkref03_Short.f k ns[i]).bind fun sh => if sh = true then K.arlinkref03_Build.l0 k ns lg (fs ++ [ns[i] ++ ⟨#[47]⟩]) ((i + 1 : Nat) : Int) else (K.arlinkref03_Table.f k lg).bind fun t => (K.arlinkref01_Text.f k (t.length : Int) 10).bind fun x => if 1 + x.size ≤ 9223372036854775807 then K.arlinkref03_Build.l0 k ns (lg ++ [ns[i]]) (fs ++ [⟨#[47]⟩ ++ x]) ((i + 1 : Nat) : Int) else none else some ([], [], 6)) (fun k => ?_) ?_
    · rw [K.arlinkref03_Build.l0, if_pos (by omega), if_pos (by omega), rdOf_nat _ _ _ hi, wrap_up (by omega), if_pos (by omega : ns[i].size + 1 ≤ 9223372036854775807), if_pos (by omega : fs.length < 8796093022208)]
      simp only [if_pos (show fs.length < 8796093022208 by omega), if_pos (show lg.length < 8796093022208 by omega)]
    · refine Ev.bind (rvalid_ev _) ?_
      by_cases hv : validB ns[i] = true
      · simp only [if_pos hv]
        refine Ev.bind (rshort_ev' _) ?_
        by_cases hsh : shortB ns[i] = true
        · rw [buildAt_short hv hsh]
          simp only [if_pos hsh]
          exact rbuild_loop ns hn hs d (i + 1) lg _ (by omega) hlg (by omega) (by simp; omega)
        · rw [buildAt_long hv hsh]
          simp only [if_neg hsh]
          refine Ev.bind (table_ev lg (by omega) (by omega)) ?_
          refine Ev.bind (text_lt _ (by omega)) ?_
          have hx : 1 + (⟨(Lib.decDigits (tableV lg).length).toArray⟩ : ByteArray).size ≤ 9223372036854775807 := by
            have : (⟨(Lib.decDigits (tableV lg).length).toArray⟩ : ByteArray).size ≤ (tableV lg).length + 1 := hd
            omega
          simp only [if_pos hx]
          have e1 : tableV (lg ++ [ns[i]]) = tableV lg ++ bytesOf ns[i] ++ [47, 10] := by rw [tableV_append, tableV_cons, tableV_nil]; simp
          have := rbuild_loop ns hn hs d (i + 1) (lg ++ [ns[i]]) (fs ++ [⟨#[47]⟩ ++ decB (tableV lg).length]) (by omega) (fun s hsm => (List.mem_append.1 hsm).elim (hlg s) (fun e => by rw [List.mem_singleton.1 e]; exact hsz)) (by simp; omega) (by simp; omega)
          have hl : (tableV lg ++ bytesOf ns[i] ++ [47, 10]).length = (tableV lg).length + ns[i].size + 2 := by simp [bytesOf_length]; omega
          rw [e1, hl] at this
          exact this
      · rw [buildAt_bad hv]
        simp only [if_neg hv]
        exact Ev.now _
theorem rbuild_ev (ns : List ByteArray) (hn : ns.length ≤ 1000) (hs : ∀ s ∈ ns, s.size ≤ 300) : Ev (fun k => K.arlinkref03_Build.f k ns) (buildV ns) := by
  have := rbuild_loop ns hn hs ns.length 0 [] [] (by omega) (fun s h => by cases h) (by simp) (by simp)
  rw [tableV_nil, List.length_nil, List.drop_zero, buildAt_nil] at this
  exact this

theorem buildV_small (ns : List ByteArray) (hn : ns.length ≤ 1000) (hs : ∀ s ∈ ns, s.size ≤ 300) : (buildV ns).1.length ≤ 302000 ∧ (buildV ns).2.1.length ≤ 1000 := by
  unfold buildV
  split
  · have h1 := tableV_filter ns
    have h2 := tableV_few hs
    refine ⟨by show (tableV (longV ns)).length ≤ _; omega, ?_⟩
    show (fieldsF 0 ns).length ≤ _
    rw [fieldsF_length]
    omega
  · exact ⟨Nat.zero_le _, Nat.zero_le _⟩


end Go.Proofs.YtjiokdkgbnakhaaDoor.Own
