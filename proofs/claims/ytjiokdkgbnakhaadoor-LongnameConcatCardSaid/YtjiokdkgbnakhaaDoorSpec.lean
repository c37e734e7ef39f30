/- What the printed reference functions of layers 1 and 3 come to, in plain terms. -/
import Derived.Test.YtjiokdkgbnakhaaDoorLinesB
import Derived.Test.YtjiokdkgbnakhaaDoorKx1
import Derived.Test.YtjiokdkgbnakhaaDoorKx3
import Derived.Test.YtjiokdkgbnakhaaDoorKx4
import Derived.Test.YtjiokdkgbnakhaaDoorKx8
import Derived.Test.YtjiokdkgbnakhaaDoorKx10
set_option linter.unusedVariables false
set_option linter.unusedSimpArgs false
namespace Go.Proofs.YtjiokdkgbnakhaaDoor.Own
open Go.RowKit Go.Proofs.YtjiokdkgbnakhaaDoor Go.Proofs.YtjiokdkgbnakhaaDoorW.PrintWords Go.Proofs.YtjiokdkgbnakhaaDoorW.PrintLast Go.Proofs.YtjiokdkgbnakhaaDoorW.PrintMore

theorem wrap_up {n : Nat} (h : n < 9223372036854775807) : wrap64 ((n : Int) + 1) = ((n + 1 : Nat) : Int) := by unfold wrap64; omega
theorem rdOf_nat {α : Type} (d : α) (xs : List α) (i : Nat) (h : i < xs.length) : rdOf d xs (i : Int) = xs[i] := by simp [rdOf, List.getD_eq_getElem?_getD, h]
theorem rd_nat (xs : List Int) (i : Nat) (h : i < xs.length) : rd xs (i : Int) = xs[i] := by simp [rd, List.getD_eq_getElem?_getD, h]

theorem same_loop (a b : List Int) (hab : a.length = b.length) (hs : a.length < 9223372036854775807) : ∀ d i, a.length = i + d → Ev (fun k => K.arlinkref01_Same.l0 k a b (i : Int)) (decide (a.drop i = b.drop i))
  | 0, i, h => by
    refine Ev.step (f := fun _ => some (decide (a.drop i = b.drop i))) (fun k => ?_) (Ev.now _)
    rw [K.arlinkref01_Same.l0, if_neg (by omega), List.drop_eq_nil_of_le (by omega), List.drop_eq_nil_of_le (by omega)]; rfl
  | d + 1, i, h => by
    have ha : i < a.length := by omega
    have hb : i < b.length := by omega
    have ih := same_loop a b hab hs d (i + 1) (by omega)
    have hd : (a.drop i = b.drop i) ↔ (a[i] = b[i] ∧ a.drop (i + 1) = b.drop (i + 1)) := by
      rw [List.drop_eq_getElem_cons ha, List.drop_eq_getElem_cons hb]; exact List.cons_eq_cons
    by_cases he : a[i] = b[i]
    · refine Ev.step (f := fun k => K.arlinkref01_Same.l0 k a b ((i + 1 : Nat) : Int)) (fun k => ?_) ?_
      · rw [K.arlinkref01_Same.l0, if_pos (by omega), if_pos (by omega), if_pos (by omega), if_pos (by rw [rd_nat _ _ ha, rd_nat _ _ hb]; exact he), wrap_up (by omega)]
      · rw [show decide (a.drop i = b.drop i) = decide (a.drop (i + 1) = b.drop (i + 1)) from decide_eq_decide.2 (by rw [hd]; simp [he])]
        exact ih
    · refine Ev.step (f := fun _ => some (decide (a.drop i = b.drop i))) (fun k => ?_) (Ev.now _)
      rw [K.arlinkref01_Same.l0, if_pos (by omega), if_pos (by omega), if_pos (by omega), if_neg (by rw [rd_nat _ _ ha, rd_nat _ _ hb]; exact he), decide_eq_false (by rw [hd]; simp [he])]
theorem same_ev (a b : List Int) (hs : a.length < 9223372036854775807) : Ev (fun k => K.arlinkref01_Same.f k a b) (decide (a = b)) := by
  by_cases h : a.length = b.length
  · refine Ev.congr (f := fun k => K.arlinkref01_Same.l0 k a b ((0 : Nat) : Int)) (fun k => ?_) ?_
    · unfold K.arlinkref01_Same.f
      rw [if_pos (by omega)]; rfl
    · have := same_loop a b h hs a.length 0 (by omega)
      simpa using this
  · refine Ev.congr (f := fun k => some (decide (a = b))) (fun k => ?_) (Ev.now _)
    unfold K.arlinkref01_Same.f
    rw [if_neg (by omega), decide_eq_false (fun e => h (by rw [e]))]

theorem texts_loop (a b : List ByteArray) (hab : a.length = b.length) (hs : a.length < 9223372036854775807) : ∀ d i, a.length = i + d → Ev (fun k => K.arlinkref03_Texts.l0 k a b (i : Int)) (decide (a.drop i = b.drop i))
  | 0, i, h => by
    refine Ev.step (f := fun _ => some (decide (a.drop i = b.drop i))) (fun k => ?_) (Ev.now _)
    rw [K.arlinkref03_Texts.l0, if_neg (by omega), List.drop_eq_nil_of_le (by omega), List.drop_eq_nil_of_le (by omega)]; rfl
  | d + 1, i, h => by
    have ha : i < a.length := by omega
    have hb : i < b.length := by omega
    have ih := texts_loop a b hab hs d (i + 1) (by omega)
    have hd : (a.drop i = b.drop i) ↔ (a[i] = b[i] ∧ a.drop (i + 1) = b.drop (i + 1)) := by
      rw [List.drop_eq_getElem_cons ha, List.drop_eq_getElem_cons hb]; exact List.cons_eq_cons
    have hl : (rdOf ByteArray.empty a (i : Int)).toList = (rdOf ByteArray.empty b (i : Int)).toList ↔ a[i] = b[i] := by
      rw [rdOf_nat _ _ _ ha, rdOf_nat _ _ _ hb]
      constructor
      · intro e
        apply ByteArray.ext
        have := congrArg List.toArray e
        rw [ByteArray.toList_eq, ByteArray.toList_eq] at e
        exact Array.toList_inj.1 e
      · intro e; rw [e]
    by_cases he : a[i] = b[i]
    · refine Ev.step (f := fun k => K.arlinkref03_Texts.l0 k a b ((i + 1 : Nat) : Int)) (fun k => ?_) ?_
      · rw [K.arlinkref03_Texts.l0, if_pos (by omega), if_pos (by omega), if_pos (by omega), if_pos (hl.2 he), wrap_up (by omega)]
      · rw [show decide (a.drop i = b.drop i) = decide (a.drop (i + 1) = b.drop (i + 1)) from decide_eq_decide.2 (by rw [hd]; simp [he])]
        exact ih
    · refine Ev.step (f := fun _ => some (decide (a.drop i = b.drop i))) (fun k => ?_) (Ev.now _)
      rw [K.arlinkref03_Texts.l0, if_pos (by omega), if_pos (by omega), if_pos (by omega), if_neg (fun e => he (hl.1 e)), decide_eq_false (by rw [hd]; simp [he])]
theorem texts_ev (a b : List ByteArray) (hs : a.length < 9223372036854775807) : Ev (fun k => K.arlinkref03_Texts.f k a b) (decide (a = b)) := by
  by_cases h : a.length = b.length
  · refine Ev.congr (f := fun k => K.arlinkref03_Texts.l0 k a b ((0 : Nat) : Int)) (fun k => ?_) ?_
    · unfold K.arlinkref03_Texts.f
      rw [if_pos (by omega)]; rfl
    · have := texts_loop a b h hs a.length 0 (by omega)
      simpa using this
  · refine Ev.congr (f := fun k => some (decide (a = b))) (fun k => ?_) (Ev.now _)
    unfold K.arlinkref03_Texts.f
    rw [if_neg (by omega), decide_eq_false (fun e => h (by rw [e]))]

/-- the table of names -/
def tableV (ns : List ByteArray) : List Int := ns.flatMap fun s => bytesOf s ++ [47, 10]
theorem tableV_nil : tableV [] = [] := rfl
theorem tableV_cons (s : ByteArray) (ns : List ByteArray) : tableV (s :: ns) = bytesOf s ++ [47, 10] ++ tableV ns := rfl
theorem tableV_append (a b : List ByteArray) : tableV (a ++ b) = tableV a ++ tableV b := by simp [tableV]
theorem table_loop (ns : List ByteArray) (hs : ns.length < 9223372036854775807) : ∀ d i (x : List Int), ns.length = i + d → x.length + (tableV (ns.drop i)).length < 140737488355328 → Ev (fun k => K.arlinkref03_Table.l0 k ns x (i : Int)) (x ++ tableV (ns.drop i))
  | 0, i, x, h, hb => by
    refine Ev.step (f := fun _ => some (x ++ tableV (ns.drop i))) (fun k => ?_) (Ev.now _)
    rw [K.arlinkref03_Table.l0, if_neg (by omega), List.drop_eq_nil_of_le (by omega), tableV_nil, List.append_nil]
  | d + 1, i, x, h, hb => by
    have hi : i < ns.length := by omega
    rw [List.drop_eq_getElem_cons hi, tableV_cons] at hb
    simp only [List.length_append, List.length_cons, List.length_nil, bytesOf_length] at hb
    have ih := table_loop ns hs d (i + 1) (x ++ bytesOf ns[i] ++ [47, 10]) (by omega) (by simp only [List.length_append, List.length_cons, List.length_nil, bytesOf_length]; omega)
    refine Ev.step (f := fun k => K.arlinkref03_Table.l0 k ns (x ++ bytesOf ns[i] ++ [47, 10]) ((i + 1 : Nat) : Int)) (fun k => ?_) ?_
    · rw [K.arlinkref03_Table.l0, if_pos (by omega), if_pos (by omega), rdOf_nat _ _ _ hi, if_pos (by omega)]
      simp only [Option.bind_some]
      rw [if_pos (by simp only [List.length_append, List.length_cons, List.length_nil, bytesOf_length]; omega), wrap_up (by omega)]
    · rw [List.drop_eq_getElem_cons hi, tableV_cons]
      simpa [List.append_assoc] using ih
theorem table_ev (ns : List ByteArray) (hs : ns.length < 9223372036854775807) (hb : (tableV ns).length < 140737488355328) : Ev (fun k => K.arlinkref03_Table.f k ns) (tableV ns) := by
  have := table_loop ns hs ns.length 0 [] (by omega) (by simpa using hb)
  simpa [K.arlinkref03_Table.f] using this

/-- few names, none too long -/
def fewV (ns : List ByteArray) : Bool := decide (ns.length ≤ 40) && ns.all fun s => decide (s.size ≤ 300)
theorem few_step (ns : List ByteArray) (i : Nat) (k : Nat) (hi : i < ns.length) (hi' : i ≤ 40) :
    K.arlinkref03_Few.l0 (k + 2) ns (i : Int) = if ns[i].size ≤ 300 then K.arlinkref03_Few.l0 k ns ((i + 1 : Nat) : Int) else some false := by
  rw [K.arlinkref03_Few.l0, if_pos (by omega), decide_eq_true (by omega), K.arlinkref03_Few.j1, if_pos rfl, if_pos (by omega), if_pos (by omega), rdOf_nat _ _ _ hi, wrap_up (by omega)]
  by_cases h : ns[i].size ≤ 300
  · rw [if_neg (by omega), if_pos h]
  · rw [if_pos (by omega), if_neg h]
theorem few_last (ns : List ByteArray) (i : Nat) (k : Nat) (h : ns.length ≤ i ∨ 40 < i) :
    K.arlinkref03_Few.l0 (k + 2) ns (i : Int) = some (decide (ns.length ≤ 40)) := by
  by_cases hi : ns.length ≤ i
  · rw [K.arlinkref03_Few.l0, if_neg (by omega), K.arlinkref03_Few.j1, if_neg Bool.false_ne_true]
    exact congrArg some (decide_eq_decide.2 (by omega))
  · rw [K.arlinkref03_Few.l0, if_pos (by omega), decide_eq_false (by omega), K.arlinkref03_Few.j1, if_neg Bool.false_ne_true]
    exact congrArg some (decide_eq_decide.2 (by omega))
theorem Ev.step2 {α : Type} {g f : Nat → Option α} {r : α} (h : ∀ k, g (k + 2) = f k) (k : Ev f r) : Ev g r :=
  Ev.step (f := fun k => g (k + 1)) (fun _ => rfl) (Ev.step (g := fun k => g (k + 1)) h k)
theorem few_loop (ns : List ByteArray) : ∀ d i, min ns.length 41 = i + d → Ev (fun k => K.arlinkref03_Few.l0 k ns (i : Int)) (decide (ns.length ≤ 40) && (ns.drop i).all fun s => decide (s.size ≤ 300))
  | 0, i, h => by
    refine Ev.step2 (f := fun _ => some (decide (ns.length ≤ 40))) (fun k => few_last ns i k (by omega)) ?_
    by_cases h40 : ns.length ≤ 40
    · rw [List.drop_eq_nil_of_le (by omega)]
      simpa using Ev.now _
    · rw [decide_eq_false h40]
      exact Ev.now _
  | d + 1, i, h => by
    have hi : i < ns.length := by omega
    have ih := few_loop ns d (i + 1) (by omega)
    refine Ev.step2 (f := fun k => if ns[i].size ≤ 300 then K.arlinkref03_Few.l0 k ns ((i + 1 : Nat) : Int) else some false) (fun k => few_step ns i k hi (by omega)) ?_
    rw [List.drop_eq_getElem_cons hi, List.all_cons]
    by_cases h3 : ns[i].size ≤ 300
    · simp only [if_pos h3, decide_eq_true h3, Bool.true_and]
      exact ih
    · simp only [if_neg h3, decide_eq_false h3, Bool.false_and, Bool.and_false]
      exact Ev.now _
theorem few_ev (ns : List ByteArray) : Ev (fun k => K.arlinkref03_Few.f k ns) (fewV ns) := few_loop ns (min ns.length 41) 0 (by omega)
theorem fewV_iff {ns : List ByteArray} (h : fewV ns = true) : ns.length ≤ 40 ∧ ∀ s ∈ ns, s.size ≤ 300 := by
  unfold fewV at h
  simp only [Bool.and_eq_true, decide_eq_true_eq, List.all_eq_true] at h
  exact h
theorem tableV_few : ∀ {ns : List ByteArray}, (∀ s ∈ ns, s.size ≤ 300) → (tableV ns).length ≤ ns.length * 302
  | [], _ => Nat.le_refl _
  | s :: ns, h => by
    have := tableV_few (ns := ns) (fun x hx => h x (List.mem_cons_of_mem _ hx))
    have hs := h s List.mem_cons_self
    rw [tableV_cons]
    simp only [List.length_append, List.length_cons, List.length_nil, bytesOf_length]
    omega

theorem containsAny_any (chars : List UInt8) : ∀ s : List UInt8, Lib.containsAny s chars = s.any fun b => chars.contains b
  | [] => rfl
  | b :: l => by
    have ih := containsAny_any chars l
    have hge := Lib.indexAny_ge chars l
    unfold Lib.containsAny at ih ⊢
    rw [Lib.indexAny, List.any_cons]
    cases hb : chars.contains b with
    | true => rfl
    | false =>
      rw [Bool.false_or, ← ih, if_neg Bool.false_ne_true]
      by_cases h1 : Lib.indexAny l chars = -1
      · rw [h1]; rfl
      · have : ¬ ((Lib.indexAny l chars == -1) = true) := fun e => h1 (beq_iff_eq.1 e)
        rw [if_neg this]
        exact decide_eq_decide.2 (by omega)
def okByte (c : Int) : Bool := !(decide (c = 47) || decide (c = 10) || decide (c = 0))
theorem okByte_eq (b : UInt8) : (!([47, 10, 0] : List UInt8).contains b) = okByte (b.toNat : Int) := by
  have e : ∀ c : UInt8, (b == c) = decide ((b.toNat : Int) = (c.toNat : Int)) := fun c => by
    by_cases h : b = c
    · simp [h]
    · have : ¬ b.toNat = c.toNat := fun e => h (UInt8.toNat_inj.1 e)
      have h' : ¬ (b.toNat : Int) = (c.toNat : Int) := by omega
      rw [decide_eq_false h']
      simpa using h
  simp only [List.contains_cons, List.contains_nil, e, Bool.or_false]
  unfold okByte
  rw [Bool.or_assoc]
  rfl
theorem validB_eq (s : ByteArray) : validB s = (decide (1 ≤ s.size) && decide (s.size ≤ 255) && (bytesOf s).all okByte) := by
  unfold validB
  congr 1
  rw [containsAny_any, bytesOf, List.all_map, List.not_any_eq_all_not]
  exact congrArg (fun f => s.data.toList.all f) (funext okByte_eq)
theorem rvalid_loop (s : ByteArray) (hs : s.size ≤ 255) : ∀ d i, s.size = i + d → Ev (fun k => K.arlinkref03_Valid.l0 k s (i : Int)) (((bytesOf s).drop i).all okByte)
  | 0, i, h => by
    refine Ev.step (f := fun _ => some true) (fun k => ?_) ?_
    · rw [K.arlinkref03_Valid.l0, if_neg (by omega)]
    · rw [List.drop_eq_nil_of_le (by rw [bytesOf_length]; omega)]
      exact Ev.now _
  | d + 1, i, h => by
    have hi : i < (bytesOf s).length := by rw [bytesOf_length]; omega
    have ih := rvalid_loop s hs d (i + 1) (by omega)
    have hb : bt s (i : Int) = (bytesOf s)[i] := by rw [← rd_bytesOf, rd_nat _ _ hi]
    rw [List.drop_eq_getElem_cons hi, List.all_cons]
    refine Ev.step (f := fun k => if okByte (bytesOf s)[i] = true then K.arlinkref03_Valid.l0 k s ((i + 1 : Nat) : Int) else some false) (fun k => ?_) ?_
    · rw [K.arlinkref03_Valid.l0, if_pos (by omega), if_pos (by omega), hb, wrap_up (by omega)]
      generalize (bytesOf s)[i] = c
      unfold okByte
      by_cases h1 : c = 47
      · simp [h1]
      · by_cases h2 : c = 10
        · simp [h2]
        · by_cases h3 : c = 0
          · simp [h3]
          · simp [h1, h2, h3]
    · by_cases ho : okByte (bytesOf s)[i] = true
      · simp only [ho, if_true, Bool.true_and]
        exact ih
      · simp only [Bool.not_eq_true] at ho
        simp only [ho, Bool.false_and, Bool.false_eq_true, if_false]
        exact Ev.now _
theorem rvalid_ev (s : ByteArray) : Ev (fun k => K.arlinkref03_Valid.f k s) (validB s) := by
  rw [validB_eq]
  by_cases h0 : s.size = 0
  · refine Ev.step (f := fun _ => some false) (fun k => ?_) ?_
    · unfold K.arlinkref03_Valid.f
      rw [if_pos (by omega), K.arlinkref03_Valid.j0, if_pos rfl]
    · rw [decide_eq_false (by omega : ¬ 1 ≤ s.size)]
      exact Ev.now _
  · by_cases h2 : s.size ≤ 255
    · refine Ev.step (f := fun k => K.arlinkref03_Valid.l0 k s ((0 : Nat) : Int)) (fun k => ?_) ?_
      · unfold K.arlinkref03_Valid.f
        rw [if_neg (by omega), decide_eq_false (by omega), K.arlinkref03_Valid.j0, if_neg Bool.false_ne_true]
        rfl
      · rw [decide_eq_true (by omega), decide_eq_true h2]
        exact rvalid_loop s h2 s.size 0 (by omega)
    · refine Ev.step (f := fun _ => some false) (fun k => ?_) ?_
      · unfold K.arlinkref03_Valid.f
        rw [if_neg (by omega), decide_eq_true (by omega), K.arlinkref03_Valid.j0, if_pos rfl]
      · rw [decide_eq_false h2, Bool.and_false]
        exact Ev.now _
theorem rshort_ev (s : ByteArray) : Ev (fun k => K.arlinkref03_Valid.f k s) (validB s) := rvalid_ev s

theorem decDigits_short (n : Nat) : (Lib.decDigits n).length ≤ n + 1 := by
  induction n using Nat.strongRecOn with
  | _ n ih =>
    rw [Lib.decDigits]
    split
    · simp
    · have := ih (n / 10) (by omega)
      simp only [List.length_append, List.length_cons, List.length_nil]
      omega
theorem text_lt (n : Nat) (h : n < 9223372036854775808) : Ev (fun k => K.arlinkref01_Text.f k (n : Int) 10) ⟨(Lib.decDigits n).toArray⟩ := by
  induction n using Nat.strongRecOn with
  | _ n ih =>
    have hm : Int.tmod (n : Int) 10 = ((n % 10 : Nat) : Int) := rfl
    have hdv : Int.tdiv (n : Int) 10 = ((n / 10 : Nat) : Int) := rfl
    have hlt : n % 10 < 10 := Nat.mod_lt _ (by decide)
    have hex : ∀ j : Nat, j < 10 → (⟨#[48, 49, 50, 51, 52, 53, 54, 55, 56, 57]⟩ : ByteArray).extract j (j + 1) = ⟨#[UInt8.ofNat (48 + j)]⟩ := by decide
    by_cases h10 : n < 10
    · refine Ev.step (f := fun _ => some ⟨(Lib.decDigits n).toArray⟩) (fun k => ?_) (Ev.now _)
      rw [K.arlinkref01_Text.f, if_neg (by decide), hm, if_pos (by omega), wrap_up (by omega), if_pos (by omega), if_pos (by omega), if_pos (by omega)]
      rw [Int.toNat_natCast, Int.toNat_natCast, hex _ hlt, Lib.decDigits, dif_pos h10, Nat.mod_eq_of_lt h10]
    · have hw : wrap64 ((n / 10 : Nat) : Int) = ((n / 10 : Nat) : Int) := by unfold wrap64; omega
      have hl := decDigits_short (n / 10)
      refine Ev.step (f := fun k => (K.arlinkref01_Text.f k ((n / 10 : Nat) : Int) 10).bind fun t => if t.size + 1 ≤ 9223372036854775807 then some (t ++ ⟨#[UInt8.ofNat (48 + n % 10)]⟩) else none) (fun k => ?_) ?_
      · rw [K.arlinkref01_Text.f, if_neg (by decide), hm, if_pos (by omega), wrap_up (by omega), if_pos (by omega), if_pos (by omega), if_neg (by omega)]
        rw [Int.toNat_natCast, Int.toNat_natCast, hex _ hlt, hdv, hw]
        rfl
      · refine Ev.bind (ih (n / 10) (by omega) (by omega)) ?_
        have hsz : (⟨(Lib.decDigits (n / 10)).toArray⟩ : ByteArray).size = (Lib.decDigits (n / 10)).length := rfl
        rw [if_pos (by rw [hsz]; omega)]
        have e : (⟨(Lib.decDigits (n / 10)).toArray⟩ : ByteArray) ++ ⟨#[UInt8.ofNat (48 + n % 10)]⟩ = ⟨(Lib.decDigits n).toArray⟩ := by
          rw [Lib.decDigits.eq_1 n, dif_neg h10]
          apply ByteArray.ext
          simp
        rw [e]
        exact Ev.now _

end Go.Proofs.YtjiokdkgbnakhaaDoor.Own
