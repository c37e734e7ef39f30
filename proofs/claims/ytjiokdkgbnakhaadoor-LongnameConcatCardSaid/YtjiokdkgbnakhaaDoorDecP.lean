/- The plain side of decfield.Parse: the number that a field's leading digits denote, and its bounds. -/
import Derived.Test.YtjiokdkgbnakhaaDoorKx25
set_option linter.unusedVariables false
set_option linter.unusedSimpArgs false
namespace Go.Proofs.YtjiokdkgbnakhaaDoor.Own
open Go.RowKit Go.Proofs.YtjiokdkgbnakhaaDoor Go.Proofs.YtjiokdkgbnakhaaDoorW.PrintWords Go.Proofs.YtjiokdkgbnakhaaDoorW.PrintLast Go.Proofs.YtjiokdkgbnakhaaDoorW.PrintMore

def isDig (base : Int) (c : Int) : Bool := decide (48 ≤ c) && decide (c - 48 < base)
def numF (base : Int) (l : List Int) : Int := l.foldl (fun n c => n * base + (c - 48)) 0
theorem numF_snoc (base : Int) (l : List Int) (c : Int) : numF base (l ++ [c]) = numF base l * base + (c - 48) := by simp [numF]
theorem numF_le (base : Int) (hb : base = 8 ∨ base = 10) : ∀ (n : Nat) (l : List Int), l.length = n → l.all (isDig base) = true → 0 ≤ numF base l ∧ numF base l < 10 ^ n := by
  intro n
  induction n with
  | zero =>
    intro l hl _
    obtain rfl := List.eq_nil_of_length_eq_zero hl
    simp [numF]
  | succ n ih =>
    intro l hl ha
    rcases List.eq_nil_or_concat l with rfl | ⟨t, c, rfl⟩
    · simp at hl
    · rw [List.concat_eq_append] at hl ha ⊢
      simp only [List.length_append, List.length_singleton] at hl
      rw [List.all_append] at ha
      simp only [List.all_cons, List.all_nil, Bool.and_true, Bool.and_eq_true, isDig, decide_eq_true_eq] at ha
      obtain ⟨h0, h1⟩ := ih t (by omega) (by simpa [isDig] using ha.1)
      rw [numF_snoc, Int.pow_succ]
      obtain ⟨hc1, hc2⟩ := ha.2
      rcases hb with rfl | rfl <;> omega
def parseJ (xs : List Int) (base : Int) (j : Nat) : Int × Int := if j = 0 ∨ (1 < j ∧ xs.getD 0 0 = 48) ∨ (xs.drop j).all (fun c => decide (c = 32)) = false then (0, 3) else (numF base (xs.take j), 0)
def parseV (xs : List Int) (base : Int) : Int × Int :=
  if xs.length < 1 ∨ 18 < xs.length then (0, 13) else
  if (xs.takeWhile (fun c => decide (c ≠ 32))).all (isDig base) = true then parseJ xs base (xs.takeWhile (fun c => decide (c ≠ 32))).length else (0, 3)

theorem dig_ne {base c : Int} (h : isDig base c = true) : decide (c ≠ 32) = true := by
  simp only [isDig, Bool.and_eq_true, decide_eq_true_eq] at h
  simp only [decide_eq_true_eq]
  omega
theorem takeWhile_at (base : Int) : ∀ (xs : List Int) (k : Nat), (xs.take k).all (isDig base) = true → k ≤ xs.length → (k = xs.length ∨ xs.getD k 0 = 32) → xs.takeWhile (fun c => decide (c ≠ 32)) = xs.take k := by
  intro xs
  induction xs with
  | nil => intro k _ hk _; simp
  | cons x t ih =>
    intro k ha hk he
    cases k with
    | zero =>
      rcases he with he | he
      · simp at he
      · simp only [List.getD_cons_zero] at he
        subst he
        simp
    | succ k =>
      simp only [List.take_succ_cons, List.all_cons, Bool.and_eq_true] at ha
      simp only [List.length_cons, List.getD_cons_succ] at hk he
      rw [List.takeWhile_cons, if_pos (dig_ne ha.1), ih k ha.2 (by omega) (he.imp (fun h => by omega) id), List.take_succ_cons]
theorem parse_end (xs : List Int) (base : Int) (k : Nat) (h1 : 1 ≤ xs.length) (h18 : xs.length ≤ 18) (ha : (xs.take k).all (isDig base) = true) (hk : k ≤ xs.length) (he : k = xs.length ∨ xs.getD k 0 = 32) : parseV xs base = parseJ xs base k := by
  unfold parseV
  rw [if_neg (by omega), takeWhile_at base xs k ha hk he, if_pos ha, List.length_take, Nat.min_eq_left hk]
theorem takeWhile_bad (base : Int) : ∀ (xs : List Int) (k : Nat), (xs.take k).all (isDig base) = true → k < xs.length → xs.getD k 0 ≠ 32 → isDig base (xs.getD k 0) = false → (xs.takeWhile (fun c => decide (c ≠ 32))).all (isDig base) = false := by
  intro xs
  induction xs with
  | nil => intro k _ hk; simp at hk
  | cons x t ih =>
    intro k ha hk h32 hd
    cases k with
    | zero =>
      simp only [List.getD_cons_zero] at h32 hd
      rw [List.takeWhile_cons, if_pos (by simpa using h32)]
      simp [hd]
    | succ k =>
      simp only [List.take_succ_cons, List.all_cons, Bool.and_eq_true] at ha
      simp only [List.length_cons, List.getD_cons_succ] at hk h32 hd
      rw [List.takeWhile_cons, if_pos (dig_ne ha.1)]
      simp only [List.all_cons, ih k ha.2 (by omega) h32 hd, Bool.and_false]
theorem parse_bad (xs : List Int) (base : Int) (k : Nat) (h1 : 1 ≤ xs.length) (h18 : xs.length ≤ 18) (ha : (xs.take k).all (isDig base) = true) (hk : k < xs.length) (h32 : xs.getD k 0 ≠ 32) (hd : isDig base (xs.getD k 0) = false) : parseV xs base = (0, 3) := by
  unfold parseV
  rw [if_neg (by omega), takeWhile_bad base xs k ha hk h32 hd]
  simp

theorem wrap64_id {i : Int} (h0 : -9223372036854775808 ≤ i) (h : i ≤ 9223372036854775807) : wrap64 i = i := by
  unfold wrap64
  omega
theorem blank_l (xs : List Int) (hl : xs.length ≤ 140737488351232) : ∀ (d k : Nat) (i : Nat), i + d = xs.length → d < k → K.decfield_Blank.l0 k xs (xs.length : Int) (i : Int) = some ((xs.drop i).all (fun c => decide (c = 32))) := by
  intro d
  induction d with
  | zero =>
    intro k i hi hk
    obtain ⟨k, rfl⟩ : ∃ m, k = m + 1 := ⟨k - 1, by omega⟩
    simp only [K.decfield_Blank.l0]
    rw [if_neg (by omega), List.drop_eq_nil_of_le (by omega)]
    rfl
  | succ d ih =>
    intro k i hi hk
    obtain ⟨k, rfl⟩ : ∃ m, k = m + 1 := ⟨k - 1, by omega⟩
    have hlt : i < xs.length := by omega
    simp only [K.decfield_Blank.l0]
    rw [if_pos (by omega), if_pos (by omega), if_pos (by omega), List.drop_eq_getElem_cons hlt]
    have hrd : rd xs (i : Int) = xs[i] := by simp [rd, hlt]
    rw [hrd]
    by_cases h : xs[i] = 32
    · rw [if_pos h, wrap64_id (by omega) (by omega)]
      have := ih k (i + 1) (by omega) (by omega)
      simp only [Int.natCast_add, Int.natCast_one] at this
      rw [this]
      simp [h]
    · rw [if_neg h, List.all_cons, decide_eq_false h, Bool.false_and]
theorem blank_f (xs : List Int) (hl : xs.length ≤ 140737488351232) : K.decfield_Blank.f (xs.length + 1) xs = some (xs.all (fun c => decide (c = 32))) := by
  have := blank_l xs hl xs.length (xs.length + 1) 0 (by omega) (by omega)
  simpa [K.decfield_Blank.f] using this

end Go.Proofs.YtjiokdkgbnakhaaDoor.Own
