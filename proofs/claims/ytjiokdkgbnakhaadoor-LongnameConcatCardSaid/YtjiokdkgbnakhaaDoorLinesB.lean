/- longname.Entries, walked over every table of bytes shorter than 4294967281: its names, or the error ErrTable. -/
import Derived.Test.YtjiokdkgbnakhaaDoorLines
import Derived.RangeFuncWrites
import Derived.Test.YtjiokdkgbnakhaaDoorAnyB
import Derived.Test.YtjiokdkgbnakhaaDoorKx6
set_option linter.unusedVariables false
set_option linter.unusedSimpArgs false
namespace Go.Proofs.YtjiokdkgbnakhaaDoor.Own
open Go.RowKit Go.Shelf Go.Proofs.YtjiokdkgbnakhaaDoor Go.Proofs.YtjiokdkgbnakhaaDoorW.PrintWords Go.Proofs.YtjiokdkgbnakhaaDoorW.PrintLast Go.Proofs.YtjiokdkgbnakhaaDoorW.PrintMore

attribute [local go_sem] Oper.semAt_some

set_option maxHeartbeats 1000000 in
/-- longname.lines(table): the slice is boxed; the function value captures the box. -/
theorem lines_in (A : Option Addr) (n c : Nat) (w : World) :
    Calls Tryd.prog 37 #[.slice A n c] w fun e w' => e = .returned (.func (.func 56) #[] #[.pointer (some ⟨w.heap.size, 0, none⟩)]) ∧ w' = w.alloc (.cells #[.slice A n c] 22) := by
  go_enter Tryd.func37, Tryd.ntmps37
  go_wp2
  go_ret
  exact ⟨rfl, rfl⟩

theorem lines_stops (Bs n₀ : Nat) (A : Option Addr) (c : Nat) (xs : List Int) (hlen : xs.length ≤ c) (hx4 : xs.length < 4294967281) (hby : ∀ x ∈ xs, 0 ≤ x ∧ x < 256) (w : World)
    (hn₀ : n₀ ≤ w.heap.size) (hBs : w.heap[Bs]? = some (.cells #[.slice A xs.length c] 22 (0, 0)))
    (hC : ∀ W', Below n₀ w W' → (Kd.int .u8).C W' A xs.length xs) (hM : ∀ W', Below n₀ w W' → Gmaxlen W') :
    SeqStopsK Fence.wide 3 Tryd.prog 56 #[.pointer (some ⟨Bs, 0, none⟩)] (fun x : Nat × ByteArray => #[Value.int .i64 (x.1 : Int), Value.string x.2]) (KpT n₀ Bs 22 (.slice A xs.length c))
      (fun ys => ys = linesOf xs) (fun pre => pre <+: linesOf xs) (linesOf xs).length w := fun l J Jx W hW hJ _ hY h0 =>
  lines1_in l Bs n₀ A c xs hlen hx4 hby J Jx (fun pre W1 W2 hj hg => hJ pre W1 W2 none hj hg (fun r e => by cases e)) hY W (Nat.le_trans hn₀ hW.size)
    ((hW.block Bs (Array.getElem?_eq_some_iff.1 hBs).1).trans hBs)
    (fun W' hb => hC W' ((hW.mono hn₀).trans hb)) (fun W' hb => hM W' ((hW.mono hn₀).trans hb)) h0

/-! ### the plain side -/
def validB (s : ByteArray) : Bool := decide (1 ≤ s.size) && decide (s.size ≤ 255) && !Lib.containsAny s.data.toList [47, 10, 0]
theorem valid_f (s : ByteArray) : K.longname_Valid.f s = some (validB s) := by
  unfold K.longname_Valid.f validB
  by_cases h1 : (s.size : Int) ≥ 1
  · rw [if_pos h1, decide_eq_true (by omega)]
    by_cases h2 : (s.size : Int) ≤ 255
    · rw [if_pos h2, decide_eq_true (by omega)]
      have : strings_ContainsAny.f s ⟨#[47, 10, 0]⟩ = some (Lib.containsAny s.data.toList [47, 10, 0]) := by
        unfold strings_ContainsAny.f
        rw [if_pos ⟨by omega, by decide, by decide, by decide⟩]
      rw [this]
      rfl
    · rw [if_neg h2, decide_eq_false (by omega)]
      rfl
  · rw [if_neg h1, decide_eq_false (by omega)]
    rfl
def isBytes (l : List Int) : Bool := l.all fun x => decide (0 ≤ x) && decide (x < 256)
theorem isBytes_iff {l : List Int} (h : isBytes l = true) : ∀ x ∈ l, 0 ≤ x ∧ x < 256 := fun x hx => by
  have := List.all_eq_true.1 h x hx
  simpa using this
def entriesV (l : List Int) : List ByteArray × Int :=
  if (linesOf l).all (fun x => validB x.2) = true then ((linesOf l).map (·.2), 0) else ([], 7)
def longname_Entries.f (l0 : List Int) : Option (List ByteArray × Int) := if isBytes l0 = true ∧ l0.length < 4294967281 then some (entriesV l0) else none

theorem linesF_len : ∀ (k : Nat) (l : List Int) (a : Nat), (linesF k l a).length ≤ l.length - a
  | 0, _, _ => Nat.zero_le _
  | k + 1, l, a => by
    unfold linesF
    split
    · split
      · simp; omega
      · have := linesF_len k l (a + (nextSep (l.drop a)).toNat + 2)
        simp only [List.length_cons]
        omega
    · exact Nat.zero_le _

theorem valid_calls (s : ByteArray) (w : World) : Calls Tryd.prog 35 #[.string s] w fun e w' => e = .returned (.bool (validB s)) ∧ Below w.heap.size w w' :=
  K.longname_Valid.calls s (validB s) w (valid_f s)

end Go.Proofs.YtjiokdkgbnakhaaDoor.Own
