/- strconv.Itoa at any int: its decimal text, by the library's contract, in the form that the printed texts take. Condition: the table of powers of ten holds its numbers. -/
import Derived.Test.YtjiokdkgbnakhaaDoorGlob
import Derived.Test.YtjiokdkgbnakhaaDoorShelf
import Derived.Sort.Grow
set_option linter.unusedVariables false
set_option linter.unusedSimpArgs false
namespace Go.Proofs.YtjiokdkgbnakhaaDoor.Own
open Go.RowKit Go.Sort

theorem below_growD (w : World) (k : Nat) (os : Array Obj) : Below w.heap.size w (grow (w.drewN k) os) :=
  ⟨rfl, rfl, rfl, by simp [grow], fun i hi => by show (w.heap ++ os)[i]? = _; rw [Array.getElem?_append, if_pos hi]⟩
def strconv_Itoa.f (a0 : Int) : Option ByteArray := if -9223372036854775808 ≤ a0 ∧ a0 ≤ 9223372036854775807 then some ⟨(Lib.itoa a0).toArray⟩ else none
theorem strconv_Itoa.calls (a0 : Int) (r : ByteArray) (w : World) (hG : Gpow10 w) (h : strconv_Itoa.f a0 = some r) :
    Calls Tryd.prog 42 #[.int .i64 a0] w fun e w' => e = .returned (.string r) ∧ Below w.heap.size w w' := by
  unfold strconv_Itoa.f at h
  split at h
  · rename_i hc
    cases h
    refine (Tryd.strconv_Itoa a0 hc.1 hc.2 w hG).mono ?_
    rintro e w' ⟨rfl, k, os, rfl⟩
    exact ⟨rfl, below_growD _ _ _⟩
  · cases h

end Go.Proofs.YtjiokdkgbnakhaaDoor.Own
