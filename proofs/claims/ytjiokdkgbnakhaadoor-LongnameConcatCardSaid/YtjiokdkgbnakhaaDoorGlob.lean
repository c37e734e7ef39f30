/- The world facts that the contracts ask: the package-level variable internal/bytealg.MaxLen holds some int; the table of powers of ten holds its numbers. -/
import Derived.Test.YtjiokdkgbnakhaaDoorProg
import Derived.Below
import Derived.KernelRfl
import Derived.Lib.LaidTab
import Derived.Lib.ItoaNum
set_option linter.unusedVariables false
set_option linter.unusedSimpArgs false
namespace Go.Proofs.YtjiokdkgbnakhaaDoor.Own
open Go.RowKit

theorem lt_of_cell {w : World} {a : Addr} {v : Value} (h : w.cell? a = some v) : a.block < w.heap.size := by
  unfold World.cell? at h
  rcases Nat.lt_or_ge a.block w.heap.size with h1 | h1
  · exact h1
  · rw [Array.getElem?_eq_none h1] at h
    simp at h
def Gmaxlen (w : World) : Prop := ∃ m, w.cell? ⟨0, 0, none⟩ = some (.int .i64 m)
theorem Gmaxlen.below {w w' : World} (h : Gmaxlen w) (hb : Below w.heap.size w w') : Gmaxlen w' := by
  obtain ⟨m, hm⟩ := h
  exact ⟨m, (hb.cell (p := ⟨0, 0, none⟩) (lt_of_cell hm)).trans hm⟩
theorem var_below {P : Program} {w w' : World} {n : String} {g : Nat} {cs : Array Value} (h : w.var? P n = some cs) (hg : P.globalNamed n = some g) (hb : Below w.heap.size w w') : w'.var? P n = some cs := by
  unfold World.var? at h ⊢
  rw [hg] at h ⊢
  simp only [Option.bind_some] at h ⊢
  rcases Nat.lt_or_ge g w.heap.size with h1 | h1
  · rw [hb.block g h1]
    exact h
  · rw [Array.getElem?_eq_none h1] at h
    simp at h
def Gpow10 (w : World) : Prop := Lib.TabIs Tryd.prog w "internal/strconv.uint64pow10" .u64 Lib.pow10Tab
theorem Gpow10.below {w w' : World} (h : Gpow10 w) (hb : Below w.heap.size w w') : Gpow10 w' := var_below (g := 1) h (by kernel_rfl) hb

end Go.Proofs.YtjiokdkgbnakhaaDoor.Own
