/- strings.ContainsAny at any string and a cutset of two or more ASCII bytes: whether one of the bytes occurs. Conditions: both shorter than 4294967281 bytes. -/
import Derived.Test.YtjiokdkgbnakhaaDoorProg
import Derived.Test.YtjiokdkgbnakhaaDoorShelf
import Derived.Laws.RangeAny
import Derived.Laws.Runes
import Derived.Lib.IndexAny
import Derived.Lib.IndexLaws
import Derived.Deep.LoopGhost
import Derived.Deep.QuietTactic
import Derived.BigQuiet
import Derived.WalkKit
import Derived.KernelRfl
import Derived.Below
import Derived.Outline
import Derived.Lib.Hide
import Derived.IntWalk
import Derived.Laws.Strings3
set_option linter.unusedVariables false
set_option linter.unusedSimpArgs false
namespace Go.Proofs.YtjiokdkgbnakhaaDoor.Own
open Go.RowKit

/-- the byte list of an ASCII string -/
def AsciiL (l : List UInt8) : Prop := ∀ (j : Nat) b, l[j]? = some b → b.toNat < 128

theorem below_drewN (w : World) (n : Nat) : Below w.heap.size w (w.drewN n) := by
  induction n with
  | zero => exact Below.refl _ _
  | succ n ih => rw [← World.drew_drewN]; exact ih.drew

theorem indexByte_high (l : List UInt8) (h : AsciiL l) (c : UInt8) (hc : 128 ≤ c.toNat) : Lib.indexByte l c = -1 := by
  have hge := Lib.indexByte_ge l c
  rcases Int.lt_or_le (Lib.indexByte l c) 0 with h0 | h0
  · omega
  · obtain ⟨o, ho⟩ := Int.eq_ofNat_of_zero_le h0
    have := (Lib.indexByte_some (l := l) (c := c) (o := o) ho).1
    have := h _ _ this
    omega

set_option maxRecDepth 100000 in
set_option maxHeartbeats 2000000 in
/-- strings.IndexRune(s, r) where s is ASCII and r is the replacement rune: -1. -/
theorem IndexRune_err (s : ByteArray) (w : World) (hs : AsciiL s.data.toList) :
    Calls Tryd.prog 81 #[.string s, .int .i32 65533] w fun e w' => e = .returned (.int .i64 (-1)) ∧ Below w.heap.size w w' := by
  have HA : Hid (AsciiL s.data.toList) := Lib.hid hs
  clear hs
  go_enter Tryd.func81, Tryd.ntmps81
  go_wp2
  go_loopg [5, 6] s.size (fun g _ _ wx => ∃ i : Nat, i + g = s.size ∧ wx = w.iter s i)
  case atStart => exact ⟨0, by omega, rfl⟩
  case round =>
    obtain ⟨i, hig, rfl⟩ := hrel
    cases gk with
    | zero =>
      obtain rfl : i = s.size := by omega
      have hnx := run_next_end (P := Tryd.prog) w s s.size
      go_wp2
      go_ret
      exact ⟨rfl, (Below.refl _ _).alloc (Nat.le_refl _) _⟩
    | succ g =>
      have hi : i < s.size := by omega
      obtain ⟨x, hx⟩ : ∃ x : UInt8, s[i]'hi = x := ⟨_, rfl⟩
      have hxl : s.data.toList[i]? = some x := by rw [← hx]; exact Lib.data_getElem? s i hi
      have hx128 : x.toNat < 128 := HA.out i x hxl
      have hnx := fun ty => run_next_ascii (P := Tryd.prog) w s i ty hi (by rw [hx]; exact hx128)
      rw [hx] at hnx
      clear hx hxl
      have hne : ((x.toNat : Int) == 65533) = false := beq_eq_false_iff_ne.2 (by omega)
      go_wp2
      go_roundg g
      case measure => omega
      case rel => exact ⟨i + 1, by omega, rfl⟩

set_option maxRecDepth 100000 in
set_option maxHeartbeats 2000000 in
theorem IndexRune_bad (s : ByteArray) (r : Int) (w : World) (h1 : 128 ≤ r) (h2 : r ≤ 2147483647) (hne : r ≠ 65533) (hv : Lib.validRune r = false) :
    Calls Tryd.prog 81 #[.string s, .int .i32 r] w fun e w' => e = .returned (.int .i64 (-1)) ∧ w' = w := by
  have hq : (r == 65533) = false := beq_eq_false_iff_ne.2 hne
  clear hne
  go_enter Tryd.func81, Tryd.ntmps81
  go_wp2_with (go_at_call 98; refine (Tryd.utf8_ValidRune _ _).mono ?_; rintro e w' ⟨rfl, rfl⟩)
  go_ret
  exact ⟨rfl, rfl⟩

set_option maxRecDepth 100000 in
set_option maxHeartbeats 4000000 in
theorem IndexRune_high (s : ByteArray) (r : Int) (w : World) (h1 : 128 ≤ r) (h2 : r ≤ 2147483647) (hA : AsciiL s.data.toList) (hne : r ≠ 65533) (hv : Lib.validRune r = true) :
    Calls Tryd.prog 81 #[.string s, .int .i32 r] w fun e w' => e = .returned (.int .i64 (-1)) ∧ Below w.heap.size w w' := by
  have hq : (r == 65533) = false := beq_eq_false_iff_ne.2 hne
  clear hne
  obtain ⟨r1, r2, r3⟩ := encode_facts r ((validRune_eq r).trans hv) h1
  obtain ⟨rs, hrs⟩ : ∃ rs, Utf8.encode r = rs := ⟨_, rfl⟩
  rw [hrs] at r1 r2 r3
  obtain ⟨n, hn⟩ : ∃ n, rs.size = n := ⟨_, rfl⟩
  have r4 : 128 ≤ (rs[rs.size - 1]'(by omega)).toNat := r3 (by omega)
  obtain ⟨c, hc⟩ : ∃ c, rs[rs.size - 1]'(by omega) = c := ⟨_, rfl⟩
  rw [hc] at r4
  clear r3
  have HA := Lib.hid hA
  clear hA
  go_enter Tryd.func81, Tryd.ntmps81
  go_wp2_with (go_at_call 98; refine (Tryd.utf8_ValidRune _ _).mono ?_; rintro e w' ⟨rfl, rfl⟩)
  refine wp_scope_straight ?_
  go_wp2
  go_loopg [9] 0 (fun _ v9 wx => v9 = .int .i64 ((n : Int) - 1) ∧ wx = w')
  case atStart => exact ⟨rfl, rfl⟩
  case round =>
    obtain ⟨rfl, rfl⟩ := hrel
    have hn1 : 2 ≤ n := by omega
    have hn4 : n ≤ 4 := by omega
    by_cases hlt : (n : Int) - 1 < (s.size : Int)
    · obtain ⟨x, hx⟩ : ∃ x : UInt8, s[n - 1]'(by omega) = x := ⟨_, rfl⟩
      have hx128 : x.toNat < 128 := HA.out (n - 1) x (by rw [← hx]; exact Lib.data_getElem? s (n - 1) (by omega))
      have ht : ((n : Int) - 1).toNat = n - 1 := by omega
      have hni : (((x.toNat : Int)) != (c.toNat : Int)) = true := bne_iff_ne.2 (by omega)
      have hxy : (((x.toNat : Int)) == (c.toNat : Int)) = false := beq_eq_false_iff_ne.2 (by omega)
      have hsz : 0 ≤ (n : Int) - 1 := by omega
      have hi1 : ∀ W, (Instr.index 9 (.string s) (.int .i64 ((n : Int) - 1))).run Tryd.prog W = .ok (.int .u8 x.toNat) W := fun W => by
        rw [run_index_string W _ _ _ _ Tryd.underlying9, dif_pos ⟨hsz, hlt⟩]
        subst hx
        simp only [ht]
      have hi2 : ∀ W, (Instr.index 9 (.string rs) (.int .i64 ((n : Int) - 1))).run Tryd.prog W = .ok (.int .u8 c.toNat) W := fun W => by
        rw [run_index_string W _ _ _ _ Tryd.underlying9, dif_pos ⟨hsz, by omega⟩]
        subst hc hn
        simp only [ht]
      have hsl : ∀ W, (Instr.slice 9 (.string s) (some (.int .i64 (n : Int))) none none).run Tryd.prog W = .ok (.string (s.extract n s.size)) W := fun W => by
        rw [run_slice_string_from_if _ _ _ _ _ Tryd.underlying9, if_pos ⟨by omega, by omega⟩]
        simp only [Int.toNat_natCast]
      have hws : IntKind.i64.wrap (n : Int) = (n : Int) := IntWalk.i64_in _ (by omega)
      have hib : ∀ W, Calls Tryd.prog 97 #[.string (s.extract n s.size), .int .u8 c.toNat] W fun e w' => e = .returned (.int .i64 (-1)) ∧ w' = W := fun W => by
        refine (Tryd.strings_IndexByte _ _ _).mono ?_
        rintro e w' ⟨rfl, rfl⟩
        refine ⟨?_, rfl⟩
        rw [indexByte_high]
        · intro j b hj
          exact HA.out (n + j) b (by rw [Lib.extract_data] at hj; rw [List.getElem?_take, List.getElem?_drop] at hj; split at hj; exact hj; cases hj)
        · simpa using r4
      have HIB := Lib.hid hib
      clear hib hx hc
      go_wp2
      refine wp_scope_straight ?_
      go_wp2
      go_quiet (fail)
      go_wp2
      generalize hW1 : wr.drewN nq = W1
      have HW1 := Lib.hid hW1
      clear hW1
      go_quiet ((go_at_call 97; exact Calls.quiet_of_same (HIB.out _)))
      go_wp2
      simp only [Exit.noGoto_ret, Exit.inBlock, Exit.then]
      go_ret
      exact ⟨rfl, by rw [← HW1.out, World.drewN_drewN]; exact below_drewN _ _⟩
    · go_wp2
      go_ret
      exact ⟨rfl, Below.refl _ _⟩

end Go.Proofs.YtjiokdkgbnakhaaDoor.Own
