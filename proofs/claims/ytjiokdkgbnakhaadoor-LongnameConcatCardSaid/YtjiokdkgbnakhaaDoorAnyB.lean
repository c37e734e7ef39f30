/- strings.ContainsAny at any string and a cutset of two or more ASCII bytes: whether one of the bytes occurs. Conditions: both shorter than 4294967281 bytes. -/
import Derived.Test.YtjiokdkgbnakhaaDoorAny
import Derived.RangeFuncRecord
import Derived.Lib.DecodeN
import Derived.Shelf.Strings.IndexAnyAll
set_option linter.unusedVariables false
set_option linter.unusedSimpArgs false
namespace Go.Proofs.YtjiokdkgbnakhaaDoor.Own
open Go.RowKit

theorem get_pos (s : ByteArray) (i : Nat) (h : i < s.size) : s.get! i = s[i]'h := by
  simp [ByteArray.get!, getElem!_pos, h]
  rfl

/-- the bytes of a rune that begins with a high byte are high, and lie in the string -/
theorem decode_span (s : ByteArray) (pos : Nat) (h : pos < s.size) (ha : 128 ≤ (s[pos]'h).toNat) :
    ∀ j, pos ≤ j → j < pos + (Utf8.decode s pos).2 → ∃ hj : j < s.size, 128 ≤ (s[j]'hj).toNat := by
  intro j h1 h2
  by_cases e0 : j = pos
  · subst e0; exact ⟨h, ha⟩
  have hw : ∀ k, j = pos + k → decide (pos + k < s.size) = true ∧ ((s.get! (pos + k)).toNat / 64 == 2) = true → ∃ hj : j < s.size, 128 ≤ (s[j]'hj).toNat := by
    intro k hk hc
    subst hk
    simp only [decide_eq_true_eq, beq_iff_eq] at hc
    refine ⟨hc.1, ?_⟩
    rw [← get_pos s (pos + k) hc.1]
    omega
  have hn : ¬ (s.get! (pos + 0)).toNat < 128 := by rw [Nat.add_zero, get_pos s pos h]; omega
  simp only [Utf8.decode, hn, if_false] at h2
  split at h2
  · rename_i hc
    simp only [Bool.and_eq_true] at hc
    split at h2
    · exact hw 1 (by simp at h2; omega) hc.2
    · simp at h2; omega
  · split at h2
    · rename_i hc
      simp only [Bool.and_eq_true] at hc
      split at h2
      · simp at h2
        rcases (by omega : j = pos + 1 ∨ j = pos + 2) with e | e
        · exact hw 1 e hc.1.2
        · exact hw 2 e hc.2
      · simp at h2; omega
    · split at h2
      · rename_i hc
        simp only [Bool.and_eq_true] at hc
        split at h2
        · simp at h2
          rcases (by omega : j = pos + 1 ∨ j = pos + 2 ∨ j = pos + 3) with e | e | e
          · exact hw 1 e hc.1.1.2
          · exact hw 2 e hc.1.2
          · exact hw 3 e hc.2
        · simp at h2; omega
      · simp at h2; omega

theorem noAny_span {s chars : List UInt8} {i n : Nat} (h : Lib.NoAny s chars i) (hc : AsciiL chars) (hh : ∀ j b, i ≤ j → j < i + n → s[j]? = some b → 128 ≤ b.toNat) : Lib.NoAny s chars (i + n) := by
  intro j b hj hb
  by_cases e : j < i
  · exact h j b e hb
  · have := hh j b (by omega) hj hb
    cases hx : chars.contains b with
    | false => rfl
    | true =>
      rw [List.contains_iff_mem] at hx
      obtain ⟨q, hq⟩ := List.getElem?_of_mem hx
      have := hc q b hq
      omega

section
variable {P : Program} (W : World) (b : Nat) (s : ByteArray) (pos : Nat) (ty : TypeId)
theorem run_next_in (hW : W.heap[b]? = some (.stringIter s pos)) (h : pos < s.size) :
    (Instr.next (.pointer (some ⟨b, 0, none⟩)) true ty).run P W = .ok (.tuple #[.bool true, .int .i64 pos, .int .i32 (Utf8.decode s pos).1]) (W.putObj b (.stringIter s (pos + (Utf8.decode s pos).2))) := by
  simp only [Instr.next, getObj, setObj, Sem.run_bind, Sem.run, hW, Result.andThen, h, if_true]
  simp [goInt, World.putObj]
theorem run_next_out (hW : W.heap[b]? = some (.stringIter s pos)) (h : ¬ pos < s.size) :
    (Instr.next (.pointer (some ⟨b, 0, none⟩)) true ty).run P W = .ok (.tuple #[.bool false]) W := by
  simp [Instr.next, getObj, Sem.run, hW, h]
end

/-- strings.IndexRune(s, r) where s is ASCII and r is beyond ASCII: -1. -/
theorem IndexRune_ge (s : ByteArray) (r : Int) (w : World) (h1 : 128 ≤ r) (h2 : r ≤ 2147483647) (hA : AsciiL s.data.toList) :
    Calls Tryd.prog 81 #[.string s, .int .i32 r] w fun e w' => e = .returned (.int .i64 (-1)) ∧ Below w.heap.size w w' := by
  by_cases hne : r = 65533
  · subst hne
    exact IndexRune_err s w hA
  · cases hv : Lib.validRune r with
    | true => exact IndexRune_high s r w h1 h2 hA hne hv
    | false => exact (IndexRune_bad s r w h1 h2 hne hv).mono fun e w' ⟨he, hw⟩ => ⟨he, hw ▸ Below.refl _ _⟩

theorem below_put (w : World) (s : ByteArray) (q : Nat) (W : World) (hB : Below w.heap.size w W) : Below w.heap.size w (W.putObj w.heap.size (.stringIter s q)) :=
  hB.trans ⟨rfl, rfl, rfl, by simp, fun k hk => World.putObj_heap_other (by omega)⟩

set_option maxRecDepth 100000 in
set_option maxHeartbeats 4000000 in
theorem IndexAny_short (s chars : ByteArray) (w : World) (h2 : 2 ≤ chars.size) (h8 : s.size ≤ 8) (hA : AsciiL chars.data.toList) :
    Calls Tryd.prog 69 #[.string s, .string chars] w fun e w' => e = .returned (.int .i64 (Lib.indexAny s.data.toList chars.data.toList)) ∧ Below w.heap.size w w' := by
  have hemp : chars.toList.isEmpty = false := by
    rw [Lib.toList_data]
    cases h : chars.data.toList with
    | nil => have := Lib.size_eq chars; rw [h, List.length_nil] at this; omega
    | cons _ _ => rfl
  have hn1 : ((chars.size : Int) == 1) = false := beq_eq_false_iff_ne.2 (by omega)
  have h8z : decide ((8 : Int) < (s.size : Int)) = false := decide_eq_false (by omega)
  have HA := Lib.hid hA
  clear hA
  go_enter Tryd.func69, Tryd.ntmps69
  go_wp2_with (go_at_call 82; refine (Tryd.strings_shouldUseASCIISet _ _).mono ?_; rintro e w' ⟨rfl, hw⟩; rw [hw, h8z])
  go_loopg [9, 10] s.size (fun g _ _ wx => ∃ i : Nat, i + g = s.size ∧ wx.heap[w.heap.size]? = some (.stringIter s i) ∧ Below w.heap.size w wx ∧ w.heap.size < wx.heap.size ∧ Hid (Lib.NoAny s.data.toList chars.data.toList i))
  case atStart => exact ⟨0, by omega, World.iter_heap _ _ _, (Below.refl _ _).alloc (Nat.le_refl _) _, by simp [World.iter], Lib.NoAny.zero _ _⟩
  case round =>
    obtain ⟨i, hig, hheap, hB, hlt, HN⟩ := hrel
    cases gk with
    | zero =>
      obtain rfl : i = s.size := by omega
      have hnx := fun ty => run_next_out (P := Tryd.prog) wr w.heap.size s s.size ty hheap (by omega)
      have HH := Lib.hid hheap
      have HB := Lib.hid hB
      clear hheap hB
      go_wp2
      go_ret
      exact ⟨by rw [Lib.indexAny_none (by rw [← Lib.size_eq]; exact HN.out)]; rfl, HB.out⟩
    | succ g =>
      have hi : i < s.size := by omega
      obtain ⟨x, hx⟩ : ∃ x : UInt8, s[i]'hi = x := ⟨_, rfl⟩
      have hxl : s.data.toList[i]? = some x := by rw [← hx]; exact Lib.data_getElem? s i hi
      have hnx := fun ty => run_next_in (P := Tryd.prog) wr w.heap.size s i ty hheap hi
      have HH := Lib.hid hheap
      have HB := Lib.hid hB
      clear hheap hB
      by_cases h128 : x.toNat < 128
      · have hdec := decode_ascii s i hi (by rw [hx]; exact h128)
        rw [hdec, hx] at hnx
        have Hx := Lib.hid hxl
        clear hxl hx hdec
        have hcon := Lib.contains_iff_indexByte chars.data.toList x
        have hback : ((x.toNat : Int)).toNat.toUInt8 = x := by simp
        generalize hW2 : wr.putObj w.heap.size (.stringIter s (i + 1)) = W2 at hnx
        have HW2 := Lib.hid hW2
        clear hW2
        cases hin : chars.data.toList.contains x
        · rw [hin] at hcon
          have hlt : ¬ ((0 : Int) ≤ Lib.indexByte chars.data.toList x) := of_decide_eq_false hcon.symm
          clear hcon
          go_wp2_with (go_at_call 81; refine (Tryd.strings_IndexRune_ascii _ _ _ (by omega) (by omega)).mono ?_; rintro e w' ⟨rfl, hw⟩; rw [hw, hback])
          go_roundg g
          case measure => omega
          case rel => exact ⟨i + 1, by omega, by rw [← HW2.out]; exact World.putObj_heap_same (by assumption), by rw [← HW2.out]; exact below_put w s _ wr HB.out, by rw [← HW2.out]; simpa using (by assumption : w.heap.size < wr.heap.size), HN.out.succ Hx.out hin⟩
        · rw [hin] at hcon
          have hge : (0 : Int) ≤ Lib.indexByte chars.data.toList x := of_decide_eq_true hcon.symm
          clear hcon
          go_wp2_with (go_at_call 81; refine (Tryd.strings_IndexRune_ascii _ _ _ (by omega) (by omega)).mono ?_; rintro e w' ⟨rfl, hw⟩; rw [hw, hback])
          go_ret
          exact ⟨by rw [Lib.indexAny_hit HN.out Hx.out hin]; rfl, by rw [← HW2.out]; exact below_put w s _ wr HB.out⟩
      · have hhi := decode_high s i hi (by rw [hx]; omega)
        have hle := decode_le s i
        have hsp := decode_span s i hi (by rw [hx]; omega)
        obtain ⟨r, n, hd⟩ : ∃ r n, Utf8.decode s i = (r, n) := ⟨_, _, rfl⟩
        rw [hd] at hnx hhi hle hsp
        simp only at hnx hhi hle hsp
        obtain ⟨hr1, hn1'⟩ := hhi
        have hend : i + n ≤ s.size := by
          have := (hsp (i + n - 1) (by omega) (by omega)).1
          omega
        have HS := Lib.hid hsp
        clear hsp hx hd hxl
        generalize hW2 : wr.putObj w.heap.size (.stringIter s (i + n)) = W2 at hnx
        have HW2 := Lib.hid hW2
        clear hW2
        go_wp2_with (go_at_call 81; refine (IndexRune_ge chars (r : Int) _ (by omega) (by omega) HA.out).mono ?_; rintro e w' ⟨rfl, hb⟩; have HB2 := Lib.hid hb; clear hb)
        go_roundg (s.size - (i + n))
        case measure => omega
        case rel =>
          have hsz : w.heap.size < W2.heap.size := by rw [← HW2.out]; simpa using hlt
          refine ⟨i + n, by omega, (HB2.out.block _ hsz).trans (by rw [← HW2.out]; exact World.putObj_heap_same hlt), (below_put w s (i + n) wr HB.out).trans ?_, Nat.lt_of_lt_of_le hsz HB2.out.size, ?_⟩
          · rw [HW2.out]; exact HB2.out.mono (Nat.le_of_lt hsz)
          · refine noAny_span HN.out HA.out ?_
            intro j b hj1 hj2 hb
            obtain ⟨hj, hh⟩ := HS.out j hj1 hj2
            rw [Lib.data_getElem? s j hj] at hb
            cases hb
            exact hh


/-- strings.IndexAny at any s and an ASCII cutset of two bytes or more. -/
theorem IndexAny_any (s chars : ByteArray) (w : World) (h2 : 2 ≤ chars.size) (hs : s.size < 4294967281) (hcs : chars.size < 4294967281) (hA : AsciiL chars.data.toList) :
    Calls Tryd.prog 69 #[.string s, .string chars] w fun e w' => e = .returned (.int .i64 (Lib.indexAny s.data.toList chars.data.toList)) ∧ Below w.heap.size w w' := by
  by_cases h8 : s.size ≤ 8
  · exact IndexAny_short s chars w h2 h8 hA
  · refine (Tryd.strings_IndexAny_long (zero_of_info (n := 256) (by kernel_rfl)).1 s chars w h2 (by omega) hs hcs hA).mono ?_
    rintro e w' ⟨he, rfl⟩
    exact ⟨he, ((Below.refl _ _).alloc (Nat.le_refl _) _).alloc (by simp) _⟩

def strings_ContainsAny.f (a0 : ByteArray) (a1 : ByteArray) : Option Bool :=
  if a0.size < 4294967281 ∧ 2 ≤ a1.size ∧ a1.size < 4294967281 ∧ a1.data.toList.all (fun b => decide (b.toNat < 128)) = true then some (Lib.containsAny a0.data.toList a1.data.toList) else none
set_option maxHeartbeats 1000000 in
theorem strings_ContainsAny.calls (a0 : ByteArray) (a1 : ByteArray) (r : Bool) (w : World) (h : strings_ContainsAny.f a0 a1 = some r) :
    Calls Tryd.prog 55 #[.string a0, .string a1] w fun e w' => e = .returned (.bool r) ∧ Below w.heap.size w w' := by
  unfold strings_ContainsAny.f at h
  split at h
  · rename_i hc
    obtain ⟨h1, h2, h3, h4⟩ := hc
    cases h
    have hA : AsciiL a1.data.toList := fun j b hb => by
      have := List.all_eq_true.1 h4 b (List.mem_of_getElem? hb)
      simpa using this
    have c := Lib.hid (fun W => IndexAny_any a0 a1 W h2 h1 h3 hA)
    clear h1 h2 h3 h4 hA
    go_enter Tryd.func55, Tryd.ntmps55
    go_wp2_with (go_at_call 69; refine (c.out _).mono ?_; rintro e w' ⟨rfl, hb⟩; have HB := Lib.hid hb; clear hb)
    go_ret
    exact ⟨rfl, HB.out⟩
  · cases h

end Go.Proofs.YtjiokdkgbnakhaaDoor.Own
