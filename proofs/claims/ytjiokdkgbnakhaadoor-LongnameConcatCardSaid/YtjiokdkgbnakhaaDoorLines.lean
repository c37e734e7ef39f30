/- longname.lines, the iterator over a table: the offsets and lines that it yields, for every loop body. -/
import Derived.RangeFuncBox
import Derived.RangeFuncLeaves
import Derived.RangeFuncNested
import Derived.Shelf.Abstract
import Derived.WalkKit
import Derived.OwnWalkIn
import Derived.TacticsInMore
import Derived.LoopNIn
import Derived.LoopIn
import Derived.Maps.AppendAt
import Derived.IntWalk
import Derived.Lib.Hide
import Derived.Lib.IndexLaws
import Derived.Outline
import Derived.Lib.SlBytesConst
import Derived.Lib.IndexMore
import Derived.Test.YtjiokdkgbnakhaaDoorGlob
import Derived.Test.YtjiokdkgbnakhaaDoorShelf
import Derived.Test.YtjiokdkgbnakhaaDoorKx0
set_option linter.unusedVariables false
set_option linter.unusedSimpArgs false
namespace Go.Proofs.YtjiokdkgbnakhaaDoor.Own
open Go.RowKit Go.Shelf Go.Proofs.YtjiokdkgbnakhaaDoor Go.Proofs.YtjiokdkgbnakhaaDoorW.PrintWords Go.Proofs.YtjiokdkgbnakhaaDoorW.PrintLast Go.Proofs.YtjiokdkgbnakhaaDoorW.PrintMore

attribute [local go_sem] Oper.semAt_some

/-! ### the plain side -/
/-- where the next end of a line stands -/
def nextSep (l : List Int) : Int := Lib.index (Lib.bytesOf l) [47, 10]
def linesF : Nat → List Int → Nat → List (Nat × ByteArray)
  | 0, _, _ => []
  | k + 1, l, at_ => if at_ < l.length then
      (if nextSep (l.drop at_) < 0 then [(at_, strOfNums (l.drop at_) ++ ⟨#[47]⟩)]
      else (at_, strOfNums ((l.drop at_).take (nextSep (l.drop at_)).toNat)) :: linesF k l (at_ + (nextSep (l.drop at_)).toNat + 2))
    else []
def linesOf (l : List Int) : List (Nat × ByteArray) := linesF (l.length + 1) l 0
theorem linesF_end (k : Nat) (l : List Int) (a : Nat) (h : ¬ a < l.length) : linesF k l a = [] := by cases k <;> simp [linesF, h]
theorem linesF_last (k : Nat) (l : List Int) (a : Nat) (h : a < l.length) (hn : nextSep (l.drop a) < 0) : linesF (k + 1) l a = [(a, strOfNums (l.drop a) ++ ⟨#[47]⟩)] := by simp [linesF, h, hn]
theorem linesF_more (k : Nat) (l : List Int) (a n : Nat) (h : a < l.length) (hn : nextSep (l.drop a) = n) :
    linesF (k + 1) l a = (a, strOfNums ((l.drop a).take n)) :: linesF k l (a + n + 2) := by
  have h0 : ¬ (n : Int) < 0 := by omega
  simp only [linesF, h, if_true, hn, h0, if_false, Int.toNat_natCast]

/-- what a round keeps: what lay below n₀, and the iterator's own variable -/
def KpT (n₀ Bs tb : Nat) (T : Value) (W W' : World) : Prop := Below n₀ W W' ∧ (W.heap[Bs]? = some (.cells #[T] tb (0, 0)) → W'.heap[Bs]? = some (.cells #[T] tb (0, 0)))
theorem KpT_t {n₀ Bs tb : Nat} {T : Value} {A B C : World} (h : KpT n₀ Bs tb T A B) (k : KpT n₀ Bs tb T B C) : KpT n₀ Bs tb T A C := ⟨h.1.trans k.1, fun e => k.2 (h.2 e)⟩
theorem KpT_b {n₀ Bs tb : Nat} {T : Value} {w : World} (hn : n₀ ≤ w.heap.size) (W : World) (l : Nat) (o o' : Obj) (hl : w.heap.size ≤ l) (h : W.heap[l]? = some o) (hc : o.isCells = false) (hw : o.isWalk = false) : KpT n₀ Bs tb T W (W.putObj l o') :=
  ⟨belowK_b hn W l o o' hl h hc hw, fun e => by
    have hne : Bs ≠ l := by
      rintro rfl
      rw [e] at h
      cases h
      cases hc
    rw [World.putObj_heap_other hne]
    exact e⟩
theorem KpT_refl (n₀ Bs tb : Nat) (T : Value) (W : World) : KpT n₀ Bs tb T W W := ⟨Below.refl _ _, fun e => e⟩
theorem KpT_alloc {n₀ Bs tb : Nat} {T : Value} {W W' : World} (h : KpT n₀ Bs tb T W W') (hn : n₀ ≤ W'.heap.size) (o : Obj) : KpT n₀ Bs tb T W (W'.alloc o) :=
  ⟨h.1.alloc hn o, fun e => by
    have h1 := h.2 e
    rw [Below.heap_alloc _ _ _ (Array.getElem?_eq_some_iff.1 h1).1]
    exact h1⟩
theorem KpT_drewN {n₀ Bs tb : Nat} {T : Value} {W W' : World} (h : KpT n₀ Bs tb T W W') (q : Nat) : KpT n₀ Bs tb T W (W'.drewN q) :=
  ⟨h.1.trans ⟨rfl, rfl, rfl, Nat.le_refl _, fun _ _ => rfl⟩, h.2⟩
theorem grownBy_drewN (W : World) (q : Nat) : W.grownBy (W.drewN q) none := ⟨rfl, rfl, rfl, Nat.le_refl _, fun _ _ _ => rfl⟩
theorem below_drewN' (B : Nat) (W : World) (q : Nat) : Below B W (W.drewN q) := ⟨rfl, rfl, rfl, Nat.le_refl _, fun _ _ => rfl⟩
theorem bytesOf_end : Lib.bytesOf [47, 10] = [47, 10] := rfl
theorem index_lt {l sub : List UInt8} {n : Nat} (h : Lib.index l sub = n) : n + sub.length ≤ l.length := by
  have h0 := Lib.index_room l sub (by omega)
  omega

theorem cell_add_row {w : World} {b t : Nat} {cs : Array Value} {fr : Nat × Nat} (h : w.heap[b]? = some (.cells cs t fr)) (i : Nat) : w.cell? ((⟨b, 0, none⟩ : Addr).add i) = cs[i]? := by
  have e : (⟨b, 0, none⟩ : Addr).add i = ⟨b, i, none⟩ := by
    unfold Addr.add
    by_cases h0 : i = 0
    · subst h0; rfl
    · simp [h0]
  rw [e]
  exact cell_of_row w b i _ _ _ h

theorem cut_read (A : Option Addr) (xs : List Int) (c i n : Nat) (hi : i + n ≤ xs.length) (hlt : i < xs.length) (hc : xs.length ≤ c) (w : World) (hR : (Kd.int .u8).C w A xs.length xs) :
    ReadsInt w .u8 (A.map (fun x => x.add i)) n ((xs.drop i).take n) := by
  have hd := Kd.C_drop (m := i) hR (by omega) hc
  rw [if_neg (by omega)] at hd
  have e1 : (Kd.int .u8).sz = 1 := rfl
  simp only [e1, Nat.mul_one] at hd
  have ht := Kd.C_take (m := n) hd (by simp; omega)
  have := Kd.reads_of_C (enc := Value.int .u8) (d := (0 : Int)) (h1 := fun _ => rfl) ht
  have hl : ((xs.drop i).take n).length = n := by simp; omega
  rw [hl] at this
  exact this
theorem size_strOfNums (xs : List Int) : (strOfNums xs).size = xs.length := by
  rw [Lib.size_eq, ← Lib.toList_data, Lib.strOfNums_toList]
  simp [Lib.bytesOf]

set_option maxRecDepth 100000 in
set_option maxHeartbeats 4000000 in
theorem lines1_in (l Bs n₀ : Nat) (A : Option Addr) (c : Nat) (xs : List Int) (hlen : xs.length ≤ c) (hx4 : xs.length < 4294967281) (hby : ∀ x ∈ xs, 0 ≤ x ∧ x < 256) (J Jx : List (Nat × ByteArray) → World → Prop)
    (hJ : ∀ pre W W', J pre W → W.grownBy W' none → J pre W')
    (hY : ∀ pre x W, J pre W → pre.length < (linesOf xs).length → YieldAt Fence.wide 2 Tryd.prog l #[.int .i64 (x.1 : Int), .string x.2] W fun e W' =>
      (e = .returned (.bool true) ∧ J (pre ++ [x]) W' ∧ KpT n₀ Bs 22 (.slice A xs.length c) W W') ∨ (e = .returned (.bool false) ∧ Jx (pre ++ [x]) W'))
    (W : World) (hn₀ : n₀ ≤ W.heap.size) (hBs : W.heap[Bs]? = some (.cells #[.slice A xs.length c] 22 (0, 0)))
    (hC : ∀ W', Below n₀ W W' → (Kd.int .u8).C W' A xs.length xs) (hM : ∀ W', Below n₀ W W' → Gmaxlen W') (h0 : J [] W) :
    CallsIn Fence.wide 3 Tryd.prog 56 #[.func (.yield l) #[] #[], .pointer (some ⟨Bs, 0, none⟩)] W fun e W' => (∃ v, e = .returned v) ∧
      ((∃ ys, ys = linesOf xs ∧ J ys W') ∨ (∃ pre, pre <+: linesOf xs ∧ Jx pre W')) := by
  obtain ⟨i0, hi, hz0, hz1, hz2⟩ := info_parts K.info5
  have HY := Lib.hid hY
  have HJ := Lib.hid hJ
  have HC := Lib.hid hC
  have HM := Lib.hid hM
  clear hY hJ hC hM
  refine callsIn_of_wp Tryd.func56 rfl trivial ?_ rfl
  simp only [Tryd.ntmps56, List.size_toArray, List.length_cons, List.length_nil, Nat.reduceAdd, Nat.reduceSub, Array.replicate_succ, Array.replicate_zero, List.push_toArray, List.append_toArray, List.nil_append, List.cons_append]
  gi_wp2
  gi_loopw [3] (fun i wr => ∃ (pre : List (Nat × ByteArray)) (k a : Nat), i = .int .i64 (a : Int) ∧ Hid (linesOf xs = pre ++ linesF k xs a) ∧ xs.length < a + k ∧ a ≤ xs.length ∧ J pre wr ∧ KpT n₀ Bs 22 (.slice A xs.length c) W wr ∧ n₀ ≤ wr.heap.size)
    (fun i _ => xs.length - (intOf i).toNat)
  case atStart => exact ⟨[], xs.length + 1, 0, rfl, rfl, by omega, by omega, h0, KpT_refl _ _ _ _ _, hn₀⟩
  case round =>
    obtain ⟨pre, k, a, rfl, HL, hk, hak, hJs, hKp, hnr⟩ := hrel
    have hbx := hKp.2 hBs
    have hcell : wr.cell? ⟨Bs, 0, none⟩ = some (.slice A xs.length c) := cell_of_row wr Bs 0 _ _ _ hbx
    by_cases hlt : a < xs.length
    · obtain ⟨k, rfl⟩ : ∃ m, k = m + 1 := ⟨k - 1, by omega⟩
      obtain ⟨A', hcut, hA'⟩ := print_cut 22 5 .i64 Tryd.underlying22 hi hz1 A xs.length c a hak
      have hR := hA' wr .u8 xs hlen (Kd.reads_of_C (enc := Value.int .u8) (d := (0 : Int)) (h1 := fun _ => rfl) (HC.out wr hKp.1))
      obtain ⟨ad, rfl, hrd⟩ := hR.2.2 (by omega)
      clear hA'
      have HP := Lib.hid hKp
      have HR := Lib.hid hR
      have HX := Lib.hid hbx
      have hidx : Calls Tryd.prog 57 #[.slice (some ad) (xs.length - a) (c - a), .slice (some ⟨wr.heap.size, 0, none⟩) 2 2] (wr.alloc (.cells #[.int .u8 47, .int .u8 10] 5 (2, 3))) fun e w' => e = .returned (.int .i64 (nextSep (xs.drop a))) ∧ ∃ q, w' = (wr.alloc (.cells #[.int .u8 47, .int .u8 10] 5 (2, 3))).drewN q := by
        obtain ⟨m, hm⟩ := (HM.out wr HP.out.1).below (w' := wr.alloc (.cells #[.int .u8 47, .int .u8 10] 5 (2, 3))) ((Below.refl _ _).alloc (Nat.le_refl _) _)
        refine Tryd.bytes_Index_at ad ⟨wr.heap.size, 0, none⟩ _ _ _ _ (xs.drop a) [47, 10] m _ (by simp) rfl (fun x hx => hby x (List.mem_of_mem_drop hx)) (by decide) ?_ ?_ (by omega) (by omega) (by omega) hm
        · intro i hi
          obtain ⟨ad', e1, h2⟩ := HR.out.2.2 (by omega)
          cases e1
          have h3 := h2 i hi
          exact (((Below.refl wr.heap.size wr).alloc (Nat.le_refl _) _).cell (p := ad.add i) (lt_of_cell h3)).trans h3
        · intro i hi
          have hx := World.alloc_heap_new wr (.cells #[.int .u8 47, .int .u8 10] 5 (2, 3))
          rw [cell_add_row hx]
          rcases (by omega : i = 0 ∨ i = 1) with rfl | rfl <;> rfl
      obtain ⟨z, hz⟩ : ∃ z, nextSep (xs.drop a) = z := ⟨_, rfl⟩
      rw [hz] at hidx
      have HZ := Lib.hid hz
      have hidx2 : Calls Tryd.prog 57 #[.slice (some ad) (xs.length - a) (c - a), .slice (some ⟨wr.heap.size, 0, none⟩) 2 2] (wr.alloc (.cells #[.int .u8 47, .int .u8 10] 5 (2, 3))) fun e w' => e = .returned (.int .i64 z) ∧ w'.cell? ⟨Bs, 0, none⟩ = some (.slice A xs.length c) ∧
          Hid (J pre w' ∧ KpT n₀ Bs 22 (.slice A xs.length c) W w' ∧ n₀ ≤ w'.heap.size ∧ ReadsInt w' .u8 (some ad) (xs.length - a) (xs.drop a)) := by
        refine hidx.mono ?_
        rintro e w' ⟨he, q, rfl⟩
        have k2 := KpT_drewN (KpT_alloc HP.out hnr (.cells #[.int .u8 47, .int .u8 10] 5 (2, 3))) q
        refine ⟨he, cell_of_row _ Bs 0 _ _ _ (k2.2 hBs), HJ.out _ _ _ (HJ.out _ _ _ hJs (World.grownBy_alloc _ _ _)) (grownBy_drewN _ _), k2, by simp; omega, ?_⟩
        exact ReadsInt.below HR.out ((Below.refl _ _).alloc (Nat.le_refl _) _ |>.trans (below_drewN' _ _ _))
      have HI := Lib.hid hidx2
      have hpl : pre.length < (linesOf xs).length := by
        rw [HL.out, List.length_append]
        have : 0 < (linesF (k + 1) xs a).length := by
          simp only [linesF, hlt, if_true]
          split <;> simp
        omega
      clear hKp hR hbx hrd hidx hidx2 hby hz hJs
      have kc := fun (w : World) (C : Array Value) (n c : Nat) => Lib.run_convert_bytes_const (P := Tryd.prog) w 22 5 C n c Tryd.underlying22 Tryd.underlying5
      by_cases hneg : z < 0
      · have hss : (strOfNums (xs.drop a)).size + 1 ≤ 9223372036854775807 := by rw [size_strOfNums, List.length_drop]; omega
        gi_wp2_with (refine ⟨trivial, ?_⟩; gi_at_call 57; refine (callsIn_wide.2 HI.out).mono ?_; rintro e w2 ⟨rfl, hc2, HQ⟩; have hstr := string_of_reads (P := Tryd.prog) (src := 22) (dst := 9) (c := c - a) Tryd.underlying22 Tryd.underlying5 Tryd.underlying9 HQ.out.2.2.2; obtain ⟨fn, tmps, assign, body, hy, hR⟩ := HY.out pre (a, strOfNums (xs.drop a) ++ ⟨#[47]⟩) w2 HQ.out.1 hpl; dsimp only at hy; have HRd := Lib.hid hR; clear hR)
        have hall : linesOf xs = pre ++ [(a, strOfNums (xs.drop a) ++ ⟨#[47]⟩)] := by rw [HL.out, linesF_last k xs a hlt (by rw [HZ.out]; exact hneg)]
        have HA := Lib.hid hall
        clear hall
        refine HRd.out.mono ?_
        rintro e W3 (⟨rfl, hJ3, hk3⟩ | ⟨rfl, hJx3⟩)
        · gi_wp2
          refine bodyPost_ret (results_none rfl _ _ _) rfl ?_
          exact ⟨⟨_, rfl⟩, .inl ⟨_, rfl, by rw [HA.out]; exact hJ3⟩⟩
        · gi_wp2
          refine bodyPost_ret (results_none rfl _ _ _) rfl ?_
          exact ⟨⟨_, rfl⟩, .inr ⟨_, ⟨[], by rw [List.append_nil]; exact HA.out.symm⟩, hJx3⟩⟩
      · obtain ⟨n, rfl⟩ := Int.eq_ofNat_of_zero_le (Int.not_lt.1 hneg)
        have hn2 : n + 2 ≤ xs.length - a := by
          have := index_lt (sub := [47, 10]) HZ.out
          simpa [Lib.bytesOf] using this
        gi_wp2_with (refine ⟨trivial, ?_⟩; gi_at_call 57; refine (callsIn_wide.2 HI.out).mono ?_; rintro e w2 ⟨rfl, hc2, HQ⟩; have hstr := string_of_reads (P := Tryd.prog) (src := 22) (dst := 9) (c := c - a) Tryd.underlying22 Tryd.underlying5 Tryd.underlying9 (cut_read A xs c a n (by omega) hlt hlen w2 (HC.out w2 HQ.out.2.1.1)); obtain ⟨fn, tmps, assign, body, hy, hR⟩ := HY.out pre (a, strOfNums ((xs.drop a).take n)) w2 HQ.out.1 hpl; dsimp only at hy; have HRd := Lib.hid hR; clear hR)
        have hall : linesOf xs = pre ++ (a, strOfNums ((xs.drop a).take n)) :: linesF k xs (a + n + 2) := by rw [HL.out, linesF_more k xs a n hlt HZ.out]
        have HA := Lib.hid hall
        clear hall
        refine HRd.out.mono ?_
        rintro e W3 (⟨rfl, hJ3, hk3⟩ | ⟨rfl, hJx3⟩)
        · gi_wp2
          go_roundw
          case rel => exact ⟨pre ++ [(a, strOfNums ((xs.drop a).take n))], k, a + n + 2, by go_num, by rw [List.append_assoc]; exact HA.out, by omega, by omega, hJ3, KpT_t HQ.out.2.1 hk3, Nat.le_trans HQ.out.2.2.1 hk3.1.size⟩
          case measure => simp [intOf]; omega
        · gi_wp2
          refine bodyPost_ret (results_none rfl _ _ _) rfl ?_
          exact ⟨⟨_, rfl⟩, .inr ⟨_, ⟨linesF k xs (a + n + 2), by rw [List.append_assoc]; exact HA.out.symm⟩, hJx3⟩⟩
    · obtain rfl : a = xs.length := by omega
      gi_wp2
      go_end0
      exact ⟨⟨_, rfl⟩, .inl ⟨pre, by rw [HL.out, linesF_end k xs _ (by omega), List.append_nil], hJs⟩⟩

end Go.Proofs.YtjiokdkgbnakhaaDoor.Own
