-- written by a program out of the translation (not trusted: Lean checks it)
import Derived.Test.YtjiokdkgbnakhaaDoorKx0
import Derived.Test.YtjiokdkgbnakhaaDoorKx1
import Derived.Test.YtjiokdkgbnakhaaDoorKx3
import Derived.Test.YtjiokdkgbnakhaaDoorKx4
import Derived.Test.YtjiokdkgbnakhaaDoorAwakeC
import Derived.Test.YtjiokdkgbnakhaaDoorGlob
import Derived.Test.YtjiokdkgbnakhaaDoorResD
namespace Go.Proofs.YtjiokdkgbnakhaaDoor.Own
end Go.Proofs.YtjiokdkgbnakhaaDoor.Own
namespace Go.Proofs.YtjiokdkgbnakhaaDoor.K
open Go.RowKit Go.Proofs.YtjiokdkgbnakhaaDoorW.PrintWords Go.Proofs.YtjiokdkgbnakhaaDoorW.PrintLast Go.Proofs.YtjiokdkgbnakhaaDoorW.PrintMore Go.Proofs.YtjiokdkgbnakhaaDoor.Own
attribute [local go_sem] max2_int min2_int max_two min_two max_three min_three max_four min_four   -- for this text's walks alone
set_option linter.unusedVariables false
set_option linter.unusedSimpArgs false

/-! ### arlinklaw03_LongnameOffsets: function 4 -/
mutual
def arlinklaw03_LongnameOffsets.j0 : Nat → List ByteArray → Int → Bool → Option (Bool)
  | 0, _, _, _ => none
  | k + 1, x0, x1, x17 => if x17 = true then ((arlinklaw03_awake.f).bind fun t132 => (some t132)) else (arlinklaw03_LongnameOffsets.l0 k x0 x1 0)
def arlinklaw03_LongnameOffsets.l0 : Nat → List ByteArray → Int → Int → Option (Bool)
  | 0, _, _, _ => none
  | k + 1, x0, x1, x5 => if x5 < (x0.length : Int) then (if 0 ≤ x5 then ((arlinkref03_Valid.f k (rdOf ByteArray.empty x0 x5)).bind fun t134 => (if t134 = true then (arlinklaw03_LongnameOffsets.l0 k x0 x1 (wrap64 (x5 + 1))) else (some true))) else (none)) else ((arlinkref03_Table.f k x0).bind fun t135 => (if (wrap64 ((t135.length : Int) + 2)) = 0 then (none) else ((arlinkref01_Text.f k (Int.tmod (wrap64 (x1)) (wrap64 ((t135.length : Int) + 2))) 10).bind fun t138 => (if 1 + t138.size ≤ 9223372036854775807 then ((longname_Resolve.f ((⟨#[47]⟩ : ByteArray) ++ t138) t135).bind fun bt139 => (arlinklaw03_LongnameOffsets.l1 k x0 (Int.tmod (wrap64 (x1)) (wrap64 ((t135.length : Int) + 2))) bt139.1 bt139.2 0)) else (none)))))
def arlinklaw03_LongnameOffsets.l1 : Nat → List ByteArray → Int → ByteArray → Int → Int → Option (Bool)
  | 0, _, _, _, _, _ => none
  | k + 1, x0, x7, x8, x9, x10 => if x10 < (x0.length : Int) then (if 0 ≤ x10 then (if x10 ≤ (x0.length : Int) then ((arlinkref03_Table.f k (x0.take (x10 : Int).toNat)).bind fun t142 => (if (t142.length : Int) = x7 then (if x9 = 0 then (some (x8.toList == (rdOf ByteArray.empty x0 x10).toList)) else (some false)) else (arlinklaw03_LongnameOffsets.l1 k x0 x7 x8 x9 (wrap64 (x10 + 1))))) else (none)) else (none)) else (if x9 = 6 then (some (x8.toList == ([] : List UInt8))) else (some false))
end
def arlinklaw03_LongnameOffsets.f (k : Nat) (l0 : List ByteArray) (a1 : Int) : Option (Bool) := (arlinklaw03_awake.f).bind fun t130 => (if t130 = true then ((arlinkref03_Few.f k l0).bind fun t131 => (arlinklaw03_LongnameOffsets.j0 k l0 a1 (!t131))) else (arlinklaw03_LongnameOffsets.j0 k l0 a1 true))
theorem arlinklaw03_LongnameOffsets.mono_l : ∀ k, (∀ y0 y1 y2, LeO (arlinklaw03_LongnameOffsets.j0 k y0 y1 y2) (arlinklaw03_LongnameOffsets.j0 (k + 1) y0 y1 y2)) ∧ (∀ y0 y1 y2, LeO (arlinklaw03_LongnameOffsets.l0 k y0 y1 y2) (arlinklaw03_LongnameOffsets.l0 (k + 1) y0 y1 y2)) ∧ (∀ y0 y1 y2 y3 y4, LeO (arlinklaw03_LongnameOffsets.l1 k y0 y1 y2 y3 y4) (arlinklaw03_LongnameOffsets.l1 (k + 1) y0 y1 y2 y3 y4))
  | 0 => ⟨fun _ _ _ r h => by simp [arlinklaw03_LongnameOffsets.j0] at h, fun _ _ _ r h => by simp [arlinklaw03_LongnameOffsets.l0] at h, fun _ _ _ _ _ r h => by simp [arlinklaw03_LongnameOffsets.l1] at h⟩
  | k + 1 => by
    obtain ⟨ih0, ih1, ih2⟩ := arlinklaw03_LongnameOffsets.mono_l k
    refine ⟨?_, ?_, ?_⟩
    · intro y0 y1 y2
      unfold arlinklaw03_LongnameOffsets.j0
      repeat' first
      | (with_reducible exact ih0 _ _ _)
      | (with_reducible exact ih1 _ _ _)
      | (with_reducible exact ih2 _ _ _ _ _)
      | (with_reducible exact arlinkref01_Text.mono _ _ _)
      | (with_reducible exact arlinkref03_Few.mono _ _)
      | (with_reducible exact arlinkref03_Table.mono _ _)
      | (with_reducible exact arlinkref03_Valid.mono _ _)
      | (with_reducible exact LeO.refl _)
      | (with_reducible exact LeO.none _)
      | (with_reducible refine LeO.ite ?_ ?_)
      | (with_reducible refine LeO.bind ?_ (fun _ => ?_))
      | exact ih0 _ _ _
      | exact ih1 _ _ _
      | exact ih2 _ _ _ _ _
      | exact arlinkref01_Text.mono _ _ _
      | exact arlinkref03_Few.mono _ _
      | exact arlinkref03_Table.mono _ _
      | exact arlinkref03_Valid.mono _ _
      | exact LeO.none _
      | refine LeO.ite ?_ ?_
      | refine LeO.bind ?_ (fun _ => ?_)
    · intro y0 y1 y2
      unfold arlinklaw03_LongnameOffsets.l0
      repeat' first
      | (with_reducible exact ih0 _ _ _)
      | (with_reducible exact ih1 _ _ _)
      | (with_reducible exact ih2 _ _ _ _ _)
      | (with_reducible exact arlinkref01_Text.mono _ _ _)
      | (with_reducible exact arlinkref03_Few.mono _ _)
      | (with_reducible exact arlinkref03_Table.mono _ _)
      | (with_reducible exact arlinkref03_Valid.mono _ _)
      | (with_reducible exact LeO.refl _)
      | (with_reducible exact LeO.none _)
      | (with_reducible refine LeO.ite ?_ ?_)
      | (with_reducible refine LeO.bind ?_ (fun _ => ?_))
      | exact ih0 _ _ _
      | exact ih1 _ _ _
      | exact ih2 _ _ _ _ _
      | exact arlinkref01_Text.mono _ _ _
      | exact arlinkref03_Few.mono _ _
      | exact arlinkref03_Table.mono _ _
      | exact arlinkref03_Valid.mono _ _
      | exact LeO.none _
      | refine LeO.ite ?_ ?_
      | refine LeO.bind ?_ (fun _ => ?_)
    · intro y0 y1 y2 y3 y4
      unfold arlinklaw03_LongnameOffsets.l1
      repeat' first
      | (with_reducible exact ih0 _ _ _)
      | (with_reducible exact ih1 _ _ _)
      | (with_reducible exact ih2 _ _ _ _ _)
      | (with_reducible exact arlinkref01_Text.mono _ _ _)
      | (with_reducible exact arlinkref03_Few.mono _ _)
      | (with_reducible exact arlinkref03_Table.mono _ _)
      | (with_reducible exact arlinkref03_Valid.mono _ _)
      | (with_reducible exact LeO.refl _)
      | (with_reducible exact LeO.none _)
      | (with_reducible refine LeO.ite ?_ ?_)
      | (with_reducible refine LeO.bind ?_ (fun _ => ?_))
      | exact ih0 _ _ _
      | exact ih1 _ _ _
      | exact ih2 _ _ _ _ _
      | exact arlinkref01_Text.mono _ _ _
      | exact arlinkref03_Few.mono _ _
      | exact arlinkref03_Table.mono _ _
      | exact arlinkref03_Valid.mono _ _
      | exact LeO.none _
      | refine LeO.ite ?_ ?_
      | refine LeO.bind ?_ (fun _ => ?_)
theorem arlinklaw03_LongnameOffsets.mono : ∀ a0 a1 k, LeO (arlinklaw03_LongnameOffsets.f k a0 a1) (arlinklaw03_LongnameOffsets.f (k + 1) a0 a1) := by
  intro a0 a1 k
  obtain ⟨ih0, ih1, ih2⟩ := arlinklaw03_LongnameOffsets.mono_l k
  unfold arlinklaw03_LongnameOffsets.f
  repeat' first
      | (with_reducible exact ih0 _ _ _)
      | (with_reducible exact ih1 _ _ _)
      | (with_reducible exact ih2 _ _ _ _ _)
      | (with_reducible exact arlinkref01_Text.mono _ _ _)
      | (with_reducible exact arlinkref03_Few.mono _ _)
      | (with_reducible exact arlinkref03_Table.mono _ _)
      | (with_reducible exact arlinkref03_Valid.mono _ _)
      | (with_reducible exact LeO.refl _)
      | (with_reducible exact LeO.none _)
      | (with_reducible refine LeO.ite ?_ ?_)
      | (with_reducible refine LeO.bind ?_ (fun _ => ?_))
      | exact ih0 _ _ _
      | exact ih1 _ _ _
      | exact ih2 _ _ _ _ _
      | exact arlinkref01_Text.mono _ _ _
      | exact arlinkref03_Few.mono _ _
      | exact arlinkref03_Table.mono _ _
      | exact arlinkref03_Valid.mono _ _
      | exact LeO.none _
      | refine LeO.ite ?_ ?_
      | refine LeO.bind ?_ (fun _ => ?_)
set_option maxHeartbeats 8000000 in
set_option maxRecDepth 100000 in
theorem arlinklaw03_LongnameOffsets.calls (k : Nat) (A0 : Option Addr) (c0 : Nat) (l0 : List ByteArray) (a1 : Int) (r : Bool) (w : World) (hr0 : Kd.C Kd.string w A0 l0.length l0) (hc0 : l0.length ≤ c0) (hGmaxlen : Gmaxlen w) (hGpow10 : Gpow10 w) (h : arlinklaw03_LongnameOffsets.f k l0 a1 = some r) :
    Calls Tryd.prog 4 #[.slice A0 l0.length c0, .int .u16 a1] w fun e w' => e = .returned (.bool r) ∧ Below w.heap.size w w' := by
  have HR0 := Aside0.mk hr0
  have HC0 := Aside0.mk hc0
  clear hr0 hc0
  have HGmaxlen := Aside0.mk hGmaxlen
  clear hGmaxlen
  have HGpow10 := Aside0.mk hGpow10
  clear hGpow10
  have HB := Aside0.mk (Below.refl w.heap.size w)
  have H : ((arlinklaw03_awake.f).bind fun t130 => (if t130 = true then ((arlinkref03_Few.f k l0).bind fun t131 => (arlinklaw03_LongnameOffsets.j0 k l0 a1 (!t131))) else (arlinklaw03_LongnameOffsets.j0 k l0 a1 true))) = some r := h
  clear h
  have HC3 := Aside0.mk H
  clear H
  go_enter Tryd.func4, Tryd.ntmps4
  go_upto_region 1 with (fail)
  go_cut [17] (fun v17 wc => ∃ (kq : Nat) (x17_2 : Bool), v17 = .bool x17_2 ∧ Aside0 (arlinklaw03_LongnameOffsets.j0 kq l0 a1 x17_2 = some r) ∧ Aside0 (kq ≤ k) ∧ Aside0 (Below w.heap.size w wc))
  case first =>
    have H := HC3.out
    clear HC3
    replace H := Option.bind_eq_some_iff.mp H
    obtain ⟨t130, A40, H⟩ := H
    replace H : (if t130 = true then ((arlinkref03_Few.f k l0).bind fun t131 => (arlinklaw03_LongnameOffsets.j0 k l0 a1 (!t131))) else (arlinklaw03_LongnameOffsets.j0 k l0 a1 true)) = some r := H
    have A4 := Aside0.mk A40
    clear A40
    by_cases c5 : t130 = true
    · subst c5
      have H1 : ((arlinkref03_Few.f k l0).bind fun t131 => (arlinklaw03_LongnameOffsets.j0 k l0 a1 (!t131))) = some r := by rw [if_pos rfl] at H; exact H
      clear H
      have H := H1
      clear H1
      replace H := Option.bind_eq_some_iff.mp H
      obtain ⟨t131, A60, H⟩ := H
      replace H : (arlinklaw03_LongnameOffsets.j0 k l0 a1 (!t131)) = some r := H
      have A6 := Aside0.mk A60
      clear A60
      have H' := Aside0.mk H
      clear H
      go_wp2_with (first | ((with_reducible refine gate_callee (f := 12) rfl ?_); refine goesL_ (some 11) rfl rfl Tryd.func12 (by kernel_rfl) rfl #[] rfl (by (try simp only [List.map_toArray, List.map_cons, List.map_nil]); first | done | rfl | (simp only [List.length_drop, List.length_take]; rfl)) ?_; (with_reducible refine (arlinklaw03_awake.calls  true _ ?side1 ?side2 A4.out).mono ?_); (case side1 => exact Gmaxlen.below HGmaxlen.out (by repeat (first | (with_reducible first | exact HB.out | apply below_alloc | apply pw_below_drewN | apply below_drew1) | exact HB.out))); (case side2 => exact Gpow10.below HGpow10.out (by repeat (first | (with_reducible first | exact HB.out | apply below_alloc | apply pw_below_drewN | apply below_drew1) | exact HB.out))); rintro e w7 ⟨rfl, hb⟩; refine ⟨_, rfl, ?_⟩; have n0_ := Aside0.mk (below_step (by repeat (first | (with_reducible first | exact HB.out | apply below_alloc | apply pw_below_drewN | apply below_drew1) | exact HB.out)) hb); clear HB; have HB := n0_; clear n0_; (try clear hb); (try clear hb2); (try clear hk); (try clear hi)) | (go_at_call 16; (with_reducible refine (arlinkref03_Few.calls k _ _ l0 t131 _ ?side1 ?side2 A6.out).mono ?_); (case side1 => repeat (first | exact (Kd.C_below HR0.out HB.out) | (with_reducible refine Kd.C_alloc ?_ _) | (with_reducible refine Kd.C_drewN ?_ _) | (with_reducible refine Kd.C_drew ?_))); (case side2 => exact HC0.out); rintro e w' ⟨rfl, ⟨nd, rfl⟩⟩))
      go_meet
      case rel => exact ⟨_, (!t131), (by first | rfl | (simp; done) | (simp [*]; done)), H', ⟨by first | omega | exact Nat.le_refl _⟩, ⟨by repeat (first | (with_reducible first | exact HB.out | apply below_alloc | apply pw_below_drewN | apply below_drew1) | exact HB.out)⟩⟩
    · replace c5 := Bool.eq_false_iff.mpr c5
      subst c5
      have H1 : (arlinklaw03_LongnameOffsets.j0 k l0 a1 true) = some r := by rw [if_neg (show ¬ (false = true) by decide)] at H; exact H
      clear H
      have H := H1
      clear H1
      have H' := Aside0.mk H
      clear H
      go_wp2_with (first | ((with_reducible refine gate_callee (f := 12) rfl ?_); refine goesL_ (some 11) rfl rfl Tryd.func12 (by kernel_rfl) rfl #[] rfl (by (try simp only [List.map_toArray, List.map_cons, List.map_nil]); first | done | rfl | (simp only [List.length_drop, List.length_take]; rfl)) ?_; (with_reducible refine (arlinklaw03_awake.calls  false _ ?side1 ?side2 A4.out).mono ?_); (case side1 => exact Gmaxlen.below HGmaxlen.out (by repeat (first | (with_reducible first | exact HB.out | apply below_alloc | apply pw_below_drewN | apply below_drew1) | exact HB.out))); (case side2 => exact Gpow10.below HGpow10.out (by repeat (first | (with_reducible first | exact HB.out | apply below_alloc | apply pw_below_drewN | apply below_drew1) | exact HB.out))); rintro e w8 ⟨rfl, hb⟩; refine ⟨_, rfl, ?_⟩; have n0_ := Aside0.mk (below_step (by repeat (first | (with_reducible first | exact HB.out | apply below_alloc | apply pw_below_drewN | apply below_drew1) | exact HB.out)) hb); clear HB; have HB := n0_; clear n0_; (try clear hb); (try clear hb2); (try clear hk); (try clear hi)))
      go_meet
      case rel => exact ⟨_, (true), (by first | rfl | (simp; done) | (simp [*]; done)), H', ⟨by first | omega | exact Nat.le_refl _⟩, ⟨by repeat (first | (with_reducible first | exact HB.out | apply below_alloc | apply pw_below_drewN | apply below_drew1) | exact HB.out)⟩⟩
  case rest =>
    clear HC3
    try clear c1
    try clear p2
    try clear c4
    try clear c5
    obtain ⟨kq, x17_2, rfl, HA, HJ2, HB⟩ := hcut
    cases kq with
    | zero => exact absurd HA.out (by simp [arlinklaw03_LongnameOffsets.j0])
    | succ kj2 =>
      have H := HA.out
      clear HA
      simp only [arlinklaw03_LongnameOffsets.j0] at H
      by_cases c9 : x17_2 = true
      · subst c9
        have H1 : ((arlinklaw03_awake.f).bind fun t132 => (some t132)) = some r := by rw [if_pos rfl] at H; exact H
        clear H
        have H := H1
        clear H1
        replace H := Option.bind_eq_some_iff.mp H
        obtain ⟨t132, A100, H⟩ := H
        replace H : (some t132) = some r := H
        have A10 := Aside0.mk A100
        clear A100
        obtain rfl := Option.some.inj H
        go_wp2_with (first | ((with_reducible refine gate_callee (f := 12) rfl ?_); refine goesL_ (some 18) rfl rfl Tryd.func12 (by kernel_rfl) rfl #[] rfl (by (try simp only [List.map_toArray, List.map_cons, List.map_nil]); first | done | rfl | (simp only [List.length_drop, List.length_take]; rfl)) ?_; (with_reducible refine (arlinklaw03_awake.calls  t132 _ ?side1 ?side2 A10.out).mono ?_); (case side1 => exact Gmaxlen.below HGmaxlen.out (by repeat (first | (with_reducible first | exact HB.out | apply below_alloc | apply pw_below_drewN | apply below_drew1) | exact HB.out))); (case side2 => exact Gpow10.below HGpow10.out (by repeat (first | (with_reducible first | exact HB.out | apply below_alloc | apply pw_below_drewN | apply below_drew1) | exact HB.out))); rintro e w11 ⟨rfl, hb⟩; refine ⟨_, rfl, ?_⟩; have n0_ := Aside0.mk (below_step (by repeat (first | (with_reducible first | exact HB.out | apply below_alloc | apply pw_below_drewN | apply below_drew1) | exact HB.out)) hb); clear HB; have HB := n0_; clear n0_; (try clear hb); (try clear hb2); (try clear hk); (try clear hi)))
        go_ret
        exact ⟨by first | rfl | (simp [errW_none, errW_some] <;> rfl) | (simp [*, errW_none, errW_some] <;> rfl), by repeat (first | (with_reducible first | exact HB.out | apply below_alloc | apply pw_below_drewN | apply below_drew1) | exact HB.out)⟩
      · replace c9 := Bool.eq_false_iff.mpr c9
        subst c9
        have H1 : (arlinklaw03_LongnameOffsets.l0 kj2 l0 a1 0) = some r := by rw [if_neg (show ¬ (false = true) by decide)] at H; exact H
        clear H
        have H := H1
        clear H1
        have H' := Aside0.mk H
        clear H
        go_wp2
        go_loopg [5] kj2 (fun kq v5 w' => ∃ (x5_2 : Int), v5 = .int .i64 x5_2 ∧ Aside0 (arlinklaw03_LongnameOffsets.l0 kq l0 a1 x5_2 = some r) ∧ Aside0 (kq ≤ kj2) ∧ Aside0 (Below w.heap.size w w'))
        case atStart => exact ⟨(0), (by first | rfl | (simp; done) | (simp [*]; done)), H', ⟨Nat.le_refl _⟩, ⟨by repeat (first | (with_reducible first | exact HB.out | apply below_alloc | apply pw_below_drewN | apply below_drew1) | exact HB.out)⟩⟩
        case round =>
          clear H'
          try clear c1
          try clear p2
          try clear c4
          try clear c5
          try clear c9
          try clear p2
          obtain ⟨x5_2, rfl, HA, HK2, HB⟩ := hrel
          cases gk with
          | zero => exact absurd HA.out (by simp [arlinklaw03_LongnameOffsets.l0])
          | succ k2 =>
            have H := HA.out
            clear HA
            simp only [arlinklaw03_LongnameOffsets.l0] at H
            by_cases c12 : x5_2 < (l0.length : Int)
            · rw [if_pos c12] at H
              have c12b0 : decide (x5_2 < (l0.length : Int)) = true := decide_eq_true c12
              clear c12
              by_cases c13 : 0 ≤ x5_2
              · rw [if_pos c13] at H
                have c13b0 : decide (0 ≤ x5_2) = true := decide_eq_true c13
                clear c13
                replace H := Option.bind_eq_some_iff.mp H
                obtain ⟨t134, A140, H⟩ := H
                replace H : (if t134 = true then (arlinklaw03_LongnameOffsets.l0 k2 l0 a1 (wrap64 (x5_2 + 1))) else (some true)) = some r := H
                have A14 := Aside0.mk A140
                clear A140
                by_cases c15 : t134 = true
                · subst c15
                  have H1 : (arlinklaw03_LongnameOffsets.l0 k2 l0 a1 (wrap64 (x5_2 + 1))) = some r := by rw [if_pos rfl] at H; exact H
                  clear H
                  have H := H1
                  clear H1
                  have H' := Aside0.mk H
                  clear H
                  have p133 : 0 ≤ (x5_2 : Int) := of_decide_eq_true (by first | (with_reducible assumption) | assumption)
                  have q133 : x5_2 < (l0.length : Int) := of_decide_eq_true (by first | (with_reducible assumption) | assumption)
                  obtain ⟨ad133, e133, hx133_0⟩ := Kd.at_string HR0.out x5_2 p133 q133
                  cases e133
                  replace hx133_0 := (HB.out.cell (World.block_lt_of_cell? w _ hx133_0)).trans hx133_0
                  replace p133 := eq_true p133
                  replace q133 := eq_true q133
                  go_wp2_with (first | ((with_reducible refine gate_callee (f := 17) rfl ?_); refine goesL_ (some 29) rfl rfl Tryd.func17 (by kernel_rfl) rfl #[.string (rdOf ByteArray.empty l0 x5_2)] rfl (by (try simp only [List.map_toArray, List.map_cons, List.map_nil]); first | done | rfl | (simp only [List.length_drop, List.length_take]; rfl)) ?_; (with_reducible refine (arlinkref03_Valid.calls k2 (rdOf ByteArray.empty l0 x5_2) true _ A14.out).mono ?_); rintro e w' ⟨rfl, ⟨nd, rfl⟩⟩; refine ⟨_, rfl, ?_⟩))
                  go_roundg k2
                  case measure => have := HJ2.out; have := HK2.out; omega
                  case rel => exact ⟨(wrap64 (x5_2 + 1)), (by first | rfl | (simp; done) | (simp [*]; done)), H', ⟨by have := HJ2.out; have := HK2.out; omega⟩, ⟨by repeat (first | (with_reducible first | exact HB.out | apply below_alloc | apply pw_below_drewN | apply below_drew1) | exact HB.out)⟩⟩
                · replace c15 := Bool.eq_false_iff.mpr c15
                  subst c15
                  have H1 : (some true) = some r := by rw [if_neg (show ¬ (false = true) by decide)] at H; exact H
                  clear H
                  have H := H1
                  clear H1
                  obtain rfl := Option.some.inj H
                  have p133 : 0 ≤ (x5_2 : Int) := of_decide_eq_true (by first | (with_reducible assumption) | assumption)
                  have q133 : x5_2 < (l0.length : Int) := of_decide_eq_true (by first | (with_reducible assumption) | assumption)
                  obtain ⟨ad133, e133, hx133_0⟩ := Kd.at_string HR0.out x5_2 p133 q133
                  cases e133
                  replace hx133_0 := (HB.out.cell (World.block_lt_of_cell? w _ hx133_0)).trans hx133_0
                  replace p133 := eq_true p133
                  replace q133 := eq_true q133
                  go_wp2_with (first | ((with_reducible refine gate_callee (f := 17) rfl ?_); refine goesL_ (some 29) rfl rfl Tryd.func17 (by kernel_rfl) rfl #[.string (rdOf ByteArray.empty l0 x5_2)] rfl (by (try simp only [List.map_toArray, List.map_cons, List.map_nil]); first | done | rfl | (simp only [List.length_drop, List.length_take]; rfl)) ?_; (with_reducible refine (arlinkref03_Valid.calls k2 (rdOf ByteArray.empty l0 x5_2) false _ A14.out).mono ?_); rintro e w' ⟨rfl, ⟨nd, rfl⟩⟩; refine ⟨_, rfl, ?_⟩))
                  go_ret
                  exact ⟨by first | rfl | (simp [errW_none, errW_some] <;> rfl) | (simp [*, errW_none, errW_some] <;> rfl), by repeat (first | (with_reducible first | exact HB.out | apply below_alloc | apply pw_below_drewN | apply below_drew1) | exact HB.out)⟩
              · rw [if_neg c13] at H
                exact absurd H (by simp)
            · rw [if_neg c12] at H
              have c12b0 : decide (x5_2 < (l0.length : Int)) = false := decide_eq_false c12
              clear c12
              replace H := Option.bind_eq_some_iff.mp H
              obtain ⟨t135, A160, H⟩ := H
              replace H : (if (wrap64 ((t135.length : Int) + 2)) = 0 then (none) else ((arlinkref01_Text.f k2 (Int.tmod (wrap64 (a1)) (wrap64 ((t135.length : Int) + 2))) 10).bind fun t138 => (if 1 + t138.size ≤ 9223372036854775807 then ((longname_Resolve.f ((⟨#[47]⟩ : ByteArray) ++ t138) t135).bind fun bt139 => (arlinklaw03_LongnameOffsets.l1 k2 l0 (Int.tmod (wrap64 (a1)) (wrap64 ((t135.length : Int) + 2))) bt139.1 bt139.2 0)) else (none)))) = some r := H
              have A16 := Aside0.mk A160
              clear A160
              by_cases c17 : (wrap64 ((t135.length : Int) + 2)) = 0
              · rw [if_pos c17] at H
                exact absurd H (by simp)
              · rw [if_neg c17] at H
                have c17b0 : ((wrap64 ((t135.length : Int) + 2)) == 0) = false := beq_eq_false_iff_ne.mpr c17
                have c17b1 : ((wrap64 ((t135.length : Int) + 2)) != 0) = true := bne_iff_ne.mpr c17
                replace H := Option.bind_eq_some_iff.mp H
                obtain ⟨t138, A180, H⟩ := H
                replace H : (if 1 + t138.size ≤ 9223372036854775807 then ((longname_Resolve.f ((⟨#[47]⟩ : ByteArray) ++ t138) t135).bind fun bt139 => (arlinklaw03_LongnameOffsets.l1 k2 l0 (Int.tmod (wrap64 (a1)) (wrap64 ((t135.length : Int) + 2))) bt139.1 bt139.2 0)) else (none)) = some r := H
                have A18 := Aside0.mk A180
                clear A180
                by_cases c19 : 1 + t138.size ≤ 9223372036854775807
                · rw [if_pos c19] at H
                  have c19b0 := eq_true c19
                  have c19b1 : decide (1 + t138.size ≤ 9223372036854775807) = true := decide_eq_true c19
                  try have c19b2 : (9223372036854775807 < 1 + t138.size) = False := eq_false (Nat.not_lt.2 c19)
                  replace H := Option.bind_eq_some_iff.mp H
                  obtain ⟨⟨t139, t140⟩, A200, H⟩ := H
                  replace H : (arlinklaw03_LongnameOffsets.l1 k2 l0 (Int.tmod (wrap64 (a1)) (wrap64 ((t135.length : Int) + 2))) t139 t140 0) = some r := H
                  have A20 := Aside0.mk A200
                  clear A200
                  have H' := Aside0.mk H
                  clear H
                  go_wp2_with (first | ((with_reducible refine gate_callee (f := 15) rfl ?_); refine goesL_ (some 32) rfl rfl Tryd.func15 (by kernel_rfl) rfl #[.slice A0 l0.length c0] rfl (by (try simp only [List.map_toArray, List.map_cons, List.map_nil]); first | done | rfl | (simp only [List.length_drop, List.length_take]; rfl)) ?_; (with_reducible refine (arlinkref03_Table.calls k2 _ _ l0 t135 _ ?side1 ?side2 A16.out).mono ?_); (case side1 => repeat (first | exact (Kd.C_below HR0.out HB.out) | (with_reducible refine Kd.C_alloc ?_ _) | (with_reducible refine Kd.C_drewN ?_ _) | (with_reducible refine Kd.C_drew ?_))); (case side2 => exact HC0.out); rintro e w21 ⟨v136, rfl, ho0, hb⟩; refine ⟨_, rfl, ?_⟩; have n0_ := Aside0.mk (Kd.R_lower ho0 (below_size (by repeat (first | (with_reducible first | exact HB.out | apply below_alloc | apply pw_below_drewN | apply below_drew1) | exact HB.out)))); have n1_ := Aside0.mk (below_step (by repeat (first | (with_reducible first | exact HB.out | apply below_alloc | apply pw_below_drewN | apply below_drew1) | exact HB.out)) hb); clear HB; have HO137 := n0_; have HB := n1_; clear n0_ n1_; (try clear hb); (try clear hb2); (try clear hk); (try clear hi); (try clear ho0); obtain ⟨Ao22, co22, eo22⟩ := Kd.R_slice HO137.out; subst eo22) | ((with_reducible refine gate_callee (f := 19) rfl ?_); refine goesL_ (some 41) rfl rfl Tryd.func19 (by kernel_rfl) rfl #[.int .i64 (Int.tmod (wrap64 (a1)) (wrap64 ((t135.length : Int) + 2))), .int .i64 10] rfl (by (try simp only [List.map_toArray, List.map_cons, List.map_nil]); first | done | rfl | (simp only [List.length_drop, List.length_take]; rfl)) ?_; (with_reducible refine (arlinkref01_Text.calls k2 (Int.tmod (wrap64 (a1)) (wrap64 ((t135.length : Int) + 2))) 10 t138 _ A18.out).mono ?_); rintro e w' ⟨rfl, ⟨nd, rfl⟩⟩; refine ⟨_, rfl, ?_⟩) | ((with_reducible refine gate_callee (f := 18) rfl ?_); refine goesL_ (some 44) rfl rfl Tryd.func18 (by kernel_rfl) rfl #[.string ((⟨#[47]⟩ : ByteArray) ++ t138), .slice Ao22 t135.length co22] rfl (by (try simp only [List.map_toArray, List.map_cons, List.map_nil]); first | done | rfl | (simp only [List.length_drop, List.length_take]; rfl)) ?_; (with_reducible refine (longname_Resolve.calls ((⟨#[47]⟩ : ByteArray) ++ t138) _ _ t135 t139 t140 _ ?side1 ?side2 ?side3 A20.out).mono ?_); (case side1 => repeat (first | exact (Kd.R_reads' HO137.out).2.2 | (with_reducible refine Kd.C_alloc ?_ _) | (with_reducible refine Kd.C_drewN ?_ _) | (with_reducible refine Kd.C_drew ?_))); (case side2 => exact (Kd.R_reads' HO137.out).2.1); (case side3 => exact Gmaxlen.below HGmaxlen.out (by repeat (first | (with_reducible first | exact HB.out | apply below_alloc | apply pw_below_drewN | apply below_drew1) | exact HB.out))); rintro e w23 ⟨rfl, hb⟩; refine ⟨_, rfl, ?_⟩; have n0_ := Aside0.mk (Kd.R_below (by (with_reducible repeat (first | apply Kd.R_alloc | apply Kd.R_drewN | apply Kd.R_drew)); exact HO137.out) hb); have n1_ := Aside0.mk (below_step (by repeat (first | (with_reducible first | exact HB.out | apply below_alloc | apply pw_below_drewN | apply below_drew1) | exact HB.out)) hb); clear HO137; clear HB; have HO137 := n0_; have HB := n1_; clear n0_ n1_; (try clear hb); (try clear hb2); (try clear hk); (try clear hi)))
                  go_loopg [10] k2 (fun kq v10 w' => ∃ (x10_3 : Int), v10 = .int .i64 x10_3 ∧ Aside0 (arlinklaw03_LongnameOffsets.l1 kq l0 (Int.tmod (wrap64 (a1)) (wrap64 ((t135.length : Int) + 2))) t139 t140 x10_3 = some r) ∧ Aside0 (kq ≤ k2) ∧ Aside0 (Below w.heap.size w w'))
                  case atStart => exact ⟨(0), (by first | rfl | (simp; done) | (simp [*]; done)), H', ⟨Nat.le_refl _⟩, ⟨by repeat (first | (with_reducible first | exact HB.out | apply below_alloc | apply pw_below_drewN | apply below_drew1) | exact HB.out)⟩⟩
                  case round =>
                    clear H'
                    try clear c1
                    try clear p1
                    try clear q1
                    try clear hx1
                    try clear p2
                    try clear c4
                    try clear c5
                    try clear p6
                    try clear c9
                    try clear c12
                    try clear c12b0
                    try clear c13
                    try clear c13b0
                    try clear p13
                    try clear q13
                    try clear hx13
                    try clear c15
                    try clear c17
                    try clear c17b0
                    try clear c17b1
                    try clear c18
                    try clear c19
                    try clear c19b0
                    try clear c19b1
                    try clear c19b2
                    try clear hx133_0
                    try clear p133
                    try clear p2
                    try clear q133
                    obtain ⟨x10_3, rfl, HA, HK3, HB⟩ := hrel
                    cases gk with
                    | zero => exact absurd HA.out (by simp [arlinklaw03_LongnameOffsets.l1])
                    | succ k3 =>
                      have H := HA.out
                      clear HA
                      simp only [arlinklaw03_LongnameOffsets.l1] at H
                      by_cases c24 : x10_3 < (l0.length : Int)
                      · rw [if_pos c24] at H
                        have c24b0 : decide (x10_3 < (l0.length : Int)) = true := decide_eq_true c24
                        clear c24
                        by_cases c25 : 0 ≤ x10_3
                        · rw [if_pos c25] at H
                          have c25b0 := eq_true c25
                          have c25b1 : decide (0 ≤ x10_3) = true := decide_eq_true c25
                          clear c25
                          by_cases c26 : x10_3 ≤ (l0.length : Int)
                          · rw [if_pos c26] at H
                            have c26b0 := eq_true c26
                            have c26b1 : decide (x10_3 ≤ (l0.length : Int)) = true := decide_eq_true c26
                            clear c26
                            replace H := Option.bind_eq_some_iff.mp H
                            obtain ⟨t142, A270, H⟩ := H
                            replace H : (if (t142.length : Int) = (Int.tmod (wrap64 (a1)) (wrap64 ((t135.length : Int) + 2))) then (if t140 = 0 then (some (t139.toList == (rdOf ByteArray.empty l0 x10_3).toList)) else (some false)) else (arlinklaw03_LongnameOffsets.l1 k3 l0 (Int.tmod (wrap64 (a1)) (wrap64 ((t135.length : Int) + 2))) t139 t140 (wrap64 (x10_3 + 1)))) = some r := H
                            have A27 := Aside0.mk A270
                            clear A270
                            by_cases c28 : (t142.length : Int) = (Int.tmod (wrap64 (a1)) (wrap64 ((t135.length : Int) + 2)))
                            · rw [if_pos c28] at H
                              have c28b0 : ((t142.length : Int) == (Int.tmod (wrap64 (a1)) (wrap64 ((t135.length : Int) + 2)))) = true := beq_iff_eq.mpr c28
                              have c28b1 : ((t142.length : Int) != (Int.tmod (wrap64 (a1)) (wrap64 ((t135.length : Int) + 2)))) = false := bne_eq_false_iff_eq.mpr c28
                              clear c28
                              by_cases c29 : t140 = 0
                              · rw [if_pos c29] at H
                                have c29b0 : (t140 == 0) = true := beq_iff_eq.mpr c29
                                have c29b1 : (t140 != 0) = false := bne_eq_false_iff_eq.mpr c29
                                clear c29
                                obtain rfl := Option.some.inj H
                                obtain ⟨i030, hi030, _, hsz30, _⟩ := info_parts info9
                                obtain ⟨hcut30, hA30, hC30⟩ := print_take_of (P := Tryd.prog) Value.string (⟨#[]⟩ : ByteArray) 24 9 .i64 Tryd.underlying24 hi030 hsz30 A0 c0 l0 x10_3 (of_decide_eq_true (by first | (with_reducible assumption) | assumption)) (of_decide_eq_true (by first | (with_reducible assumption) | assumption)) HC0.out
                                have HR141 := Aside0.mk (Kd.C_of_reads (h1 := fun _ => rfl) (hA30 _ (Kd.reads_of_C HR0.out)))
                                have HC141 := Aside0.mk hC30
                                clear hA30 hC30 hi030 hsz30
                                go_wp2_with (first | ((with_reducible refine gate_callee (f := 15) rfl ?_); refine goesL_ (some 56) rfl rfl Tryd.func15 (by kernel_rfl) rfl #[.slice A0 (l0.take (x10_3 : Int).toNat).length c0] rfl (by (try simp only [List.map_toArray, List.map_cons, List.map_nil]); first | done | (rw [show (l0.take (x10_3 : Int).toNat).length = x10_3.toNat from (by rw [List.length_take]; have h_ : (x10_3 : Int) ≤ (l0.length : Int) := of_decide_eq_true (by first | (with_reducible assumption) | assumption); omega)] <;> rfl) | rfl | (simp only [List.length_drop, List.length_take]; rfl)) ?_; (with_reducible refine (arlinkref03_Table.calls k3 _ _ (l0.take (x10_3 : Int).toNat) t142 _ ?side1 ?side2 A27.out).mono ?_); (case side1 => repeat (first | exact (Kd.C_below HR141.out HB.out) | (with_reducible refine Kd.C_alloc ?_ _) | (with_reducible refine Kd.C_drewN ?_ _) | (with_reducible refine Kd.C_drew ?_))); (case side2 => exact HC141.out); rintro e w31 ⟨v143, rfl, ho0, hb⟩; refine ⟨_, rfl, ?_⟩; have n0_ := Aside0.mk (Kd.R_lower ho0 (below_size (by repeat (first | (with_reducible first | exact HB.out | apply below_alloc | apply pw_below_drewN | apply below_drew1) | exact HB.out)))); have n1_ := Aside0.mk (below_step (by repeat (first | (with_reducible first | exact HB.out | apply below_alloc | apply pw_below_drewN | apply below_drew1) | exact HB.out)) hb); clear HB; have HO144 := n0_; have HB := n1_; clear n0_ n1_; (try clear hb); (try clear hb2); (try clear hk); (try clear hi); (try clear ho0); obtain ⟨Ao32, co32, eo32⟩ := Kd.R_slice HO144.out; subst eo32; have p145 : 0 ≤ (x10_3 : Int) := of_decide_eq_true (by first | (with_reducible assumption) | assumption); have q145 : x10_3 < (l0.length : Int) := of_decide_eq_true (by first | (with_reducible assumption) | assumption); obtain ⟨ad145, e145, hx145_0⟩ := Kd.at_string HR0.out x10_3 p145 q145; cases e145; replace hx145_0 := (HB.out.cell (World.block_lt_of_cell? w _ hx145_0)).trans hx145_0; replace p145 := eq_true p145; replace q145 := eq_true q145))
                                go_ret
                                exact ⟨by first | rfl | (simp [errW_none, errW_some] <;> rfl) | (simp [*, errW_none, errW_some] <;> rfl), by repeat (first | (with_reducible first | exact HB.out | apply below_alloc | apply pw_below_drewN | apply below_drew1) | exact HB.out)⟩
                              · rw [if_neg c29] at H
                                have c29b0 : (t140 == 0) = false := beq_eq_false_iff_ne.mpr c29
                                have c29b1 : (t140 != 0) = true := bne_iff_ne.mpr c29
                                obtain rfl := Option.some.inj H
                                obtain ⟨i033, hi033, _, hsz33, _⟩ := info_parts info9
                                obtain ⟨hcut33, hA33, hC33⟩ := print_take_of (P := Tryd.prog) Value.string (⟨#[]⟩ : ByteArray) 24 9 .i64 Tryd.underlying24 hi033 hsz33 A0 c0 l0 x10_3 (of_decide_eq_true (by first | (with_reducible assumption) | assumption)) (of_decide_eq_true (by first | (with_reducible assumption) | assumption)) HC0.out
                                have HR141 := Aside0.mk (Kd.C_of_reads (h1 := fun _ => rfl) (hA33 _ (Kd.reads_of_C HR0.out)))
                                have HC141 := Aside0.mk hC33
                                clear hA33 hC33 hi033 hsz33
                                go_wp2_with (first | ((with_reducible refine gate_callee (f := 15) rfl ?_); refine goesL_ (some 56) rfl rfl Tryd.func15 (by kernel_rfl) rfl #[.slice A0 (l0.take (x10_3 : Int).toNat).length c0] rfl (by (try simp only [List.map_toArray, List.map_cons, List.map_nil]); first | done | (rw [show (l0.take (x10_3 : Int).toNat).length = x10_3.toNat from (by rw [List.length_take]; have h_ : (x10_3 : Int) ≤ (l0.length : Int) := of_decide_eq_true (by first | (with_reducible assumption) | assumption); omega)] <;> rfl) | rfl | (simp only [List.length_drop, List.length_take]; rfl)) ?_; (with_reducible refine (arlinkref03_Table.calls k3 _ _ (l0.take (x10_3 : Int).toNat) t142 _ ?side1 ?side2 A27.out).mono ?_); (case side1 => repeat (first | exact (Kd.C_below HR141.out HB.out) | (with_reducible refine Kd.C_alloc ?_ _) | (with_reducible refine Kd.C_drewN ?_ _) | (with_reducible refine Kd.C_drew ?_))); (case side2 => exact HC141.out); rintro e w34 ⟨v143, rfl, ho0, hb⟩; refine ⟨_, rfl, ?_⟩; have n0_ := Aside0.mk (Kd.R_lower ho0 (below_size (by repeat (first | (with_reducible first | exact HB.out | apply below_alloc | apply pw_below_drewN | apply below_drew1) | exact HB.out)))); have n1_ := Aside0.mk (below_step (by repeat (first | (with_reducible first | exact HB.out | apply below_alloc | apply pw_below_drewN | apply below_drew1) | exact HB.out)) hb); clear HB; have HO144 := n0_; have HB := n1_; clear n0_ n1_; (try clear hb); (try clear hb2); (try clear hk); (try clear hi); (try clear ho0); obtain ⟨Ao35, co35, eo35⟩ := Kd.R_slice HO144.out; subst eo35))
                                go_ret
                                exact ⟨by first | rfl | (simp [errW_none, errW_some] <;> rfl) | (simp [*, errW_none, errW_some] <;> rfl), by repeat (first | (with_reducible first | exact HB.out | apply below_alloc | apply pw_below_drewN | apply below_drew1) | exact HB.out)⟩
                            · rw [if_neg c28] at H
                              have c28b0 : ((t142.length : Int) == (Int.tmod (wrap64 (a1)) (wrap64 ((t135.length : Int) + 2)))) = false := beq_eq_false_iff_ne.mpr c28
                              have c28b1 : ((t142.length : Int) != (Int.tmod (wrap64 (a1)) (wrap64 ((t135.length : Int) + 2)))) = true := bne_iff_ne.mpr c28
                              have H' := Aside0.mk H
                              clear H
                              obtain ⟨i036, hi036, _, hsz36, _⟩ := info_parts info9
                              obtain ⟨hcut36, hA36, hC36⟩ := print_take_of (P := Tryd.prog) Value.string (⟨#[]⟩ : ByteArray) 24 9 .i64 Tryd.underlying24 hi036 hsz36 A0 c0 l0 x10_3 (of_decide_eq_true (by first | (with_reducible assumption) | assumption)) (of_decide_eq_true (by first | (with_reducible assumption) | assumption)) HC0.out
                              have HR141 := Aside0.mk (Kd.C_of_reads (h1 := fun _ => rfl) (hA36 _ (Kd.reads_of_C HR0.out)))
                              have HC141 := Aside0.mk hC36
                              clear hA36 hC36 hi036 hsz36
                              go_wp2_with (first | ((with_reducible refine gate_callee (f := 15) rfl ?_); refine goesL_ (some 56) rfl rfl Tryd.func15 (by kernel_rfl) rfl #[.slice A0 (l0.take (x10_3 : Int).toNat).length c0] rfl (by (try simp only [List.map_toArray, List.map_cons, List.map_nil]); first | done | (rw [show (l0.take (x10_3 : Int).toNat).length = x10_3.toNat from (by rw [List.length_take]; have h_ : (x10_3 : Int) ≤ (l0.length : Int) := of_decide_eq_true (by first | (with_reducible assumption) | assumption); omega)] <;> rfl) | rfl | (simp only [List.length_drop, List.length_take]; rfl)) ?_; (with_reducible refine (arlinkref03_Table.calls k3 _ _ (l0.take (x10_3 : Int).toNat) t142 _ ?side1 ?side2 A27.out).mono ?_); (case side1 => repeat (first | exact (Kd.C_below HR141.out HB.out) | (with_reducible refine Kd.C_alloc ?_ _) | (with_reducible refine Kd.C_drewN ?_ _) | (with_reducible refine Kd.C_drew ?_))); (case side2 => exact HC141.out); rintro e w37 ⟨v143, rfl, ho0, hb⟩; refine ⟨_, rfl, ?_⟩; have n0_ := Aside0.mk (Kd.R_lower ho0 (below_size (by repeat (first | (with_reducible first | exact HB.out | apply below_alloc | apply pw_below_drewN | apply below_drew1) | exact HB.out)))); have n1_ := Aside0.mk (below_step (by repeat (first | (with_reducible first | exact HB.out | apply below_alloc | apply pw_below_drewN | apply below_drew1) | exact HB.out)) hb); clear HB; have HO144 := n0_; have HB := n1_; clear n0_ n1_; (try clear hb); (try clear hb2); (try clear hk); (try clear hi); (try clear ho0); obtain ⟨Ao38, co38, eo38⟩ := Kd.R_slice HO144.out; subst eo38))
                              go_roundg k3
                              case measure => have := HJ2.out; have := HK2.out; have := HK3.out; omega
                              case rel => exact ⟨(wrap64 (x10_3 + 1)), (by first | rfl | (simp; done) | (simp [*]; done)), H', ⟨by have := HJ2.out; have := HK2.out; have := HK3.out; omega⟩, ⟨by repeat (first | (with_reducible first | exact HB.out | apply below_alloc | apply pw_below_drewN | apply below_drew1) | exact HB.out)⟩⟩
                          · rw [if_neg c26] at H
                            exact absurd H (by simp)
                        · rw [if_neg c25] at H
                          exact absurd H (by simp)
                      · rw [if_neg c24] at H
                        have c24b0 : decide (x10_3 < (l0.length : Int)) = false := decide_eq_false c24
                        clear c24
                        by_cases c39 : t140 = 6
                        · rw [if_pos c39] at H
                          have c39b0 : (t140 == 6) = true := beq_iff_eq.mpr c39
                          have c39b1 : (t140 != 6) = false := bne_eq_false_iff_eq.mpr c39
                          clear c39
                          obtain rfl := Option.some.inj H
                          go_wp2
                          go_ret
                          exact ⟨by first | rfl | (simp [errW_none, errW_some] <;> rfl) | (simp [*, errW_none, errW_some] <;> rfl), by repeat (first | (with_reducible first | exact HB.out | apply below_alloc | apply pw_below_drewN | apply below_drew1) | exact HB.out)⟩
                        · rw [if_neg c39] at H
                          have c39b0 : (t140 == 6) = false := beq_eq_false_iff_ne.mpr c39
                          have c39b1 : (t140 != 6) = true := bne_iff_ne.mpr c39
                          obtain rfl := Option.some.inj H
                          go_wp2
                          go_ret
                          exact ⟨by first | rfl | (simp [errW_none, errW_some] <;> rfl) | (simp [*, errW_none, errW_some] <;> rfl), by repeat (first | (with_reducible first | exact HB.out | apply below_alloc | apply pw_below_drewN | apply below_drew1) | exact HB.out)⟩
                · rw [if_neg c19] at H
                  exact absurd H (by simp)

end Go.Proofs.YtjiokdkgbnakhaaDoor.K
