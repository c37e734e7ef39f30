-- written by a program out of the translation (not trusted: Lean checks it)
import Derived.Test.YtjiokdkgbnakhaaDoorKx0
import Derived.Test.YtjiokdkgbnakhaaDoorAnyB
import Derived.Test.YtjiokdkgbnakhaaDoorGlob
import Derived.Test.YtjiokdkgbnakhaaDoorItoa
namespace Go.Proofs.YtjiokdkgbnakhaaDoor.Own
end Go.Proofs.YtjiokdkgbnakhaaDoor.Own
namespace Go.Proofs.YtjiokdkgbnakhaaDoor.K
open Go.RowKit Go.Proofs.YtjiokdkgbnakhaaDoorW.PrintWords Go.Proofs.YtjiokdkgbnakhaaDoorW.PrintLast Go.Proofs.YtjiokdkgbnakhaaDoorW.PrintMore Go.Proofs.YtjiokdkgbnakhaaDoor.Own
attribute [local go_sem] max2_int min2_int max_two min_two max_three min_three max_four min_four   -- for this text's walks alone
set_option linter.unusedVariables false
set_option linter.unusedSimpArgs false

/-! ### longname_Valid: function 35 -/
def longname_Valid.f (a0 : ByteArray) : Option (Bool) := if (a0.size : Int) ≥ 1 then (if (a0.size : Int) ≤ 255 then ((strings_ContainsAny.f a0 (⟨#[47, 10, 0]⟩ : ByteArray)).bind fun t146 => (some (!t146))) else (some false)) else (some false)
set_option maxHeartbeats 8000000 in
set_option maxRecDepth 100000 in
theorem longname_Valid.calls (a0 : ByteArray) (r : Bool) (w : World) (h : longname_Valid.f a0 = some r) :
    Calls Tryd.prog 35 #[.string a0] w fun e w' => e = .returned (.bool r) ∧ Below w.heap.size w w' := by
  have HB := Aside0.mk (Below.refl w.heap.size w)
  have H : (if (a0.size : Int) ≥ 1 then (if (a0.size : Int) ≤ 255 then ((strings_ContainsAny.f a0 (⟨#[47, 10, 0]⟩ : ByteArray)).bind fun t146 => (some (!t146))) else (some false)) else (some false)) = some r := h
  clear h
  by_cases c2 : (a0.size : Int) ≥ 1
  · rw [if_pos c2] at H
    have c2b0 : decide (1 ≤ (a0.size : Int)) = true := decide_eq_true c2
    have c2b1 : decide (1 ≤ a0.size) = true := decide_eq_true (by omega)
    clear c2
    by_cases c3 : (a0.size : Int) ≤ 255
    · rw [if_pos c3] at H
      have c3b0 : decide ((a0.size : Int) ≤ 255) = true := decide_eq_true c3
      have c3b1 : decide (a0.size ≤ 255) = true := decide_eq_true (by omega)
      clear c3
      replace H := Option.bind_eq_some_iff.mp H
      obtain ⟨t146, A40, H⟩ := H
      replace H : (some (!t146)) = some r := H
      have A4 := Aside0.mk A40
      clear A40
      obtain rfl := Option.some.inj H
      go_enter Tryd.func35, Tryd.ntmps35
      go_wp2_with (first | (go_at_call 55; (with_reducible refine (strings_ContainsAny.calls a0 (⟨#[47, 10, 0]⟩ : ByteArray) t146 _ A4.out).mono ?_); rintro e w5 ⟨rfl, hb⟩; have n0_ := Aside0.mk (below_step (by repeat (first | (with_reducible first | exact HB.out | apply below_alloc | apply pw_below_drewN | apply below_drew1) | exact HB.out)) hb); clear HB; have HB := n0_; clear n0_; (try clear hb); (try clear hb2); (try clear hk); (try clear hi)))
      go_ret
      exact ⟨by first | rfl | (simp [errW_none, errW_some] <;> rfl) | (simp [*, errW_none, errW_some] <;> rfl), by repeat (first | (with_reducible first | exact HB.out | apply below_alloc | apply pw_below_drewN | apply below_drew1) | exact HB.out)⟩
    · rw [if_neg c3] at H
      have c3b0 : decide ((a0.size : Int) ≤ 255) = false := decide_eq_false c3
      have c3b1 : decide (a0.size ≤ 255) = false := decide_eq_false (by omega)
      clear c3
      obtain rfl := Option.some.inj H
      go_enter Tryd.func35, Tryd.ntmps35
      go_wp2
      go_ret
      exact ⟨by first | rfl | (simp [errW_none, errW_some] <;> rfl) | (simp [*, errW_none, errW_some] <;> rfl), by repeat (first | (with_reducible first | exact HB.out | apply below_alloc | apply pw_below_drewN | apply below_drew1) | exact HB.out)⟩
  · rw [if_neg c2] at H
    have c2b0 : decide (1 ≤ (a0.size : Int)) = false := decide_eq_false c2
    have c2b1 : decide (1 ≤ a0.size) = false := decide_eq_false (by omega)
    clear c2
    obtain rfl := Option.some.inj H
    go_enter Tryd.func35, Tryd.ntmps35
    go_wp2
    go_ret
    exact ⟨by first | rfl | (simp [errW_none, errW_some] <;> rfl) | (simp [*, errW_none, errW_some] <;> rfl), by repeat (first | (with_reducible first | exact HB.out | apply below_alloc | apply pw_below_drewN | apply below_drew1) | exact HB.out)⟩

/-! ### longname_Short: function 36 -/
def longname_Short.f (a0 : ByteArray) : Option (Bool) := (longname_Valid.f a0).bind fun t147 => (if t147 = true then (if (a0.size : Int) ≤ 15 then (if 0 ≤ (wrap64 ((a0.size : Int) - 1)) then (if (wrap64 ((a0.size : Int) - 1)) < (a0.size : Int) then (some ((bt a0 (wrap64 ((a0.size : Int) - 1))) != 32)) else (none)) else (none)) else (some false)) else (some false))
set_option maxHeartbeats 8000000 in
set_option maxRecDepth 100000 in
theorem longname_Short.calls (a0 : ByteArray) (r : Bool) (w : World) (h : longname_Short.f a0 = some r) :
    Calls Tryd.prog 36 #[.string a0] w fun e w' => e = .returned (.bool r) ∧ Below w.heap.size w w' := by
  have HB := Aside0.mk (Below.refl w.heap.size w)
  have H : ((longname_Valid.f a0).bind fun t147 => (if t147 = true then (if (a0.size : Int) ≤ 15 then (if 0 ≤ (wrap64 ((a0.size : Int) - 1)) then (if (wrap64 ((a0.size : Int) - 1)) < (a0.size : Int) then (some ((bt a0 (wrap64 ((a0.size : Int) - 1))) != 32)) else (none)) else (none)) else (some false)) else (some false))) = some r := h
  clear h
  replace H := Option.bind_eq_some_iff.mp H
  obtain ⟨t147, A20, H⟩ := H
  replace H : (if t147 = true then (if (a0.size : Int) ≤ 15 then (if 0 ≤ (wrap64 ((a0.size : Int) - 1)) then (if (wrap64 ((a0.size : Int) - 1)) < (a0.size : Int) then (some ((bt a0 (wrap64 ((a0.size : Int) - 1))) != 32)) else (none)) else (none)) else (some false)) else (some false)) = some r := H
  have A2 := Aside0.mk A20
  clear A20
  by_cases c3 : t147 = true
  · subst c3
    have H1 : (if (a0.size : Int) ≤ 15 then (if 0 ≤ (wrap64 ((a0.size : Int) - 1)) then (if (wrap64 ((a0.size : Int) - 1)) < (a0.size : Int) then (some ((bt a0 (wrap64 ((a0.size : Int) - 1))) != 32)) else (none)) else (none)) else (some false)) = some r := by rw [if_pos rfl] at H; exact H
    clear H
    have H := H1
    clear H1
    by_cases c4 : (a0.size : Int) ≤ 15
    · rw [if_pos c4] at H
      have c4b0 : decide ((a0.size : Int) ≤ 15) = true := decide_eq_true c4
      have c4b1 : decide (a0.size ≤ 15) = true := decide_eq_true (by omega)
      clear c4
      obtain ⟨ji5, hji5⟩ : ∃ j_ : Int, (wrap64 ((a0.size : Int) - 1)) = j_ := ⟨_, rfl⟩
      replace H : (if 0 ≤ (ji5) then (if (ji5) < (a0.size : Int) then (some ((bt a0 (ji5)) != 32)) else (none)) else (none)) = some r := by first | (rw [hji5] at H; exact H) | (simp only [hji5] at H ⊢; exact H)
      (try rw [hji5] at A2)
      have hji5w : (IntKind.i64.wrap ((a0.size : Int) - 1)) = ji5 := (i64_w _).trans hji5
      by_cases c6 : 0 ≤ (ji5)
      · rw [if_pos c6] at H
        have c6b0 : decide (0 ≤ (ji5)) = true := decide_eq_true c6
        clear c6
        by_cases c7 : (ji5) < (a0.size : Int)
        · rw [if_pos c7] at H
          have c7b0 : decide ((ji5) < (a0.size : Int)) = true := decide_eq_true c7
          clear c7
          obtain rfl := Option.some.inj H
          go_enter Tryd.func36, Tryd.ntmps36
          go_wp2_with (first | ((with_reducible refine gate_callee (f := 35) rfl ?_); refine goesL_ (some 4) rfl rfl Tryd.func35 (by kernel_rfl) rfl #[.string a0] rfl (by (try simp only [List.map_toArray, List.map_cons, List.map_nil]); first | done | rfl | (simp only [List.length_drop, List.length_take]; rfl)) ?_; (with_reducible refine (longname_Valid.calls a0 true _ A2.out).mono ?_); rintro e w9 ⟨rfl, hb⟩; refine ⟨_, rfl, ?_⟩; have n0_ := Aside0.mk (below_step (by repeat (first | (with_reducible first | exact HB.out | apply below_alloc | apply pw_below_drewN | apply below_drew1) | exact HB.out)) hb); clear HB; have HB := n0_; clear n0_; (try clear hb); (try clear hb2); (try clear hk); (try clear hi); have p8 : 0 ≤ ((ji5) : Int) := of_decide_eq_true (by first | (with_reducible assumption) | assumption); have q8 : (ji5) < (a0.size : Int) := of_decide_eq_true (by first | (with_reducible assumption) | assumption); have hx8 := bt_at a0 (ji5); replace p8 := eq_true p8; replace q8 := eq_true q8))
          go_ret
          exact ⟨by first | rfl | (simp [errW_none, errW_some] <;> rfl) | (simp only [← hji5]; first | rfl | (simp [errW_none, errW_some] <;> rfl)) | (simp [*, errW_none, errW_some] <;> rfl), by repeat (first | (with_reducible first | exact HB.out | apply below_alloc | apply pw_below_drewN | apply below_drew1) | exact HB.out)⟩
        · rw [if_neg c7] at H
          exact absurd H (by simp)
      · rw [if_neg c6] at H
        exact absurd H (by simp)
    · rw [if_neg c4] at H
      have c4b0 : decide ((a0.size : Int) ≤ 15) = false := decide_eq_false c4
      have c4b1 : decide (a0.size ≤ 15) = false := decide_eq_false (by omega)
      clear c4
      obtain rfl := Option.some.inj H
      go_enter Tryd.func36, Tryd.ntmps36
      go_wp2_with (first | ((with_reducible refine gate_callee (f := 35) rfl ?_); refine goesL_ (some 4) rfl rfl Tryd.func35 (by kernel_rfl) rfl #[.string a0] rfl (by (try simp only [List.map_toArray, List.map_cons, List.map_nil]); first | done | rfl | (simp only [List.length_drop, List.length_take]; rfl)) ?_; (with_reducible refine (longname_Valid.calls a0 true _ A2.out).mono ?_); rintro e w10 ⟨rfl, hb⟩; refine ⟨_, rfl, ?_⟩; have n0_ := Aside0.mk (below_step (by repeat (first | (with_reducible first | exact HB.out | apply below_alloc | apply pw_below_drewN | apply below_drew1) | exact HB.out)) hb); clear HB; have HB := n0_; clear n0_; (try clear hb); (try clear hb2); (try clear hk); (try clear hi)))
      go_ret
      exact ⟨by first | rfl | (simp [errW_none, errW_some] <;> rfl) | (simp [*, errW_none, errW_some] <;> rfl), by repeat (first | (with_reducible first | exact HB.out | apply below_alloc | apply pw_below_drewN | apply below_drew1) | exact HB.out)⟩
  · replace c3 := Bool.eq_false_iff.mpr c3
    subst c3
    have H1 : (some false) = some r := by rw [if_neg (show ¬ (false = true) by decide)] at H; exact H
    clear H
    have H := H1
    clear H1
    obtain rfl := Option.some.inj H
    go_enter Tryd.func36, Tryd.ntmps36
    go_wp2_with (first | ((with_reducible refine gate_callee (f := 35) rfl ?_); refine goesL_ (some 4) rfl rfl Tryd.func35 (by kernel_rfl) rfl #[.string a0] rfl (by (try simp only [List.map_toArray, List.map_cons, List.map_nil]); first | done | rfl | (simp only [List.length_drop, List.length_take]; rfl)) ?_; (with_reducible refine (longname_Valid.calls a0 false _ A2.out).mono ?_); rintro e w11 ⟨rfl, hb⟩; refine ⟨_, rfl, ?_⟩; have n0_ := Aside0.mk (below_step (by repeat (first | (with_reducible first | exact HB.out | apply below_alloc | apply pw_below_drewN | apply below_drew1) | exact HB.out)) hb); clear HB; have HB := n0_; clear n0_; (try clear hb); (try clear hb2); (try clear hk); (try clear hi)))
    go_ret
    exact ⟨by first | rfl | (simp [errW_none, errW_some] <;> rfl) | (simp [*, errW_none, errW_some] <;> rfl), by repeat (first | (with_reducible first | exact HB.out | apply below_alloc | apply pw_below_drewN | apply below_drew1) | exact HB.out)⟩

/-! ### longname_Build: function 20 -/
def longname_Build.l0 : Nat → List Int → List ByteArray → List ByteArray → Int → Int → Option (List Int × List ByteArray × Int)
  | 0, _, _, _, _, _ => none
  | k + 1, x2, x3, x7, x8, x9 => if x9 < x8 then (if 0 ≤ x9 then (if x9 < (x7.length : Int) then ((longname_Valid.f (rdOf ByteArray.empty x7 x9)).bind fun t149 => (if t149 = true then ((longname_Short.f (rdOf ByteArray.empty x7 x9)).bind fun t150 => (if t150 = true then (if (rdOf ByteArray.empty x7 x9).size + 1 ≤ 9223372036854775807 then (if x3.length < 8796093022208 then (longname_Build.l0 k x2 (x3 ++ [(rdOf ByteArray.empty x7 x9) ++ (⟨#[47]⟩ : ByteArray)]) x7 x8 (wrap64 (x9 + 1))) else (none)) else (none)) else ((strconv_Itoa.f (x2.length : Int)).bind fun t154 => (if 1 + t154.size ≤ 9223372036854775807 then (if x3.length < 8796093022208 then (if x2.length + (rdOf ByteArray.empty x7 x9).size < 140737488355328 then ((some (x2 ++ bytesOf (rdOf ByteArray.empty x7 x9) : List Int)).bind fun y158 => (if y158.length + 2 < 140737488355328 then (longname_Build.l0 k (y158 ++ bytesOf (⟨#[47, 10]⟩ : ByteArray)) (x3 ++ [(⟨#[47]⟩ : ByteArray) ++ t154]) x7 x8 (wrap64 (x9 + 1))) else (none))) else (none)) else (none)) else (none))))) else (some (([] : List Int), ([] : List ByteArray), 6)))) else (none)) else (none)) else (some (x2, x3, 0))
def longname_Build.f (k : Nat) (l0 : List ByteArray) : Option (List Int × List ByteArray × Int) := longname_Build.l0 k ([] : List Int) ([] : List ByteArray) l0 (l0.length : Int) 0
theorem longname_Build.mono_l : ∀ k, (∀ y0 y1 y2 y3 y4, LeO (longname_Build.l0 k y0 y1 y2 y3 y4) (longname_Build.l0 (k + 1) y0 y1 y2 y3 y4))
  | 0 => fun _ _ _ _ _ r h => by simp [longname_Build.l0] at h
  | k + 1 => by
    have ih0 := longname_Build.mono_l k
    · intro y0 y1 y2 y3 y4
      unfold longname_Build.l0
      repeat' first
      | (with_reducible exact ih0 _ _ _ _ _)
      | (with_reducible exact LeO.refl _)
      | (with_reducible exact LeO.none _)
      | (with_reducible refine LeO.ite ?_ ?_)
      | (with_reducible refine LeO.bind ?_ (fun _ => ?_))
      | exact ih0 _ _ _ _ _
      | exact LeO.none _
      | refine LeO.ite ?_ ?_
      | refine LeO.bind ?_ (fun _ => ?_)
theorem longname_Build.mono : ∀ a0 k, LeO (longname_Build.f k a0) (longname_Build.f (k + 1) a0) := by
  intro a0 k
  have ih0 := longname_Build.mono_l k
  unfold longname_Build.f
  repeat' first
      | (with_reducible exact ih0 _ _ _ _ _)
      | (with_reducible exact LeO.refl _)
      | (with_reducible exact LeO.none _)
      | (with_reducible refine LeO.ite ?_ ?_)
      | (with_reducible refine LeO.bind ?_ (fun _ => ?_))
      | exact ih0 _ _ _ _ _
      | exact LeO.none _
      | refine LeO.ite ?_ ?_
      | refine LeO.bind ?_ (fun _ => ?_)
set_option maxHeartbeats 8000000 in
set_option maxRecDepth 100000 in
theorem longname_Build.calls (k : Nat) (A0 : Option Addr) (c0 : Nat) (l0 : List ByteArray) (r1 : List Int) (r2 : List ByteArray) (r3 : Int) (w : World) (hr0 : Kd.C Kd.string w A0 l0.length l0) (hc0 : l0.length ≤ c0) (hGpow10 : Gpow10 w) (h : longname_Build.f k l0 = some (r1, r2, r3)) :
    Calls Tryd.prog 20 #[.slice A0 l0.length c0] w fun e w' => ∃ v0_ v1_ : Value, e = .returned (.tuple #[v0_, v1_, .int .i64 r3]) ∧ Kd.R (Kd.int .u8) 5 w' w.heap.size (fun _ => True) v0_ r1 ∧ Kd.R Kd.string 9 w' w.heap.size (fun _ => True) v1_ r2 ∧ Below w.heap.size w w' := by
  have HR0 := Aside0.mk hr0
  have HC0 := Aside0.mk hc0
  clear hr0 hc0
  have HGpow10 := Aside0.mk hGpow10
  clear hGpow10
  have HB := Aside0.mk (Below.refl w.heap.size w)
  have H : (longname_Build.l0 k ([] : List Int) ([] : List ByteArray) l0 (l0.length : Int) 0) = some (r1, r2, r3) := h
  clear h
  have H' := Aside0.mk H
  clear H
  go_enter Tryd.func20, Tryd.ntmps20
  go_wp2
  go_loopg [2, 3, 9] k (fun kq v2 v3 v9 w' => ∃ (x2_1 : List Int) (x3_1 : List ByteArray) (x9_1 : Int), v9 = .int .i64 x9_1 ∧ Aside0 (longname_Build.l0 kq x2_1 x3_1 l0 (l0.length : Int) x9_1 = some (r1, r2, r3)) ∧ Aside0 (kq ≤ k) ∧ Aside0 (Kd.R (Kd.int .u8) 5 w' w.heap.size (fun _ => True) v2 x2_1) ∧ Aside0 (Kd.R Kd.string 9 w' w.heap.size (fun _ => True) v3 x3_1) ∧ Aside0 (Below w.heap.size w w'))
  case atStart => exact ⟨(([] : List Int)), (([] : List ByteArray)), (0), (by first | rfl | (simp; done) | (simp [*]; done)), H', ⟨Nat.le_refl _⟩, ⟨by first | exact Kd.R_nil _ _ _ _ _ | exact Kd.N_nil _ _ _ _ _ | exact Kd.V_nil _ _ _ _ _ | exact Kd.Q_nil _ _ _ _ _ | exact Kd.S_nil _ _ _ _ _⟩, ⟨by first | exact Kd.R_nil _ _ _ _ _ | exact Kd.N_nil _ _ _ _ _ | exact Kd.V_nil _ _ _ _ _ | exact Kd.Q_nil _ _ _ _ _ | exact Kd.S_nil _ _ _ _ _⟩, ⟨by repeat (first | (with_reducible first | exact HB.out | apply below_alloc | apply pw_below_drewN | apply below_drew1) | exact HB.out)⟩⟩
  case round =>
    clear H'
    obtain ⟨x2_1, x3_1, x9_1, rfl, HA, HK1, HO_2, HO_3, HB⟩ := hrel
    cases gk with
    | zero => exact absurd HA.out (by simp [longname_Build.l0])
    | succ k1 =>
      have H := HA.out
      clear HA
      simp only [longname_Build.l0] at H
      by_cases c2 : x9_1 < (l0.length : Int)
      · rw [if_pos c2] at H
        have c2b0 : decide (x9_1 < (l0.length : Int)) = true := decide_eq_true c2
        clear c2
        by_cases c3 : 0 ≤ x9_1
        · rw [if_pos c3] at H
          have c3b0 : decide (0 ≤ x9_1) = true := decide_eq_true c3
          clear c3
          by_cases c4 : x9_1 < (l0.length : Int)
          · rw [if_pos c4] at H
            have c4b0 : decide (x9_1 < (l0.length : Int)) = true := decide_eq_true c4
            clear c4
            replace H := Option.bind_eq_some_iff.mp H
            obtain ⟨t149, A50, H⟩ := H
            replace H : (if t149 = true then ((longname_Short.f (rdOf ByteArray.empty l0 x9_1)).bind fun t150 => (if t150 = true then (if (rdOf ByteArray.empty l0 x9_1).size + 1 ≤ 9223372036854775807 then (if x3_1.length < 8796093022208 then (longname_Build.l0 k1 x2_1 (x3_1 ++ [(rdOf ByteArray.empty l0 x9_1) ++ (⟨#[47]⟩ : ByteArray)]) l0 (l0.length : Int) (wrap64 (x9_1 + 1))) else (none)) else (none)) else ((strconv_Itoa.f (x2_1.length : Int)).bind fun t154 => (if 1 + t154.size ≤ 9223372036854775807 then (if x3_1.length < 8796093022208 then (if x2_1.length + (rdOf ByteArray.empty l0 x9_1).size < 140737488355328 then ((some (x2_1 ++ bytesOf (rdOf ByteArray.empty l0 x9_1) : List Int)).bind fun y158 => (if y158.length + 2 < 140737488355328 then (longname_Build.l0 k1 (y158 ++ bytesOf (⟨#[47, 10]⟩ : ByteArray)) (x3_1 ++ [(⟨#[47]⟩ : ByteArray) ++ t154]) l0 (l0.length : Int) (wrap64 (x9_1 + 1))) else (none))) else (none)) else (none)) else (none))))) else (some (([] : List Int), ([] : List ByteArray), 6))) = some (r1, r2, r3) := H
            have A5 := Aside0.mk A50
            clear A50
            by_cases c6 : t149 = true
            · subst c6
              have H1 : ((longname_Short.f (rdOf ByteArray.empty l0 x9_1)).bind fun t150 => (if t150 = true then (if (rdOf ByteArray.empty l0 x9_1).size + 1 ≤ 9223372036854775807 then (if x3_1.length < 8796093022208 then (longname_Build.l0 k1 x2_1 (x3_1 ++ [(rdOf ByteArray.empty l0 x9_1) ++ (⟨#[47]⟩ : ByteArray)]) l0 (l0.length : Int) (wrap64 (x9_1 + 1))) else (none)) else (none)) else ((strconv_Itoa.f (x2_1.length : Int)).bind fun t154 => (if 1 + t154.size ≤ 9223372036854775807 then (if x3_1.length < 8796093022208 then (if x2_1.length + (rdOf ByteArray.empty l0 x9_1).size < 140737488355328 then ((some (x2_1 ++ bytesOf (rdOf ByteArray.empty l0 x9_1) : List Int)).bind fun y158 => (if y158.length + 2 < 140737488355328 then (longname_Build.l0 k1 (y158 ++ bytesOf (⟨#[47, 10]⟩ : ByteArray)) (x3_1 ++ [(⟨#[47]⟩ : ByteArray) ++ t154]) l0 (l0.length : Int) (wrap64 (x9_1 + 1))) else (none))) else (none)) else (none)) else (none))))) = some (r1, r2, r3) := by rw [if_pos rfl] at H; exact H
              clear H
              have H := H1
              clear H1
              replace H := Option.bind_eq_some_iff.mp H
              obtain ⟨t150, A70, H⟩ := H
              replace H : (if t150 = true then (if (rdOf ByteArray.empty l0 x9_1).size + 1 ≤ 9223372036854775807 then (if x3_1.length < 8796093022208 then (longname_Build.l0 k1 x2_1 (x3_1 ++ [(rdOf ByteArray.empty l0 x9_1) ++ (⟨#[47]⟩ : ByteArray)]) l0 (l0.length : Int) (wrap64 (x9_1 + 1))) else (none)) else (none)) else ((strconv_Itoa.f (x2_1.length : Int)).bind fun t154 => (if 1 + t154.size ≤ 9223372036854775807 then (if x3_1.length < 8796093022208 then (if x2_1.length + (rdOf ByteArray.empty l0 x9_1).size < 140737488355328 then ((some (x2_1 ++ bytesOf (rdOf ByteArray.empty l0 x9_1) : List Int)).bind fun y158 => (if y158.length + 2 < 140737488355328 then (longname_Build.l0 k1 (y158 ++ bytesOf (⟨#[47, 10]⟩ : ByteArray)) (x3_1 ++ [(⟨#[47]⟩ : ByteArray) ++ t154]) l0 (l0.length : Int) (wrap64 (x9_1 + 1))) else (none))) else (none)) else (none)) else (none)))) = some (r1, r2, r3) := H
              have A7 := Aside0.mk A70
              clear A70
              by_cases c8 : t150 = true
              · subst c8
                have H1 : (if (rdOf ByteArray.empty l0 x9_1).size + 1 ≤ 9223372036854775807 then (if x3_1.length < 8796093022208 then (longname_Build.l0 k1 x2_1 (x3_1 ++ [(rdOf ByteArray.empty l0 x9_1) ++ (⟨#[47]⟩ : ByteArray)]) l0 (l0.length : Int) (wrap64 (x9_1 + 1))) else (none)) else (none)) = some (r1, r2, r3) := by rw [if_pos rfl] at H; exact H
                clear H
                have H := H1
                clear H1
                by_cases c9 : (rdOf ByteArray.empty l0 x9_1).size + 1 ≤ 9223372036854775807
                · rw [if_pos c9] at H
                  have c9b0 := eq_true c9
                  have c9b1 : decide ((rdOf ByteArray.empty l0 x9_1).size + 1 ≤ 9223372036854775807) = true := decide_eq_true c9
                  try have c9b2 : (9223372036854775807 < (rdOf ByteArray.empty l0 x9_1).size + 1) = False := eq_false (Nat.not_lt.2 c9)
                  by_cases c10 : x3_1.length < 8796093022208
                  · rw [if_pos c10] at H
                    have LMc10 := Aside0.mk c10
                    clear c10
                    obtain ⟨y151, hy151⟩ : ∃ y_ : List ByteArray, y_ = (x3_1 ++ [(rdOf ByteArray.empty l0 x9_1) ++ (⟨#[47]⟩ : ByteArray)]) := ⟨_, rfl⟩
                    replace H : (longname_Build.l0 k1 x2_1 y151 l0 (l0.length : Int) (wrap64 (x9_1 + 1))) = some (r1, r2, r3) := by first | (rw [hy151]; with_reducible exact H) | (have H2_ := (Option.bind_some _ _).symm.trans H; rw [hy151]; with_reducible exact H2_) | (have H2_ := (Option.bind_some _ _).symm.trans H; with_reducible exact H2_) | with_reducible exact H | (rw [hy151]; exact H) | exact H
                    have Ny151 := Aside0.mk hy151
                    clear hy151
                    have H' := Aside0.mk H
                    clear H
                    have p148 : 0 ≤ (x9_1 : Int) := of_decide_eq_true (by first | (with_reducible assumption) | assumption)
                    have q148 : x9_1 < (l0.length : Int) := of_decide_eq_true (by first | (with_reducible assumption) | assumption)
                    obtain ⟨ad148, e148, hx148_0⟩ := Kd.at_string HR0.out x9_1 p148 q148
                    cases e148
                    replace hx148_0 := (HB.out.cell (World.block_lt_of_cell? w _ hx148_0)).trans hx148_0
                    replace p148 := eq_true p148
                    replace q148 := eq_true q148
                    go_wp2_with (first | ((with_reducible refine gate_callee (f := 35) rfl ?_); refine goesL_ (some 26) rfl rfl Tryd.func35 (by kernel_rfl) rfl #[.string (rdOf ByteArray.empty l0 x9_1)] rfl (by (try simp only [List.map_toArray, List.map_cons, List.map_nil]); first | done | rfl | (simp only [List.length_drop, List.length_take]; rfl)) ?_; (with_reducible refine (longname_Valid.calls (rdOf ByteArray.empty l0 x9_1) true _ A5.out).mono ?_); rintro e w11 ⟨rfl, hb⟩; refine ⟨_, rfl, ?_⟩; have n0_ := Aside0.mk (Kd.R_below (by (with_reducible repeat (first | apply Kd.R_alloc | apply Kd.R_drewN | apply Kd.R_drew)); exact HO_2.out) hb); have n1_ := Aside0.mk (Kd.R_below (by (with_reducible repeat (first | apply Kd.R_alloc | apply Kd.R_drewN | apply Kd.R_drew)); exact HO_3.out) hb); have n2_ := Aside0.mk (below_step (by repeat (first | (with_reducible first | exact HB.out | apply below_alloc | apply pw_below_drewN | apply below_drew1) | exact HB.out)) hb); clear HO_2; clear HO_3; clear HB; have HO_2 := n0_; have HO_3 := n1_; have HB := n2_; clear n0_ n1_ n2_; (try clear hb); (try clear hb2); (try clear hk); (try clear hi)) | ((with_reducible refine gate_callee (f := 36) rfl ?_); refine goesL_ (some 30) rfl rfl Tryd.func36 (by kernel_rfl) rfl #[.string (rdOf ByteArray.empty l0 x9_1)] rfl (by (try simp only [List.map_toArray, List.map_cons, List.map_nil]); first | done | rfl | (simp only [List.length_drop, List.length_take]; rfl)) ?_; (with_reducible refine (longname_Short.calls (rdOf ByteArray.empty l0 x9_1) true _ A7.out).mono ?_); rintro e w12 ⟨rfl, hb⟩; refine ⟨_, rfl, ?_⟩; have n0_ := Aside0.mk (Kd.R_below (by (with_reducible repeat (first | apply Kd.R_alloc | apply Kd.R_drewN | apply Kd.R_drew)); exact HO_2.out) hb); have n1_ := Aside0.mk (Kd.R_below (by (with_reducible repeat (first | apply Kd.R_alloc | apply Kd.R_drewN | apply Kd.R_drew)); exact HO_3.out) hb); have n2_ := Aside0.mk (below_step (by repeat (first | (with_reducible first | exact HB.out | apply below_alloc | apply pw_below_drewN | apply below_drew1) | exact HB.out)) hb); clear HO_2; clear HO_3; clear HB; have HO_2 := n0_; have HO_3 := n1_; have HB := n2_; clear n0_ n1_ n2_; (try clear hb); (try clear hb2); (try clear hk); (try clear hi)) | ((with_reducible refine gate_builtin (b := .append) (xs := #[.tmp 31, .tmp 34]) rfl ?_); at_builtin; refine Kd.R_append Kd.string (w0 := w) w.heap.size rfl (.tmp 31) (.tmp 34) 24 9 (.string ⟨#[]⟩) 16 rfl Tryd.underlying24 info9 rfl (by decide) (by omega) u3 x3_1 ((rdOf ByteArray.empty l0 x9_1) ++ (⟨#[47]⟩ : ByteArray)) [.string ((rdOf ByteArray.empty l0 x9_1) ++ (⟨#[47]⟩ : ByteArray))] (fun _ => True) (fun _ => False) rfl rfl ?aP (fun _ hk => hk.elim) ?aF ?aO ?aB ?aS ?aL ?_; (case aP => exact rfl); (case aB => exact (by repeat (first | (with_reducible first | exact HB.out | apply below_alloc | apply pw_below_drewN | apply below_drew1) | exact HB.out))); (case aF => exact (fun _ _ => trivial)); (case aO => exact (by (with_reducible repeat (first | apply Kd.R_alloc | apply Kd.R_drewN | apply Kd.R_drew)); exact HO_3.out)); (case aS => exact (below_size (by repeat (first | (with_reducible first | exact HB.out | apply below_alloc | apply pw_below_drewN | apply below_drew1) | exact HB.out)))); (case aL => have := LMc10.out; omega); intro v152 w13 ho hb hg hat; rw [← Ny151.out] at ho; have n0_ := Aside0.mk (Kd.R_over' (by (with_reducible repeat (first | apply Kd.R_alloc | apply Kd.R_drewN | apply Kd.R_drew)); exact HO_2.out) (Kd.R_typed (by (with_reducible repeat (first | apply Kd.R_alloc | apply Kd.R_drewN | apply Kd.R_drew)); exact HO_3.out)) (by decide) hg); have n1_ := Aside0.mk (hb); have n2_ := Aside0.mk (ho); clear HO_2; clear HB; clear HO_3; have HO_2 := n0_; have HB := n1_; have HO153 := n2_; clear n0_ n1_ n2_; clear ho hb hg hat))
                    go_roundg k1
                    case measure => have := HK1.out; omega
                    case rel => exact ⟨(x2_1), (y151), (wrap64 (x9_1 + 1)), (by first | rfl | (simp; done) | (simp [*]; done)), H', ⟨by have := HK1.out; omega⟩, ⟨by (with_reducible repeat (first | apply Kd.R_alloc | apply Kd.R_drewN | apply Kd.R_drew)); exact HO_2.out⟩, ⟨by (with_reducible repeat (first | apply Kd.R_alloc | apply Kd.R_drewN | apply Kd.R_drew)); exact HO153.out⟩, ⟨by repeat (first | (with_reducible first | exact HB.out | apply below_alloc | apply pw_below_drewN | apply below_drew1) | exact HB.out)⟩⟩
                  · rw [if_neg c10] at H
                    exact absurd H (by simp)
                · rw [if_neg c9] at H
                  exact absurd H (by simp)
              · replace c8 := Bool.eq_false_iff.mpr c8
                subst c8
                have H1 : ((strconv_Itoa.f (x2_1.length : Int)).bind fun t154 => (if 1 + t154.size ≤ 9223372036854775807 then (if x3_1.length < 8796093022208 then (if x2_1.length + (rdOf ByteArray.empty l0 x9_1).size < 140737488355328 then ((some (x2_1 ++ bytesOf (rdOf ByteArray.empty l0 x9_1) : List Int)).bind fun y158 => (if y158.length + 2 < 140737488355328 then (longname_Build.l0 k1 (y158 ++ bytesOf (⟨#[47, 10]⟩ : ByteArray)) (x3_1 ++ [(⟨#[47]⟩ : ByteArray) ++ t154]) l0 (l0.length : Int) (wrap64 (x9_1 + 1))) else (none))) else (none)) else (none)) else (none))) = some (r1, r2, r3) := by rw [if_neg (show ¬ (false = true) by decide)] at H; exact H
                clear H
                have H := H1
                clear H1
                replace H := Option.bind_eq_some_iff.mp H
                obtain ⟨t154, A140, H⟩ := H
                replace H : (if 1 + t154.size ≤ 9223372036854775807 then (if x3_1.length < 8796093022208 then (if x2_1.length + (rdOf ByteArray.empty l0 x9_1).size < 140737488355328 then ((some (x2_1 ++ bytesOf (rdOf ByteArray.empty l0 x9_1) : List Int)).bind fun y158 => (if y158.length + 2 < 140737488355328 then (longname_Build.l0 k1 (y158 ++ bytesOf (⟨#[47, 10]⟩ : ByteArray)) (x3_1 ++ [(⟨#[47]⟩ : ByteArray) ++ t154]) l0 (l0.length : Int) (wrap64 (x9_1 + 1))) else (none))) else (none)) else (none)) else (none)) = some (r1, r2, r3) := H
                have A14 := Aside0.mk A140
                clear A140
                by_cases c15 : 1 + t154.size ≤ 9223372036854775807
                · rw [if_pos c15] at H
                  have c15b0 := eq_true c15
                  have c15b1 : decide (1 + t154.size ≤ 9223372036854775807) = true := decide_eq_true c15
                  try have c15b2 : (9223372036854775807 < 1 + t154.size) = False := eq_false (Nat.not_lt.2 c15)
                  by_cases c16 : x3_1.length < 8796093022208
                  · rw [if_pos c16] at H
                    have LMc16 := Aside0.mk c16
                    clear c16
                    obtain ⟨y155, hy155⟩ : ∃ y_ : List ByteArray, y_ = (x3_1 ++ [(⟨#[47]⟩ : ByteArray) ++ t154]) := ⟨_, rfl⟩
                    replace H : (if x2_1.length + (rdOf ByteArray.empty l0 x9_1).size < 140737488355328 then ((some (x2_1 ++ bytesOf (rdOf ByteArray.empty l0 x9_1) : List Int)).bind fun y158 => (if y158.length + 2 < 140737488355328 then (longname_Build.l0 k1 (y158 ++ bytesOf (⟨#[47, 10]⟩ : ByteArray)) y155 l0 (l0.length : Int) (wrap64 (x9_1 + 1))) else (none))) else (none)) = some (r1, r2, r3) := by first | (rw [hy155]; with_reducible exact H) | (have H2_ := (Option.bind_some _ _).symm.trans H; rw [hy155]; with_reducible exact H2_) | (have H2_ := (Option.bind_some _ _).symm.trans H; with_reducible exact H2_) | with_reducible exact H | (rw [hy155]; exact H) | exact H
                    have Ny155 := Aside0.mk hy155
                    clear hy155
                    by_cases c17 : x2_1.length + (rdOf ByteArray.empty l0 x9_1).size < 140737488355328
                    · rw [if_pos c17] at H
                      have LMc17 := Aside0.mk c17
                      clear c17
                      obtain ⟨y158, hy158⟩ : ∃ y_ : List Int, y_ = (x2_1 ++ bytesOf (rdOf ByteArray.empty l0 x9_1)) := ⟨_, rfl⟩
                      replace H : (if y158.length + 2 < 140737488355328 then (longname_Build.l0 k1 (y158 ++ bytesOf (⟨#[47, 10]⟩ : ByteArray)) y155 l0 (l0.length : Int) (wrap64 (x9_1 + 1))) else (none)) = some (r1, r2, r3) := by first | (rw [hy158]; with_reducible exact H) | (have H2_ := (Option.bind_some _ _).symm.trans H; rw [hy158]; with_reducible exact H2_) | (have H2_ := (Option.bind_some _ _).symm.trans H; with_reducible exact H2_) | with_reducible exact H | (rw [hy158]; exact H) | exact H
                      have Ny158 := Aside0.mk hy158
                      clear hy158
                      by_cases c18 : y158.length + 2 < 140737488355328
                      · rw [if_pos c18] at H
                        have LMc18 := Aside0.mk c18
                        clear c18
                        obtain ⟨y161, hy161⟩ : ∃ y_ : List Int, y_ = (y158 ++ bytesOf (⟨#[47, 10]⟩ : ByteArray)) := ⟨_, rfl⟩
                        replace H : (longname_Build.l0 k1 y161 y155 l0 (l0.length : Int) (wrap64 (x9_1 + 1))) = some (r1, r2, r3) := by first | (rw [hy161]; with_reducible exact H) | (have H2_ := (Option.bind_some _ _).symm.trans H; rw [hy161]; with_reducible exact H2_) | (have H2_ := (Option.bind_some _ _).symm.trans H; with_reducible exact H2_) | with_reducible exact H | (rw [hy161]; exact H) | exact H
                        have Ny161 := Aside0.mk hy161
                        clear hy161
                        have H' := Aside0.mk H
                        clear H
                        have p148 : 0 ≤ (x9_1 : Int) := of_decide_eq_true (by first | (with_reducible assumption) | assumption)
                        have q148 : x9_1 < (l0.length : Int) := of_decide_eq_true (by first | (with_reducible assumption) | assumption)
                        obtain ⟨ad148, e148, hx148_0⟩ := Kd.at_string HR0.out x9_1 p148 q148
                        cases e148
                        replace hx148_0 := (HB.out.cell (World.block_lt_of_cell? w _ hx148_0)).trans hx148_0
                        replace p148 := eq_true p148
                        replace q148 := eq_true q148
                        go_wp2_with (first | ((with_reducible refine gate_callee (f := 35) rfl ?_); refine goesL_ (some 26) rfl rfl Tryd.func35 (by kernel_rfl) rfl #[.string (rdOf ByteArray.empty l0 x9_1)] rfl (by (try simp only [List.map_toArray, List.map_cons, List.map_nil]); first | done | rfl | (simp only [List.length_drop, List.length_take]; rfl)) ?_; (with_reducible refine (longname_Valid.calls (rdOf ByteArray.empty l0 x9_1) true _ A5.out).mono ?_); rintro e w19 ⟨rfl, hb⟩; refine ⟨_, rfl, ?_⟩; have n0_ := Aside0.mk (Kd.R_below (by (with_reducible repeat (first | apply Kd.R_alloc | apply Kd.R_drewN | apply Kd.R_drew)); exact HO_2.out) hb); have n1_ := Aside0.mk (Kd.R_below (by (with_reducible repeat (first | apply Kd.R_alloc | apply Kd.R_drewN | apply Kd.R_drew)); exact HO_3.out) hb); have n2_ := Aside0.mk (below_step (by repeat (first | (with_reducible first | exact HB.out | apply below_alloc | apply pw_below_drewN | apply below_drew1) | exact HB.out)) hb); clear HO_2; clear HO_3; clear HB; have HO_2 := n0_; have HO_3 := n1_; have HB := n2_; clear n0_ n1_ n2_; (try clear hb); (try clear hb2); (try clear hk); (try clear hi)) | ((with_reducible refine gate_callee (f := 36) rfl ?_); refine goesL_ (some 30) rfl rfl Tryd.func36 (by kernel_rfl) rfl #[.string (rdOf ByteArray.empty l0 x9_1)] rfl (by (try simp only [List.map_toArray, List.map_cons, List.map_nil]); first | done | rfl | (simp only [List.length_drop, List.length_take]; rfl)) ?_; (with_reducible refine (longname_Short.calls (rdOf ByteArray.empty l0 x9_1) false _ A7.out).mono ?_); rintro e w20 ⟨rfl, hb⟩; refine ⟨_, rfl, ?_⟩; have n0_ := Aside0.mk (Kd.R_below (by (with_reducible repeat (first | apply Kd.R_alloc | apply Kd.R_drewN | apply Kd.R_drew)); exact HO_2.out) hb); have n1_ := Aside0.mk (Kd.R_below (by (with_reducible repeat (first | apply Kd.R_alloc | apply Kd.R_drewN | apply Kd.R_drew)); exact HO_3.out) hb); have n2_ := Aside0.mk (below_step (by repeat (first | (with_reducible first | exact HB.out | apply below_alloc | apply pw_below_drewN | apply below_drew1) | exact HB.out)) hb); clear HO_2; clear HO_3; clear HB; have HO_2 := n0_; have HO_3 := n1_; have HB := n2_; clear n0_ n1_ n2_; (try clear hb); (try clear hb2); (try clear hk); (try clear hi); obtain ⟨Ao21, co21, eo21⟩ := Kd.R_slice HO_2.out; subst eo21) | ((with_reducible refine gate_callee (f := 42) rfl ?_); refine goesL_ (some 16) rfl rfl Tryd.func42 (by kernel_rfl) rfl #[.int .i64 (x2_1.length : Int)] rfl (by (try simp only [List.map_toArray, List.map_cons, List.map_nil]); first | done | rfl | (simp only [List.length_drop, List.length_take]; rfl)) ?_; (with_reducible refine (strconv_Itoa.calls (x2_1.length : Int) t154 _ ?side1 A14.out).mono ?_); (case side1 => exact Gpow10.below HGpow10.out (by repeat (first | (with_reducible first | exact HB.out | apply below_alloc | apply pw_below_drewN | apply below_drew1) | exact HB.out))); rintro e w22 ⟨rfl, hb⟩; refine ⟨_, rfl, ?_⟩; have n0_ := Aside0.mk (Kd.R_below (by (with_reducible repeat (first | apply Kd.R_alloc | apply Kd.R_drewN | apply Kd.R_drew)); exact HO_2.out) hb); have n1_ := Aside0.mk (Kd.R_below (by (with_reducible repeat (first | apply Kd.R_alloc | apply Kd.R_drewN | apply Kd.R_drew)); exact HO_3.out) hb); have n2_ := Aside0.mk (below_step (by repeat (first | (with_reducible first | exact HB.out | apply below_alloc | apply pw_below_drewN | apply below_drew1) | exact HB.out)) hb); clear HO_2; clear HO_3; clear HB; have HO_2 := n0_; have HO_3 := n1_; have HB := n2_; clear n0_ n1_ n2_; (try clear hb); (try clear hb2); (try clear hk); (try clear hi)) | ((with_reducible refine gate_builtin (b := .append) (xs := #[.tmp 13, .tmp 18]) rfl ?_); at_builtin; refine Kd.R_append Kd.string (w0 := w) w.heap.size rfl (.tmp 13) (.tmp 18) 24 9 (.string ⟨#[]⟩) 16 rfl Tryd.underlying24 info9 rfl (by decide) (by omega) u3 x3_1 ((⟨#[47]⟩ : ByteArray) ++ t154) [.string ((⟨#[47]⟩ : ByteArray) ++ t154)] (fun _ => True) (fun _ => False) rfl rfl ?aP (fun _ hk => hk.elim) ?aF ?aO ?aB ?aS ?aL ?_; (case aP => exact rfl); (case aB => exact (by repeat (first | (with_reducible first | exact HB.out | apply below_alloc | apply pw_below_drewN | apply below_drew1) | exact HB.out))); (case aF => exact (fun _ _ => trivial)); (case aO => exact (by (with_reducible repeat (first | apply Kd.R_alloc | apply Kd.R_drewN | apply Kd.R_drew)); exact HO_3.out)); (case aS => exact (below_size (by repeat (first | (with_reducible first | exact HB.out | apply below_alloc | apply pw_below_drewN | apply below_drew1) | exact HB.out)))); (case aL => have := LMc16.out; omega); intro v156 w23 ho hb hg hat; rw [← Ny155.out] at ho; have n0_ := Aside0.mk (Kd.R_over' (by (with_reducible repeat (first | apply Kd.R_alloc | apply Kd.R_drewN | apply Kd.R_drew)); exact HO_2.out) (Kd.R_typed (by (with_reducible repeat (first | apply Kd.R_alloc | apply Kd.R_drewN | apply Kd.R_drew)); exact HO_3.out)) (by decide) hg); have n1_ := Aside0.mk (hb); have n2_ := Aside0.mk (ho); clear HO_2; clear HB; clear HO_3; have HO_2 := n0_; have HB := n1_; have HO157 := n2_; clear n0_ n1_ n2_; clear ho hb hg hat) | (at_builtin; refine print_append_str (w0 := w) w.heap.size rfl (.tmp 20) _ 22 9 5 rfl Tryd.underlying22 Tryd.underlying9 info5 (.slice Ao21 x2_1.length co21) x2_1 (rdOf ByteArray.empty l0 x9_1) rfl rfl ?aO ?aB ?aS ?aL ?_; (case aB => exact (by repeat (first | (with_reducible first | exact HB.out | apply below_alloc | apply pw_below_drewN | apply below_drew1) | exact HB.out))); (case aO => exact (Kd.own_of_R (by (with_reducible repeat (first | apply Kd.R_alloc | apply Kd.R_drewN | apply Kd.R_drew)); exact HO_2.out))); (case aS => exact (below_size (by repeat (first | (with_reducible first | exact HB.out | apply below_alloc | apply pw_below_drewN | apply below_drew1) | exact HB.out)))); (case aL => have := LMc17.out; omega); intro v159 w24 ho0 hb hg; have ho := Kd.R_of_own (h1 := fun _ => rfl) (ok := fun _ => True) ho0 (fun _ _ => trivial); clear ho0; have hat := True.intro; rw [← Ny158.out] at ho; change Kd.R (Kd.int .u8) 5 w24 w.heap.size (fun _ => True) v159 y158 at ho; have n0_ := Aside0.mk (Kd.R_over' (by (with_reducible repeat (first | apply Kd.R_alloc | apply Kd.R_drewN | apply Kd.R_drew)); exact HO157.out) (Kd.R_typed (by (with_reducible repeat (first | apply Kd.R_alloc | apply Kd.R_drewN | apply Kd.R_drew)); exact HO_2.out)) (by decide) hg); have n1_ := Aside0.mk (hb); have n2_ := Aside0.mk (ho); clear HO157; clear HB; clear HO_2; have HO157 := n0_; have HB := n1_; have HO160 := n2_; clear n0_ n1_ n2_; clear ho hb hg hat) | (at_builtin; refine print_append_str (w0 := w) w.heap.size rfl (.tmp 22) _ 22 9 5 rfl Tryd.underlying22 Tryd.underlying9 info5 v159 y158 (⟨#[47, 10]⟩ : ByteArray) rfl rfl ?aO ?aB ?aS ?aL ?_; (case aB => exact (by repeat (first | (with_reducible first | exact HB.out | apply below_alloc | apply pw_below_drewN | apply below_drew1) | exact HB.out))); (case aO => exact (Kd.own_of_R (by (with_reducible repeat (first | apply Kd.R_alloc | apply Kd.R_drewN | apply Kd.R_drew)); exact HO160.out))); (case aS => exact (below_size (by repeat (first | (with_reducible first | exact HB.out | apply below_alloc | apply pw_below_drewN | apply below_drew1) | exact HB.out)))); (case aL => have := LMc18.out; have e_ : (⟨#[47, 10]⟩ : ByteArray).size = 2 := rfl; omega); intro v162 w25 ho0 hb hg; have ho := Kd.R_of_own (h1 := fun _ => rfl) (ok := fun _ => True) ho0 (fun _ _ => trivial); clear ho0; have hat := True.intro; rw [← Ny161.out] at ho; change Kd.R (Kd.int .u8) 5 w25 w.heap.size (fun _ => True) v162 y161 at ho; have n0_ := Aside0.mk (Kd.R_over' (by (with_reducible repeat (first | apply Kd.R_alloc | apply Kd.R_drewN | apply Kd.R_drew)); exact HO157.out) (Kd.R_typed (by (with_reducible repeat (first | apply Kd.R_alloc | apply Kd.R_drewN | apply Kd.R_drew)); exact HO160.out)) (by decide) hg); have n1_ := Aside0.mk (hb); have n2_ := Aside0.mk (ho); clear HO157; clear HB; clear HO160; have HO157 := n0_; have HB := n1_; have HO163 := n2_; clear n0_ n1_ n2_; clear ho hb hg hat))
                        go_roundg k1
                        case measure => have := HK1.out; omega
                        case rel => exact ⟨(y161), (y155), (wrap64 (x9_1 + 1)), (by first | rfl | (simp; done) | (simp [*]; done)), H', ⟨by have := HK1.out; omega⟩, ⟨by (with_reducible repeat (first | apply Kd.R_alloc | apply Kd.R_drewN | apply Kd.R_drew)); exact HO163.out⟩, ⟨by (with_reducible repeat (first | apply Kd.R_alloc | apply Kd.R_drewN | apply Kd.R_drew)); exact HO157.out⟩, ⟨by repeat (first | (with_reducible first | exact HB.out | apply below_alloc | apply pw_below_drewN | apply below_drew1) | exact HB.out)⟩⟩
                      · rw [if_neg c18] at H
                        exact absurd H (by simp)
                    · rw [if_neg c17] at H
                      exact absurd H (by simp)
                  · rw [if_neg c16] at H
                    exact absurd H (by simp)
                · rw [if_neg c15] at H
                  exact absurd H (by simp)
            · replace c6 := Bool.eq_false_iff.mpr c6
              subst c6
              have H1 : (some (([] : List Int), ([] : List ByteArray), 6)) = some (r1, r2, r3) := by rw [if_neg (show ¬ (false = true) by decide)] at H; exact H
              clear H
              have H := H1
              clear H1
              simp only [Option.some.injEq, Prod.mk.injEq] at H
              obtain ⟨rfl, rfl, rfl⟩ := H
              have p148 : 0 ≤ (x9_1 : Int) := of_decide_eq_true (by first | (with_reducible assumption) | assumption)
              have q148 : x9_1 < (l0.length : Int) := of_decide_eq_true (by first | (with_reducible assumption) | assumption)
              obtain ⟨ad148, e148, hx148_0⟩ := Kd.at_string HR0.out x9_1 p148 q148
              cases e148
              replace hx148_0 := (HB.out.cell (World.block_lt_of_cell? w _ hx148_0)).trans hx148_0
              replace p148 := eq_true p148
              replace q148 := eq_true q148
              go_wp2_with (first | ((with_reducible refine gate_callee (f := 35) rfl ?_); refine goesL_ (some 26) rfl rfl Tryd.func35 (by kernel_rfl) rfl #[.string (rdOf ByteArray.empty l0 x9_1)] rfl (by (try simp only [List.map_toArray, List.map_cons, List.map_nil]); first | done | rfl | (simp only [List.length_drop, List.length_take]; rfl)) ?_; (with_reducible refine (longname_Valid.calls (rdOf ByteArray.empty l0 x9_1) false _ A5.out).mono ?_); rintro e w26 ⟨rfl, hb⟩; refine ⟨_, rfl, ?_⟩; have n0_ := Aside0.mk (Kd.R_below (by (with_reducible repeat (first | apply Kd.R_alloc | apply Kd.R_drewN | apply Kd.R_drew)); exact HO_2.out) hb); have n1_ := Aside0.mk (Kd.R_below (by (with_reducible repeat (first | apply Kd.R_alloc | apply Kd.R_drewN | apply Kd.R_drew)); exact HO_3.out) hb); have n2_ := Aside0.mk (below_step (by repeat (first | (with_reducible first | exact HB.out | apply below_alloc | apply pw_below_drewN | apply below_drew1) | exact HB.out)) hb); clear HO_2; clear HO_3; clear HB; have HO_2 := n0_; have HO_3 := n1_; have HB := n2_; clear n0_ n1_ n2_; (try clear hb); (try clear hb2); (try clear hk); (try clear hi)))
              go_ret3
              exact ⟨_, _, by first | rfl | (simp [errW_none, errW_some] <;> rfl) | (simp [*, errW_none, errW_some] <;> rfl), by first | exact Kd.R_nil _ _ _ _ _ | exact Kd.N_nil _ _ _ _ _ | exact Kd.V_nil _ _ _ _ _ | exact Kd.Q_nil _ _ _ _ _ | exact Kd.S_nil _ _ _ _ _, by first | exact Kd.R_nil _ _ _ _ _ | exact Kd.N_nil _ _ _ _ _ | exact Kd.V_nil _ _ _ _ _ | exact Kd.Q_nil _ _ _ _ _ | exact Kd.S_nil _ _ _ _ _, by repeat (first | (with_reducible first | exact HB.out | apply below_alloc | apply pw_below_drewN | apply below_drew1) | exact HB.out)⟩
          · rw [if_neg c4] at H
            exact absurd H (by simp)
        · rw [if_neg c3] at H
          exact absurd H (by simp)
      · rw [if_neg c2] at H
        have c2b0 : decide (x9_1 < (l0.length : Int)) = false := decide_eq_false c2
        clear c2
        simp only [Option.some.injEq, Prod.mk.injEq] at H
        obtain ⟨rfl, rfl, rfl⟩ := H
        go_wp2
        go_ret3
        exact ⟨_, _, by first | rfl | (simp [errW_none, errW_some] <;> rfl) | (simp [*, errW_none, errW_some] <;> rfl), by (with_reducible repeat (first | apply Kd.R_alloc | apply Kd.R_drewN | apply Kd.R_drew)); exact HO_2.out, by (with_reducible repeat (first | apply Kd.R_alloc | apply Kd.R_drewN | apply Kd.R_drew)); exact HO_3.out, by repeat (first | (with_reducible first | exact HB.out | apply below_alloc | apply pw_below_drewN | apply below_drew1) | exact HB.out)⟩

end Go.Proofs.YtjiokdkgbnakhaaDoor.K
