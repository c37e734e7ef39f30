-- written by a program out of the translation (not trusted: Lean checks it)
import Derived.Test.YtjiokdkgbnakhaaDoorKx0
import Derived.Test.YtjiokdkgbnakhaaDoorKx1
import Derived.Test.YtjiokdkgbnakhaaDoorKx4
namespace Go.Proofs.YtjiokdkgbnakhaaDoor.Own
end Go.Proofs.YtjiokdkgbnakhaaDoor.Own
namespace Go.Proofs.YtjiokdkgbnakhaaDoor.K
open Go.RowKit Go.Proofs.YtjiokdkgbnakhaaDoorW.PrintWords Go.Proofs.YtjiokdkgbnakhaaDoorW.PrintLast Go.Proofs.YtjiokdkgbnakhaaDoorW.PrintMore Go.Proofs.YtjiokdkgbnakhaaDoor.Own
attribute [local go_sem] max2_int min2_int max_two min_two max_three min_three max_four min_four   -- for this text's walks alone
set_option linter.unusedVariables false
set_option linter.unusedSimpArgs false

/-! ### arlinkref03_Short: function 43 -/
def arlinkref03_Short.f (k : Nat) (a0 : ByteArray) : Option (Bool) := (arlinkref03_Valid.f k a0).bind fun t164 => (if t164 = true then (if (a0.size : Int) < 16 then (if 0 ≤ (wrap64 ((a0.size : Int) - 1)) then (if (wrap64 ((a0.size : Int) - 1)) < (a0.size : Int) then (some ((bt a0 (wrap64 ((a0.size : Int) - 1))) != 32)) else (none)) else (none)) else (some false)) else (some false))
theorem arlinkref03_Short.mono : ∀ a0 k, LeO (arlinkref03_Short.f k a0) (arlinkref03_Short.f (k + 1) a0) := by
  intro a0 k
  unfold arlinkref03_Short.f
  repeat' first
      | (with_reducible exact arlinkref03_Valid.mono _ _)
      | (with_reducible exact LeO.refl _)
      | (with_reducible exact LeO.none _)
      | (with_reducible refine LeO.ite ?_ ?_)
      | (with_reducible refine LeO.bind ?_ (fun _ => ?_))
      | exact arlinkref03_Valid.mono _ _
      | exact LeO.none _
      | refine LeO.ite ?_ ?_
      | refine LeO.bind ?_ (fun _ => ?_)
set_option maxHeartbeats 8000000 in
set_option maxRecDepth 100000 in
theorem arlinkref03_Short.calls (k : Nat) (a0 : ByteArray) (r : Bool) (w : World) (h : arlinkref03_Short.f k a0 = some r) :
    Calls Tryd.prog 43 #[.string a0] w fun e w' => e = .returned (.bool r) ∧ Drawn0 w w' := by
  have H : ((arlinkref03_Valid.f k a0).bind fun t164 => (if t164 = true then (if (a0.size : Int) < 16 then (if 0 ≤ (wrap64 ((a0.size : Int) - 1)) then (if (wrap64 ((a0.size : Int) - 1)) < (a0.size : Int) then (some ((bt a0 (wrap64 ((a0.size : Int) - 1))) != 32)) else (none)) else (none)) else (some false)) else (some false))) = some r := h
  clear h
  replace H := Option.bind_eq_some_iff.mp H
  obtain ⟨t164, A20, H⟩ := H
  replace H : (if t164 = true then (if (a0.size : Int) < 16 then (if 0 ≤ (wrap64 ((a0.size : Int) - 1)) then (if (wrap64 ((a0.size : Int) - 1)) < (a0.size : Int) then (some ((bt a0 (wrap64 ((a0.size : Int) - 1))) != 32)) else (none)) else (none)) else (some false)) else (some false)) = some r := H
  have A2 := Aside0.mk A20
  clear A20
  by_cases c3 : t164 = true
  · subst c3
    have H1 : (if (a0.size : Int) < 16 then (if 0 ≤ (wrap64 ((a0.size : Int) - 1)) then (if (wrap64 ((a0.size : Int) - 1)) < (a0.size : Int) then (some ((bt a0 (wrap64 ((a0.size : Int) - 1))) != 32)) else (none)) else (none)) else (some false)) = some r := by rw [if_pos rfl] at H; exact H
    clear H
    have H := H1
    clear H1
    by_cases c4 : (a0.size : Int) < 16
    · rw [if_pos c4] at H
      have c4b0 : decide ((a0.size : Int) < 16) = true := decide_eq_true c4
      have c4b1 : decide (a0.size < 16) = true := decide_eq_true (by omega)
      clear c4
      obtain ⟨ji5, hji5⟩ : ∃ j_ : Int, (wrap64 ((a0.size : Int) - 1)) = j_ := ⟨_, rfl⟩
      replace H : (if 0 ≤ (ji5) then (if (ji5) < (a0.size : Int) then (some ((bt a0 (ji5)) != 32)) else (none)) else (none)) = some r := by first | (rw [hji5] at H; exact H) | (simp only [hji5] at H ⊢; exact H)
      (try rw [hji5] at A2)
      have hji5w : (IntKind.i64.wrap ((a0.size : Int) - 1)) = ji5 := (i64_w _).trans hji5
      by_cases c6 : 0 ≤ (ji5)
      · rw [if_pos c6] at H
        have c6b0 : decide (0 ≤ (ji5)) = true := decide_eq_true c6
        clear c6
        by_cases c7 : (ji5) < (a0.size : Int)
        · rw [if_pos c7] at H
          have c7b0 : decide ((ji5) < (a0.size : Int)) = true := decide_eq_true c7
          clear c7
          obtain rfl := Option.some.inj H
          go_enter Tryd.func43, Tryd.ntmps43
          go_wp2_with (first | ((with_reducible refine gate_callee (f := 17) rfl ?_); refine goesL_ (some 4) rfl rfl Tryd.func17 (by kernel_rfl) rfl #[.string a0] rfl (by (try simp only [List.map_toArray, List.map_cons, List.map_nil]); first | done | rfl | (simp only [List.length_drop, List.length_take]; rfl)) ?_; (with_reducible refine (arlinkref03_Valid.calls k a0 true _ A2.out).mono ?_); rintro e w' ⟨rfl, ⟨nd, rfl⟩⟩; refine ⟨_, rfl, ?_⟩; have p8 : 0 ≤ ((ji5) : Int) := of_decide_eq_true (by first | (with_reducible assumption) | assumption); have q8 : (ji5) < (a0.size : Int) := of_decide_eq_true (by first | (with_reducible assumption) | assumption); have hx8 := bt_at a0 (ji5); replace p8 := eq_true p8; replace q8 := eq_true q8))
          go_ret
          exact ⟨by first | rfl | (simp; done) | (simp only [← hji5] <;> (first | rfl | simp)) | (simp [*]; done), by repeat (first | exact Drawn0.refl _ | apply Drawn0.step)⟩
        · rw [if_neg c7] at H
          exact absurd H (by simp)
      · rw [if_neg c6] at H
        exact absurd H (by simp)
    · rw [if_neg c4] at H
      have c4b0 : decide ((a0.size : Int) < 16) = false := decide_eq_false c4
      have c4b1 : decide (a0.size < 16) = false := decide_eq_false (by omega)
      clear c4
      obtain rfl := Option.some.inj H
      go_enter Tryd.func43, Tryd.ntmps43
      go_wp2_with (first | ((with_reducible refine gate_callee (f := 17) rfl ?_); refine goesL_ (some 4) rfl rfl Tryd.func17 (by kernel_rfl) rfl #[.string a0] rfl (by (try simp only [List.map_toArray, List.map_cons, List.map_nil]); first | done | rfl | (simp only [List.length_drop, List.length_take]; rfl)) ?_; (with_reducible refine (arlinkref03_Valid.calls k a0 true _ A2.out).mono ?_); rintro e w' ⟨rfl, ⟨nd, rfl⟩⟩; refine ⟨_, rfl, ?_⟩))
      go_ret
      exact ⟨by first | rfl | (simp; done) | (simp [*]; done), by repeat (first | exact Drawn0.refl _ | apply Drawn0.step)⟩
  · replace c3 := Bool.eq_false_iff.mpr c3
    subst c3
    have H1 : (some false) = some r := by rw [if_neg (show ¬ (false = true) by decide)] at H; exact H
    clear H
    have H := H1
    clear H1
    obtain rfl := Option.some.inj H
    go_enter Tryd.func43, Tryd.ntmps43
    go_wp2_with (first | ((with_reducible refine gate_callee (f := 17) rfl ?_); refine goesL_ (some 4) rfl rfl Tryd.func17 (by kernel_rfl) rfl #[.string a0] rfl (by (try simp only [List.map_toArray, List.map_cons, List.map_nil]); first | done | rfl | (simp only [List.length_drop, List.length_take]; rfl)) ?_; (with_reducible refine (arlinkref03_Valid.calls k a0 false _ A2.out).mono ?_); rintro e w' ⟨rfl, ⟨nd, rfl⟩⟩; refine ⟨_, rfl, ?_⟩))
    go_ret
    exact ⟨by first | rfl | (simp; done) | (simp [*]; done), by repeat (first | exact Drawn0.refl _ | apply Drawn0.step)⟩

/-! ### arlinkref03_Build: function 21 -/
def arlinkref03_Build.l0 : Nat → List ByteArray → List ByteArray → List ByteArray → Int → Option (List Int × List ByteArray × Int)
  | 0, _, _, _, _ => none
  | k + 1, x0, x5, x6, x7 => if x7 < (x0.length : Int) then (if 0 ≤ x7 then ((arlinkref03_Valid.f k (rdOf ByteArray.empty x0 x7)).bind fun t169 => (if t169 = true then ((arlinkref03_Short.f k (rdOf ByteArray.empty x0 x7)).bind fun t171 => (if t171 = true then (if (rdOf ByteArray.empty x0 x7).size + 1 ≤ 9223372036854775807 then (if x6.length < 8796093022208 then (arlinkref03_Build.l0 k x0 x5 (x6 ++ [(rdOf ByteArray.empty x0 x7) ++ (⟨#[47]⟩ : ByteArray)]) (wrap64 (x7 + 1))) else (none)) else (none)) else ((arlinkref03_Table.f k x5).bind fun t176 => ((arlinkref01_Text.f k (t176.length : Int) 10).bind fun t179 => (if 1 + t179.size ≤ 9223372036854775807 then (if x6.length < 8796093022208 then (if x5.length < 8796093022208 then (arlinkref03_Build.l0 k x0 (x5 ++ [rdOf ByteArray.empty x0 x7]) (x6 ++ [(⟨#[47]⟩ : ByteArray) ++ t179]) (wrap64 (x7 + 1))) else (none)) else (none)) else (none)))))) else (some (([] : List Int), ([] : List ByteArray), 6)))) else (none)) else ((arlinkref03_Table.f k x5).bind fun t165 => (some (t165, x6, 0)))
def arlinkref03_Build.f (k : Nat) (l0 : List ByteArray) : Option (List Int × List ByteArray × Int) := arlinkref03_Build.l0 k l0 ([] : List ByteArray) ([] : List ByteArray) 0
theorem arlinkref03_Build.mono_l : ∀ k, (∀ y0 y1 y2 y3, LeO (arlinkref03_Build.l0 k y0 y1 y2 y3) (arlinkref03_Build.l0 (k + 1) y0 y1 y2 y3))
  | 0 => fun _ _ _ _ r h => by simp [arlinkref03_Build.l0] at h
  | k + 1 => by
    have ih0 := arlinkref03_Build.mono_l k
    · intro y0 y1 y2 y3
      unfold arlinkref03_Build.l0
      repeat' first
      | (with_reducible exact ih0 _ _ _ _)
      | (with_reducible exact arlinkref01_Text.mono _ _ _)
      | (with_reducible exact arlinkref03_Short.mono _ _)
      | (with_reducible exact arlinkref03_Table.mono _ _)
      | (with_reducible exact arlinkref03_Valid.mono _ _)
      | (with_reducible exact LeO.refl _)
      | (with_reducible exact LeO.none _)
      | (with_reducible refine LeO.ite ?_ ?_)
      | (with_reducible refine LeO.bind ?_ (fun _ => ?_))
      | exact ih0 _ _ _ _
      | exact arlinkref01_Text.mono _ _ _
      | exact arlinkref03_Short.mono _ _
      | exact arlinkref03_Table.mono _ _
      | exact arlinkref03_Valid.mono _ _
      | exact LeO.none _
      | refine LeO.ite ?_ ?_
      | refine LeO.bind ?_ (fun _ => ?_)
theorem arlinkref03_Build.mono : ∀ a0 k, LeO (arlinkref03_Build.f k a0) (arlinkref03_Build.f (k + 1) a0) := by
  intro a0 k
  have ih0 := arlinkref03_Build.mono_l k
  unfold arlinkref03_Build.f
  repeat' first
      | (with_reducible exact ih0 _ _ _ _)
      | (with_reducible exact arlinkref01_Text.mono _ _ _)
      | (with_reducible exact arlinkref03_Short.mono _ _)
      | (with_reducible exact arlinkref03_Table.mono _ _)
      | (with_reducible exact arlinkref03_Valid.mono _ _)
      | (with_reducible exact LeO.refl _)
      | (with_reducible exact LeO.none _)
      | (with_reducible refine LeO.ite ?_ ?_)
      | (with_reducible refine LeO.bind ?_ (fun _ => ?_))
      | exact ih0 _ _ _ _
      | exact arlinkref01_Text.mono _ _ _
      | exact arlinkref03_Short.mono _ _
      | exact arlinkref03_Table.mono _ _
      | exact arlinkref03_Valid.mono _ _
      | exact LeO.none _
      | refine LeO.ite ?_ ?_
      | refine LeO.bind ?_ (fun _ => ?_)
set_option maxHeartbeats 8000000 in
set_option maxRecDepth 100000 in
theorem arlinkref03_Build.calls (k : Nat) (A0 : Option Addr) (c0 : Nat) (l0 : List ByteArray) (r1 : List Int) (r2 : List ByteArray) (r3 : Int) (w : World) (hr0 : Kd.C Kd.string w A0 l0.length l0) (hc0 : l0.length ≤ c0) (h : arlinkref03_Build.f k l0 = some (r1, r2, r3)) :
    Calls Tryd.prog 21 #[.slice A0 l0.length c0] w fun e w' => ∃ v0_ v1_ : Value, e = .returned (.tuple #[v0_, v1_, .int .i64 r3]) ∧ Kd.R (Kd.int .u8) 5 w' w.heap.size (fun _ => True) v0_ r1 ∧ Kd.R Kd.string 9 w' w.heap.size (fun _ => True) v1_ r2 ∧ Below w.heap.size w w' := by
  have HR0 := Aside0.mk hr0
  have HC0 := Aside0.mk hc0
  clear hr0 hc0
  have HB := Aside0.mk (Below.refl w.heap.size w)
  have H : (arlinkref03_Build.l0 k l0 ([] : List ByteArray) ([] : List ByteArray) 0) = some (r1, r2, r3) := h
  clear h
  have H' := Aside0.mk H
  clear H
  go_enter Tryd.func21, Tryd.ntmps21
  go_wp2
  go_loopg [5, 6, 7] k (fun kq v5 v6 v7 w' => ∃ (x5_1 : List ByteArray) (x6_1 : List ByteArray) (x7_1 : Int), v7 = .int .i64 x7_1 ∧ Aside0 (arlinkref03_Build.l0 kq l0 x5_1 x6_1 x7_1 = some (r1, r2, r3)) ∧ Aside0 (kq ≤ k) ∧ Aside0 (Kd.R Kd.string 9 w' w.heap.size (fun k_ => some k_ ≠ (v6 : Value).ownBlock) v5 x5_1) ∧ Aside0 (Kd.R Kd.string 9 w' w.heap.size (fun k_ => some k_ ≠ (v5 : Value).ownBlock) v6 x6_1) ∧ Aside0 (Below w.heap.size w w'))
  case atStart => exact ⟨(([] : List ByteArray)), (([] : List ByteArray)), (0), (by first | rfl | (simp; done) | (simp [*]; done)), H', ⟨Nat.le_refl _⟩, ⟨by first | exact Kd.R_nil _ _ _ _ _ | exact Kd.N_nil _ _ _ _ _ | exact Kd.V_nil _ _ _ _ _ | exact Kd.Q_nil _ _ _ _ _ | exact Kd.S_nil _ _ _ _ _⟩, ⟨by first | exact Kd.R_nil _ _ _ _ _ | exact Kd.N_nil _ _ _ _ _ | exact Kd.V_nil _ _ _ _ _ | exact Kd.Q_nil _ _ _ _ _ | exact Kd.S_nil _ _ _ _ _⟩, ⟨by repeat (first | (with_reducible first | exact HB.out | apply below_alloc | apply pw_below_drewN | apply below_drew1) | exact HB.out)⟩⟩
  case round =>
    clear H'
    obtain ⟨x5_1, x6_1, x7_1, rfl, HA, HK1, HO_5, HO_6, HB⟩ := hrel
    cases gk with
    | zero => exact absurd HA.out (by simp [arlinkref03_Build.l0])
    | succ k1 =>
      have H := HA.out
      clear HA
      simp only [arlinkref03_Build.l0] at H
      by_cases c2 : x7_1 < (l0.length : Int)
      · rw [if_pos c2] at H
        have c2b0 : decide (x7_1 < (l0.length : Int)) = true := decide_eq_true c2
        clear c2
        by_cases c3 : 0 ≤ x7_1
        · rw [if_pos c3] at H
          have c3b0 : decide (0 ≤ x7_1) = true := decide_eq_true c3
          clear c3
          replace H := Option.bind_eq_some_iff.mp H
          obtain ⟨t169, A40, H⟩ := H
          replace H : (if t169 = true then ((arlinkref03_Short.f k1 (rdOf ByteArray.empty l0 x7_1)).bind fun t171 => (if t171 = true then (if (rdOf ByteArray.empty l0 x7_1).size + 1 ≤ 9223372036854775807 then (if x6_1.length < 8796093022208 then (arlinkref03_Build.l0 k1 l0 x5_1 (x6_1 ++ [(rdOf ByteArray.empty l0 x7_1) ++ (⟨#[47]⟩ : ByteArray)]) (wrap64 (x7_1 + 1))) else (none)) else (none)) else ((arlinkref03_Table.f k1 x5_1).bind fun t176 => ((arlinkref01_Text.f k1 (t176.length : Int) 10).bind fun t179 => (if 1 + t179.size ≤ 9223372036854775807 then (if x6_1.length < 8796093022208 then (if x5_1.length < 8796093022208 then (arlinkref03_Build.l0 k1 l0 (x5_1 ++ [rdOf ByteArray.empty l0 x7_1]) (x6_1 ++ [(⟨#[47]⟩ : ByteArray) ++ t179]) (wrap64 (x7_1 + 1))) else (none)) else (none)) else (none)))))) else (some (([] : List Int), ([] : List ByteArray), 6))) = some (r1, r2, r3) := H
          have A4 := Aside0.mk A40
          clear A40
          by_cases c5 : t169 = true
          · subst c5
            have H1 : ((arlinkref03_Short.f k1 (rdOf ByteArray.empty l0 x7_1)).bind fun t171 => (if t171 = true then (if (rdOf ByteArray.empty l0 x7_1).size + 1 ≤ 9223372036854775807 then (if x6_1.length < 8796093022208 then (arlinkref03_Build.l0 k1 l0 x5_1 (x6_1 ++ [(rdOf ByteArray.empty l0 x7_1) ++ (⟨#[47]⟩ : ByteArray)]) (wrap64 (x7_1 + 1))) else (none)) else (none)) else ((arlinkref03_Table.f k1 x5_1).bind fun t176 => ((arlinkref01_Text.f k1 (t176.length : Int) 10).bind fun t179 => (if 1 + t179.size ≤ 9223372036854775807 then (if x6_1.length < 8796093022208 then (if x5_1.length < 8796093022208 then (arlinkref03_Build.l0 k1 l0 (x5_1 ++ [rdOf ByteArray.empty l0 x7_1]) (x6_1 ++ [(⟨#[47]⟩ : ByteArray) ++ t179]) (wrap64 (x7_1 + 1))) else (none)) else (none)) else (none)))))) = some (r1, r2, r3) := by rw [if_pos rfl] at H; exact H
            clear H
            have H := H1
            clear H1
            replace H := Option.bind_eq_some_iff.mp H
            obtain ⟨t171, A60, H⟩ := H
            replace H : (if t171 = true then (if (rdOf ByteArray.empty l0 x7_1).size + 1 ≤ 9223372036854775807 then (if x6_1.length < 8796093022208 then (arlinkref03_Build.l0 k1 l0 x5_1 (x6_1 ++ [(rdOf ByteArray.empty l0 x7_1) ++ (⟨#[47]⟩ : ByteArray)]) (wrap64 (x7_1 + 1))) else (none)) else (none)) else ((arlinkref03_Table.f k1 x5_1).bind fun t176 => ((arlinkref01_Text.f k1 (t176.length : Int) 10).bind fun t179 => (if 1 + t179.size ≤ 9223372036854775807 then (if x6_1.length < 8796093022208 then (if x5_1.length < 8796093022208 then (arlinkref03_Build.l0 k1 l0 (x5_1 ++ [rdOf ByteArray.empty l0 x7_1]) (x6_1 ++ [(⟨#[47]⟩ : ByteArray) ++ t179]) (wrap64 (x7_1 + 1))) else (none)) else (none)) else (none))))) = some (r1, r2, r3) := H
            have A6 := Aside0.mk A60
            clear A60
            by_cases c7 : t171 = true
            · subst c7
              have H1 : (if (rdOf ByteArray.empty l0 x7_1).size + 1 ≤ 9223372036854775807 then (if x6_1.length < 8796093022208 then (arlinkref03_Build.l0 k1 l0 x5_1 (x6_1 ++ [(rdOf ByteArray.empty l0 x7_1) ++ (⟨#[47]⟩ : ByteArray)]) (wrap64 (x7_1 + 1))) else (none)) else (none)) = some (r1, r2, r3) := by rw [if_pos rfl] at H; exact H
              clear H
              have H := H1
              clear H1
              by_cases c8 : (rdOf ByteArray.empty l0 x7_1).size + 1 ≤ 9223372036854775807
              · rw [if_pos c8] at H
                have c8b0 := eq_true c8
                have c8b1 : decide ((rdOf ByteArray.empty l0 x7_1).size + 1 ≤ 9223372036854775807) = true := decide_eq_true c8
                try have c8b2 : (9223372036854775807 < (rdOf ByteArray.empty l0 x7_1).size + 1) = False := eq_false (Nat.not_lt.2 c8)
                by_cases c9 : x6_1.length < 8796093022208
                · rw [if_pos c9] at H
                  have LMc9 := Aside0.mk c9
                  clear c9
                  obtain ⟨y173, hy173⟩ : ∃ y_ : List ByteArray, y_ = (x6_1 ++ [(rdOf ByteArray.empty l0 x7_1) ++ (⟨#[47]⟩ : ByteArray)]) := ⟨_, rfl⟩
                  replace H : (arlinkref03_Build.l0 k1 l0 x5_1 y173 (wrap64 (x7_1 + 1))) = some (r1, r2, r3) := by first | (rw [hy173]; with_reducible exact H) | (have H2_ := (Option.bind_some _ _).symm.trans H; rw [hy173]; with_reducible exact H2_) | (have H2_ := (Option.bind_some _ _).symm.trans H; with_reducible exact H2_) | with_reducible exact H | (rw [hy173]; exact H) | exact H
                  have Ny173 := Aside0.mk hy173
                  clear hy173
                  have H' := Aside0.mk H
                  clear H
                  have p168 : 0 ≤ (x7_1 : Int) := of_decide_eq_true (by first | (with_reducible assumption) | assumption)
                  have q168 : x7_1 < (l0.length : Int) := of_decide_eq_true (by first | (with_reducible assumption) | assumption)
                  obtain ⟨ad168, e168, hx168_0⟩ := Kd.at_string HR0.out x7_1 p168 q168
                  cases e168
                  replace hx168_0 := (HB.out.cell (World.block_lt_of_cell? w _ hx168_0)).trans hx168_0
                  replace p168 := eq_true p168
                  replace q168 := eq_true q168
                  go_wp2_with (first | ((with_reducible refine gate_callee (f := 17) rfl ?_); refine goesL_ (some 18) rfl rfl Tryd.func17 (by kernel_rfl) rfl #[.string (rdOf ByteArray.empty l0 x7_1)] rfl (by (try simp only [List.map_toArray, List.map_cons, List.map_nil]); first | done | rfl | (simp only [List.length_drop, List.length_take]; rfl)) ?_; (with_reducible refine (arlinkref03_Valid.calls k1 (rdOf ByteArray.empty l0 x7_1) true _ A4.out).mono ?_); rintro e w' ⟨rfl, ⟨nd, rfl⟩⟩; refine ⟨_, rfl, ?_⟩; have p170 : 0 ≤ (x7_1 : Int) := of_decide_eq_true (by first | (with_reducible assumption) | assumption); have q170 : x7_1 < (l0.length : Int) := of_decide_eq_true (by first | (with_reducible assumption) | assumption); obtain ⟨ad170, e170, hx170_0⟩ := Kd.at_string HR0.out x7_1 p170 q170; obtain rfl : ad168 = ad170 := (by injection e170); replace hx170_0 := (HB.out.cell (World.block_lt_of_cell? w _ hx170_0)).trans hx170_0; replace p170 := eq_true p170; replace q170 := eq_true q170) | ((with_reducible refine gate_callee (f := 43) rfl ?_); refine goesL_ (some 24) rfl rfl Tryd.func43 (by kernel_rfl) rfl #[.string (rdOf ByteArray.empty l0 x7_1)] rfl (by (try simp only [List.map_toArray, List.map_cons, List.map_nil]); first | done | rfl | (simp only [List.length_drop, List.length_take]; rfl)) ?_; (with_reducible refine (arlinkref03_Short.calls k1 (rdOf ByteArray.empty l0 x7_1) true _ A6.out).mono ?_); rintro e w' ⟨rfl, ⟨nd, rfl⟩⟩; refine ⟨_, rfl, ?_⟩; have p172 : 0 ≤ (x7_1 : Int) := of_decide_eq_true (by first | (with_reducible assumption) | assumption); have q172 : x7_1 < (l0.length : Int) := of_decide_eq_true (by first | (with_reducible assumption) | assumption); obtain ⟨ad172, e172, hx172_0⟩ := Kd.at_string HR0.out x7_1 p172 q172; obtain rfl : ad168 = ad172 := (by injection e172); replace hx172_0 := (HB.out.cell (World.block_lt_of_cell? w _ hx172_0)).trans hx172_0; replace p172 := eq_true p172; replace q172 := eq_true q172) | ((with_reducible refine gate_builtin (b := .append) (xs := #[.tmp 25, .tmp 31]) rfl ?_); at_builtin; refine Kd.R_append Kd.string (w0 := w) w.heap.size rfl (.tmp 25) (.tmp 31) 24 9 (.string ⟨#[]⟩) 16 rfl Tryd.underlying24 info9 rfl (by decide) (by omega) u6 x6_1 ((rdOf ByteArray.empty l0 x7_1) ++ (⟨#[47]⟩ : ByteArray)) [.string ((rdOf ByteArray.empty l0 x7_1) ++ (⟨#[47]⟩ : ByteArray))] (fun k_ => some k_ ≠ (u5 : Value).ownBlock) (fun _ => False) rfl rfl ?aP (fun _ hk => hk.elim) ?aF ?aO ?aB ?aS ?aL ?_; (case aP => exact rfl); (case aB => exact (by repeat (first | (with_reducible first | exact HB.out | apply below_alloc | apply pw_below_drewN | apply below_drew1) | exact HB.out))); (case aF => exact (fun k_ hk => Kd.fresh' (Kd.R_lt (by (with_reducible repeat (first | apply Kd.R_alloc | apply Kd.R_drewN | apply Kd.R_drew)); exact HO_5.out)) k_ hk)); (case aO => exact (by (with_reducible repeat (first | apply Kd.R_alloc | apply Kd.R_drewN | apply Kd.R_drew)); exact HO_6.out)); (case aS => exact (below_size (by repeat (first | (with_reducible first | exact HB.out | apply below_alloc | apply pw_below_drewN | apply below_drew1) | exact HB.out)))); (case aL => have := LMc9.out; omega); intro v174 w10 ho hb hg hat; rw [← Ny173.out] at ho; have n0_ := Aside0.mk (Kd.R_after (ok := (fun _ => True)) (by (with_reducible repeat (first | apply Kd.R_alloc | apply Kd.R_drewN | apply Kd.R_drew)); exact Kd.R_mono HO_5.out (fun _ hk => ⟨trivial, hk⟩)) hg hat); have n1_ := Aside0.mk (hb); have n2_ := Aside0.mk (ho); clear HO_5; clear HB; clear HO_6; have HO_5 := n0_; have HB := n1_; have HO175 := n2_; clear n0_ n1_ n2_; clear ho hb hg hat))
                  go_roundg k1
                  case measure => have := HK1.out; omega
                  case rel => exact ⟨(x5_1), (y173), (wrap64 (x7_1 + 1)), (by first | rfl | (simp; done) | (simp [*]; done)), H', ⟨by have := HK1.out; omega⟩, ⟨by (with_reducible repeat (first | apply Kd.R_alloc | apply Kd.R_drewN | apply Kd.R_drew)); exact Kd.R_mono HO_5.out (fun _ hk => hk.2)⟩, ⟨by (with_reducible repeat (first | apply Kd.R_alloc | apply Kd.R_drewN | apply Kd.R_drew)); exact HO175.out⟩, ⟨by repeat (first | (with_reducible first | exact HB.out | apply below_alloc | apply pw_below_drewN | apply below_drew1) | exact HB.out)⟩⟩
                · rw [if_neg c9] at H
                  exact absurd H (by simp)
              · rw [if_neg c8] at H
                exact absurd H (by simp)
            · replace c7 := Bool.eq_false_iff.mpr c7
              subst c7
              have H1 : ((arlinkref03_Table.f k1 x5_1).bind fun t176 => ((arlinkref01_Text.f k1 (t176.length : Int) 10).bind fun t179 => (if 1 + t179.size ≤ 9223372036854775807 then (if x6_1.length < 8796093022208 then (if x5_1.length < 8796093022208 then (arlinkref03_Build.l0 k1 l0 (x5_1 ++ [rdOf ByteArray.empty l0 x7_1]) (x6_1 ++ [(⟨#[47]⟩ : ByteArray) ++ t179]) (wrap64 (x7_1 + 1))) else (none)) else (none)) else (none)))) = some (r1, r2, r3) := by rw [if_neg (show ¬ (false = true) by decide)] at H; exact H
              clear H
              have H := H1
              clear H1
              replace H := Option.bind_eq_some_iff.mp H
              obtain ⟨t176, A110, H⟩ := H
              replace H : ((arlinkref01_Text.f k1 (t176.length : Int) 10).bind fun t179 => (if 1 + t179.size ≤ 9223372036854775807 then (if x6_1.length < 8796093022208 then (if x5_1.length < 8796093022208 then (arlinkref03_Build.l0 k1 l0 (x5_1 ++ [rdOf ByteArray.empty l0 x7_1]) (x6_1 ++ [(⟨#[47]⟩ : ByteArray) ++ t179]) (wrap64 (x7_1 + 1))) else (none)) else (none)) else (none))) = some (r1, r2, r3) := H
              have A11 := Aside0.mk A110
              clear A110
              replace H := Option.bind_eq_some_iff.mp H
              obtain ⟨t179, A120, H⟩ := H
              replace H : (if 1 + t179.size ≤ 9223372036854775807 then (if x6_1.length < 8796093022208 then (if x5_1.length < 8796093022208 then (arlinkref03_Build.l0 k1 l0 (x5_1 ++ [rdOf ByteArray.empty l0 x7_1]) (x6_1 ++ [(⟨#[47]⟩ : ByteArray) ++ t179]) (wrap64 (x7_1 + 1))) else (none)) else (none)) else (none)) = some (r1, r2, r3) := H
              have A12 := Aside0.mk A120
              clear A120
              by_cases c13 : 1 + t179.size ≤ 9223372036854775807
              · rw [if_pos c13] at H
                have c13b0 := eq_true c13
                have c13b1 : decide (1 + t179.size ≤ 9223372036854775807) = true := decide_eq_true c13
                try have c13b2 : (9223372036854775807 < 1 + t179.size) = False := eq_false (Nat.not_lt.2 c13)
                by_cases c14 : x6_1.length < 8796093022208
                · rw [if_pos c14] at H
                  have LMc14 := Aside0.mk c14
                  clear c14
                  obtain ⟨y180, hy180⟩ : ∃ y_ : List ByteArray, y_ = (x6_1 ++ [(⟨#[47]⟩ : ByteArray) ++ t179]) := ⟨_, rfl⟩
                  replace H : (if x5_1.length < 8796093022208 then (arlinkref03_Build.l0 k1 l0 (x5_1 ++ [rdOf ByteArray.empty l0 x7_1]) y180 (wrap64 (x7_1 + 1))) else (none)) = some (r1, r2, r3) := by first | (rw [hy180]; with_reducible exact H) | (have H2_ := (Option.bind_some _ _).symm.trans H; rw [hy180]; with_reducible exact H2_) | (have H2_ := (Option.bind_some _ _).symm.trans H; with_reducible exact H2_) | with_reducible exact H | (rw [hy180]; exact H) | exact H
                  have Ny180 := Aside0.mk hy180
                  clear hy180
                  by_cases c15 : x5_1.length < 8796093022208
                  · rw [if_pos c15] at H
                    have LMc15 := Aside0.mk c15
                    clear c15
                    obtain ⟨y184, hy184⟩ : ∃ y_ : List ByteArray, y_ = (x5_1 ++ [rdOf ByteArray.empty l0 x7_1]) := ⟨_, rfl⟩
                    replace H : (arlinkref03_Build.l0 k1 l0 y184 y180 (wrap64 (x7_1 + 1))) = some (r1, r2, r3) := by first | (rw [hy184]; with_reducible exact H) | (have H2_ := (Option.bind_some _ _).symm.trans H; rw [hy184]; with_reducible exact H2_) | (have H2_ := (Option.bind_some _ _).symm.trans H; with_reducible exact H2_) | with_reducible exact H | (rw [hy184]; exact H) | exact H
                    have Ny184 := Aside0.mk hy184
                    clear hy184
                    have H' := Aside0.mk H
                    clear H
                    have p168 : 0 ≤ (x7_1 : Int) := of_decide_eq_true (by first | (with_reducible assumption) | assumption)
                    have q168 : x7_1 < (l0.length : Int) := of_decide_eq_true (by first | (with_reducible assumption) | assumption)
                    obtain ⟨ad168, e168, hx168_0⟩ := Kd.at_string HR0.out x7_1 p168 q168
                    cases e168
                    replace hx168_0 := (HB.out.cell (World.block_lt_of_cell? w _ hx168_0)).trans hx168_0
                    replace p168 := eq_true p168
                    replace q168 := eq_true q168
                    go_wp2_with (first | ((with_reducible refine gate_callee (f := 17) rfl ?_); refine goesL_ (some 18) rfl rfl Tryd.func17 (by kernel_rfl) rfl #[.string (rdOf ByteArray.empty l0 x7_1)] rfl (by (try simp only [List.map_toArray, List.map_cons, List.map_nil]); first | done | rfl | (simp only [List.length_drop, List.length_take]; rfl)) ?_; (with_reducible refine (arlinkref03_Valid.calls k1 (rdOf ByteArray.empty l0 x7_1) true _ A4.out).mono ?_); rintro e w' ⟨rfl, ⟨nd, rfl⟩⟩; refine ⟨_, rfl, ?_⟩; have p170 : 0 ≤ (x7_1 : Int) := of_decide_eq_true (by first | (with_reducible assumption) | assumption); have q170 : x7_1 < (l0.length : Int) := of_decide_eq_true (by first | (with_reducible assumption) | assumption); obtain ⟨ad170, e170, hx170_0⟩ := Kd.at_string HR0.out x7_1 p170 q170; obtain rfl : ad168 = ad170 := (by injection e170); replace hx170_0 := (HB.out.cell (World.block_lt_of_cell? w _ hx170_0)).trans hx170_0; replace p170 := eq_true p170; replace q170 := eq_true q170) | ((with_reducible refine gate_callee (f := 43) rfl ?_); refine goesL_ (some 24) rfl rfl Tryd.func43 (by kernel_rfl) rfl #[.string (rdOf ByteArray.empty l0 x7_1)] rfl (by (try simp only [List.map_toArray, List.map_cons, List.map_nil]); first | done | rfl | (simp only [List.length_drop, List.length_take]; rfl)) ?_; (with_reducible refine (arlinkref03_Short.calls k1 (rdOf ByteArray.empty l0 x7_1) false _ A6.out).mono ?_); rintro e w' ⟨rfl, ⟨nd, rfl⟩⟩; refine ⟨_, rfl, ?_⟩; obtain ⟨Ao16, co16, eo16⟩ := Kd.R_slice HO_5.out; subst eo16) | ((with_reducible refine gate_callee (f := 15) rfl ?_); refine goesL_ (some 35) rfl rfl Tryd.func15 (by kernel_rfl) rfl #[.slice Ao16 x5_1.length co16] rfl (by (try simp only [List.map_toArray, List.map_cons, List.map_nil]); first | done | rfl | (simp only [List.length_drop, List.length_take]; rfl)) ?_; (with_reducible refine (arlinkref03_Table.calls k1 _ _ x5_1 t176 _ ?side1 ?side2 A11.out).mono ?_); (case side1 => repeat (first | exact (Kd.R_reads' HO_5.out).2.2 | (with_reducible refine Kd.C_alloc ?_ _) | (with_reducible refine Kd.C_drewN ?_ _) | (with_reducible refine Kd.C_drew ?_))); (case side2 => exact (Kd.R_reads' HO_5.out).2.1); rintro e w17 ⟨v177, rfl, ho0, hb⟩; refine ⟨_, rfl, ?_⟩; have n0_ := Aside0.mk (Kd.R_below (by (with_reducible repeat (first | apply Kd.R_alloc | apply Kd.R_drewN | apply Kd.R_drew)); exact HO_5.out) hb); have n1_ := Aside0.mk (Kd.R_below (by (with_reducible repeat (first | apply Kd.R_alloc | apply Kd.R_drewN | apply Kd.R_drew)); exact HO_6.out) hb); have n2_ := Aside0.mk (Kd.R_lower ho0 (below_size (by repeat (first | (with_reducible first | exact HB.out | apply below_alloc | apply pw_below_drewN | apply below_drew1) | exact HB.out)))); have n3_ := Aside0.mk (below_step (by repeat (first | (with_reducible first | exact HB.out | apply below_alloc | apply pw_below_drewN | apply below_drew1) | exact HB.out)) hb); clear HO_5; clear HO_6; clear HB; have HO_5 := n0_; have HO_6 := n1_; have HO178 := n2_; have HB := n3_; clear n0_ n1_ n2_ n3_; (try clear hb); (try clear hb2); (try clear hk); (try clear hi); (try clear ho0); obtain ⟨Ao18, co18, eo18⟩ := Kd.R_slice HO178.out; subst eo18) | ((with_reducible refine gate_callee (f := 19) rfl ?_); refine goesL_ (some 37) rfl rfl Tryd.func19 (by kernel_rfl) rfl #[.int .i64 (t176.length : Int), .int .i64 10] rfl (by (try simp only [List.map_toArray, List.map_cons, List.map_nil]); first | done | rfl | (simp only [List.length_drop, List.length_take]; rfl)) ?_; (with_reducible refine (arlinkref01_Text.calls k1 (t176.length : Int) 10 t179 _ A12.out).mono ?_); rintro e w' ⟨rfl, ⟨nd, rfl⟩⟩; refine ⟨_, rfl, ?_⟩) | ((with_reducible refine gate_builtin (b := .append) (xs := #[.tmp 33, .tmp 39]) rfl ?_); at_builtin; refine Kd.R_append Kd.string (w0 := w) w.heap.size rfl (.tmp 33) (.tmp 39) 24 9 (.string ⟨#[]⟩) 16 rfl Tryd.underlying24 info9 rfl (by decide) (by omega) u6 x6_1 ((⟨#[47]⟩ : ByteArray) ++ t179) [.string ((⟨#[47]⟩ : ByteArray) ++ t179)] (fun k_ => some k_ ≠ (.slice Ao16 x5_1.length co16 : Value).ownBlock) (fun _ => False) rfl rfl ?aP (fun _ hk => hk.elim) ?aF ?aO ?aB ?aS ?aL ?_; (case aP => exact rfl); (case aB => exact (by repeat (first | (with_reducible first | exact HB.out | apply below_alloc | apply pw_below_drewN | apply below_drew1) | exact HB.out))); (case aF => exact (fun k_ hk => Kd.fresh' (Kd.R_lt (by (with_reducible repeat (first | apply Kd.R_alloc | apply Kd.R_drewN | apply Kd.R_drew)); exact HO_5.out)) k_ hk)); (case aO => exact (by (with_reducible repeat (first | apply Kd.R_alloc | apply Kd.R_drewN | apply Kd.R_drew)); exact HO_6.out)); (case aS => exact (below_size (by repeat (first | (with_reducible first | exact HB.out | apply below_alloc | apply pw_below_drewN | apply below_drew1) | exact HB.out)))); (case aL => have := LMc14.out; omega); intro v181 w19 ho hb hg hat; rw [← Ny180.out] at ho; have n0_ := Aside0.mk (Kd.R_after (ok := (fun _ => True)) (by (with_reducible repeat (first | apply Kd.R_alloc | apply Kd.R_drewN | apply Kd.R_drew)); exact Kd.R_mono HO_5.out (fun _ hk => ⟨trivial, hk⟩)) hg hat); have n1_ := Aside0.mk (Kd.R_over' (by (with_reducible repeat (first | apply Kd.R_alloc | apply Kd.R_drewN | apply Kd.R_drew)); exact HO178.out) (Kd.R_typed (by (with_reducible repeat (first | apply Kd.R_alloc | apply Kd.R_drewN | apply Kd.R_drew)); exact HO_6.out)) (by decide) hg); have n2_ := Aside0.mk (hb); have n3_ := Aside0.mk (ho); clear HO_5; clear HO178; clear HB; clear HO_6; have HO_5 := n0_; have HO178 := n1_; have HB := n2_; have HO182 := n3_; clear n0_ n1_ n2_ n3_; clear ho hb hg hat; have p183 : 0 ≤ (x7_1 : Int) := of_decide_eq_true (by first | (with_reducible assumption) | assumption); have q183 : x7_1 < (l0.length : Int) := of_decide_eq_true (by first | (with_reducible assumption) | assumption); obtain ⟨ad183, e183, hx183_0⟩ := Kd.at_string HR0.out x7_1 p183 q183; obtain rfl : ad168 = ad183 := (by injection e183); replace hx183_0 := (HB.out.cell (World.block_lt_of_cell? w _ hx183_0)).trans hx183_0; replace p183 := eq_true p183; replace q183 := eq_true q183) | ((with_reducible refine gate_builtin (b := .append) (xs := #[.tmp 41, .tmp 46]) rfl ?_); at_builtin; refine Kd.R_append Kd.string (w0 := w) w.heap.size rfl (.tmp 41) (.tmp 46) 24 9 (.string ⟨#[]⟩) 16 rfl Tryd.underlying24 info9 rfl (by decide) (by omega) (.slice Ao16 x5_1.length co16) x5_1 (rdOf ByteArray.empty l0 x7_1) [.string (rdOf ByteArray.empty l0 x7_1)] (fun k_ => some k_ ≠ (v181 : Value).ownBlock) (fun _ => False) rfl rfl ?aP (fun _ hk => hk.elim) ?aF ?aO ?aB ?aS ?aL ?_; (case aP => exact rfl); (case aB => exact (by repeat (first | (with_reducible first | exact HB.out | apply below_alloc | apply pw_below_drewN | apply below_drew1) | exact HB.out))); (case aF => exact (fun k_ hk => Kd.fresh' (Kd.R_lt (by (with_reducible repeat (first | apply Kd.R_alloc | apply Kd.R_drewN | apply Kd.R_drew)); exact HO182.out)) k_ hk)); (case aO => exact (by (with_reducible repeat (first | apply Kd.R_alloc | apply Kd.R_drewN | apply Kd.R_drew)); exact Kd.R_mono HO_5.out (fun _ hk => hk.2))); (case aS => exact (below_size (by repeat (first | (with_reducible first | exact HB.out | apply below_alloc | apply pw_below_drewN | apply below_drew1) | exact HB.out)))); (case aL => have := LMc15.out; omega); intro v185 w20 ho hb hg hat; rw [← Ny184.out] at ho; have n0_ := Aside0.mk (Kd.R_over' (by (with_reducible repeat (first | apply Kd.R_alloc | apply Kd.R_drewN | apply Kd.R_drew)); exact HO178.out) (Kd.R_typed (by (with_reducible repeat (first | apply Kd.R_alloc | apply Kd.R_drewN | apply Kd.R_drew)); exact HO_5.out)) (by decide) hg); have n1_ := Aside0.mk (Kd.R_after (ok := (fun _ => True)) (by (with_reducible repeat (first | apply Kd.R_alloc | apply Kd.R_drewN | apply Kd.R_drew)); exact Kd.R_mono HO182.out (fun _ hk => ⟨trivial, hk⟩)) hg hat); have n2_ := Aside0.mk (hb); have n3_ := Aside0.mk (ho); clear HO178; clear HO182; clear HB; clear HO_5; have HO178 := n0_; have HO182 := n1_; have HB := n2_; have HO186 := n3_; clear n0_ n1_ n2_ n3_; clear ho hb hg hat))
                    go_roundg k1
                    case measure => have := HK1.out; omega
                    case rel => exact ⟨(y184), (y180), (wrap64 (x7_1 + 1)), (by first | rfl | (simp; done) | (simp [*]; done)), H', ⟨by have := HK1.out; omega⟩, ⟨by (with_reducible repeat (first | apply Kd.R_alloc | apply Kd.R_drewN | apply Kd.R_drew)); exact HO186.out⟩, ⟨by (with_reducible repeat (first | apply Kd.R_alloc | apply Kd.R_drewN | apply Kd.R_drew)); exact Kd.R_mono HO182.out (fun _ hk => hk.2)⟩, ⟨by repeat (first | (with_reducible first | exact HB.out | apply below_alloc | apply pw_below_drewN | apply below_drew1) | exact HB.out)⟩⟩
                  · rw [if_neg c15] at H
                    exact absurd H (by simp)
                · rw [if_neg c14] at H
                  exact absurd H (by simp)
              · rw [if_neg c13] at H
                exact absurd H (by simp)
          · replace c5 := Bool.eq_false_iff.mpr c5
            subst c5
            have H1 : (some (([] : List Int), ([] : List ByteArray), 6)) = some (r1, r2, r3) := by rw [if_neg (show ¬ (false = true) by decide)] at H; exact H
            clear H
            have H := H1
            clear H1
            simp only [Option.some.injEq, Prod.mk.injEq] at H
            obtain ⟨rfl, rfl, rfl⟩ := H
            have p168 : 0 ≤ (x7_1 : Int) := of_decide_eq_true (by first | (with_reducible assumption) | assumption)
            have q168 : x7_1 < (l0.length : Int) := of_decide_eq_true (by first | (with_reducible assumption) | assumption)
            obtain ⟨ad168, e168, hx168_0⟩ := Kd.at_string HR0.out x7_1 p168 q168
            cases e168
            replace hx168_0 := (HB.out.cell (World.block_lt_of_cell? w _ hx168_0)).trans hx168_0
            replace p168 := eq_true p168
            replace q168 := eq_true q168
            go_wp2_with (first | ((with_reducible refine gate_callee (f := 17) rfl ?_); refine goesL_ (some 18) rfl rfl Tryd.func17 (by kernel_rfl) rfl #[.string (rdOf ByteArray.empty l0 x7_1)] rfl (by (try simp only [List.map_toArray, List.map_cons, List.map_nil]); first | done | rfl | (simp only [List.length_drop, List.length_take]; rfl)) ?_; (with_reducible refine (arlinkref03_Valid.calls k1 (rdOf ByteArray.empty l0 x7_1) false _ A4.out).mono ?_); rintro e w' ⟨rfl, ⟨nd, rfl⟩⟩; refine ⟨_, rfl, ?_⟩))
            go_ret3
            exact ⟨_, _, by first | rfl | (simp [errW_none, errW_some] <;> rfl) | (simp [*, errW_none, errW_some] <;> rfl), by first | exact Kd.R_nil _ _ _ _ _ | exact Kd.N_nil _ _ _ _ _ | exact Kd.V_nil _ _ _ _ _ | exact Kd.Q_nil _ _ _ _ _ | exact Kd.S_nil _ _ _ _ _, by first | exact Kd.R_nil _ _ _ _ _ | exact Kd.N_nil _ _ _ _ _ | exact Kd.V_nil _ _ _ _ _ | exact Kd.Q_nil _ _ _ _ _ | exact Kd.S_nil _ _ _ _ _, by repeat (first | (with_reducible first | exact HB.out | apply below_alloc | apply pw_below_drewN | apply below_drew1) | exact HB.out)⟩
        · rw [if_neg c3] at H
          exact absurd H (by simp)
      · rw [if_neg c2] at H
        have c2b0 : decide (x7_1 < (l0.length : Int)) = false := decide_eq_false c2
        clear c2
        replace H := Option.bind_eq_some_iff.mp H
        obtain ⟨t165, A210, H⟩ := H
        replace H : (some (t165, x6_1, 0)) = some (r1, r2, r3) := H
        have A21 := Aside0.mk A210
        clear A210
        simp only [Option.some.injEq, Prod.mk.injEq] at H
        obtain ⟨rfl, rfl, rfl⟩ := H
        obtain ⟨Ao22, co22, eo22⟩ := Kd.R_slice HO_5.out
        subst eo22
        go_wp2_with (first | ((with_reducible refine gate_callee (f := 15) rfl ?_); refine goesL_ (some 49) rfl rfl Tryd.func15 (by kernel_rfl) rfl #[.slice Ao22 x5_1.length co22] rfl (by (try simp only [List.map_toArray, List.map_cons, List.map_nil]); first | done | rfl | (simp only [List.length_drop, List.length_take]; rfl)) ?_; (with_reducible refine (arlinkref03_Table.calls k1 _ _ x5_1 t165 _ ?side1 ?side2 A21.out).mono ?_); (case side1 => repeat (first | exact (Kd.R_reads' HO_5.out).2.2 | (with_reducible refine Kd.C_alloc ?_ _) | (with_reducible refine Kd.C_drewN ?_ _) | (with_reducible refine Kd.C_drew ?_))); (case side2 => exact (Kd.R_reads' HO_5.out).2.1); rintro e w23 ⟨v166, rfl, ho0, hb⟩; refine ⟨_, rfl, ?_⟩; have n0_ := Aside0.mk (Kd.R_below (by (with_reducible repeat (first | apply Kd.R_alloc | apply Kd.R_drewN | apply Kd.R_drew)); exact HO_5.out) hb); have n1_ := Aside0.mk (Kd.R_below (by (with_reducible repeat (first | apply Kd.R_alloc | apply Kd.R_drewN | apply Kd.R_drew)); exact HO_6.out) hb); have n2_ := Aside0.mk (Kd.R_lower ho0 (below_size (by repeat (first | (with_reducible first | exact HB.out | apply below_alloc | apply pw_below_drewN | apply below_drew1) | exact HB.out)))); have n3_ := Aside0.mk (below_step (by repeat (first | (with_reducible first | exact HB.out | apply below_alloc | apply pw_below_drewN | apply below_drew1) | exact HB.out)) hb); clear HO_5; clear HO_6; clear HB; have HO_5 := n0_; have HO_6 := n1_; have HO167 := n2_; have HB := n3_; clear n0_ n1_ n2_ n3_; (try clear hb); (try clear hb2); (try clear hk); (try clear hi); (try clear ho0)))
        go_ret3
        exact ⟨_, _, by first | rfl | (simp [errW_none, errW_some] <;> rfl) | (simp [*, errW_none, errW_some] <;> rfl), by (with_reducible repeat (first | apply Kd.R_alloc | apply Kd.R_drewN | apply Kd.R_drew)); exact HO167.out, by (with_reducible repeat (first | apply Kd.R_alloc | apply Kd.R_drewN | apply Kd.R_drew)); exact Kd.R_mono HO_6.out (fun _ hk => trivial), by repeat (first | (with_reducible first | exact HB.out | apply below_alloc | apply pw_below_drewN | apply below_drew1) | exact HB.out)⟩

end Go.Proofs.YtjiokdkgbnakhaaDoor.K
