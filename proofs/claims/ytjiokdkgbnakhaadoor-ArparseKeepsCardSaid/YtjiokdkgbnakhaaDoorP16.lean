/- Packed by a program of our own: the texts that the card of this claim needs, part 7 of 7; conditions: those of each theorem. -/
import Derived.Test.YtjiokdkgbnakhaaDoorP15
section TAwakeD
set_option linter.unusedVariables false
set_option linter.unusedSimpArgs false
namespace Go.Proofs.YtjiokdkgbnakhaaDoor.Own
open Go.RowKit Go.Proofs.YtjiokdkgbnakhaaDoor Go.Proofs.YtjiokdkgbnakhaaDoorW.PrintWords Go.Proofs.YtjiokdkgbnakhaaDoorW.PrintLast Go.Proofs.YtjiokdkgbnakhaaDoorW.PrintMore
theorem magic_own (w : World) : Calls Tryd.prog 44 #[] w fun e w' => ∃ v, e = .returned v ∧ OwnB w' w.heap.size v magicL ∧ Below w.heap.size w w' := by
  refine (magic_in w).mono ?_
  rintro e w' ⟨rfl, rfl⟩
  refine ⟨_, rfl, ⟨rfl, Or.inr ⟨w.heap.size, 8, _, _, rfl, Nat.le_refl _, World.alloc_heap_new w _, fun j hj h => by have : j < 8 := hj; omega, by decide, by decide, rfl, rfl⟩⟩, (Below.refl _ _).alloc (Nat.le_refl _) _⟩
theorem R_ownB {w : World} {base : Nat} {ok : Nat → Prop} {v : Value} {xs : List Int} (h : (Kd.int .u8).R 5 w base ok v xs) : OwnB w base v xs := OwnsM.of (Kd.own_of_R h)
theorem four_row (W : World) : (Kd.int .u8).C (W.alloc (.cells #[.int .u8 120, .int .u8 121, .int .u8 122, .int .u8 10] 5)) (some ⟨W.heap.size, 0, none⟩) 4 [120, 121, 122, 10] := by
  refine Kd.C_of_reads (enc := Value.int .u8) (d := (0 : Int)) (h1 := fun _ => rfl) ⟨rfl, by decide, fun _ => ⟨_, rfl, fun j hj => ?_⟩⟩
  rw [cell_add_row (World.alloc_heap_new W _)]
  match j, hj with
  | 0, _ => rfl
  | 1, _ => rfl
  | 2, _ => rfl
  | 3, _ => rfl
theorem three_row (W : World) : (Kd.int .u8).C (W.alloc (.cells #[.int .u8 120, .int .u8 121, .int .u8 122] 5 (3, 4))) (some ⟨W.heap.size, 0, none⟩) 3 [120, 121, 122] := by
  refine Kd.C_of_reads (enc := Value.int .u8) (d := (0 : Int)) (h1 := fun _ => rfl) ⟨rfl, by decide, fun _ => ⟨_, rfl, fun j hj => ?_⟩⟩
  rw [cell_add_row (World.alloc_heap_new W _)]
  match j, hj with
  | 0, _ => rfl
  | 1, _ => rfl
  | 2, _ => rfl
theorem one_row (W : World) : (Kd.int .u8).C (W.alloc (.cells #[.int .u8 120] 5)) (some ⟨W.heap.size, 0, none⟩) 1 [120] := by
  refine Kd.C_of_reads (enc := Value.int .u8) (d := (0 : Int)) (h1 := fun _ => rfl) ⟨rfl, by decide, fun _ => ⟨_, rfl, fun j hj => ?_⟩⟩
  rw [cell_add_row (World.alloc_heap_new W _)]
  match j, hj with
  | 0, _ => rfl
theorem addr_none {w : World} {a : Addr} {v : Value} (h : w.cell? a = some v) : a = ⟨a.block, a.off, none⟩ := by
  unfold World.cell? at h
  obtain ⟨b, o, sp⟩ := a
  cases sp with
  | none => rfl
  | some s => split at h <;> simp at h
theorem add_off (g o j : Nat) : (⟨g, o, none⟩ : Addr).add j = ⟨g, o + j, none⟩ := by unfold Addr.add; split <;> simp_all
def Bk (W : World) (b : Nat) (cs : Array Value) : Prop := W.heap[b]? = some (.cells cs 48 (0, 0))
theorem Bk.go {W W' : World} {b : Nat} {cs : Array Value} (h : Bk W b cs) (hb : Below W.heap.size W W') : Bk W' b cs := by
  unfold Bk at h ⊢
  rw [hb.block b (Array.getElem?_eq_some_iff.1 h).1]; exact h
theorem Bk.new (W : World) (cs : Array Value) : Bk (W.alloc (.cells cs 48)) W.heap.size cs := World.alloc_heap_new W _
theorem Bk.cell {W : World} {b : Nat} {cs : Array Value} (h : Bk W b cs) (i : Nat) : W.cell? ⟨b, i, none⟩ = cs[i]? := cell_of_row W b i _ _ _ h
set_option maxRecDepth 100000 in
set_option maxHeartbeats 4000000 in
theorem awakeD_calls (w : World) (hM : Gmaxlen w) : Calls Tryd.prog 24 #[] w fun e w' => e = .returned (.bool true) ∧ Below w.heap.size w w' := by
  obtain ⟨H, hH⟩ : ∃ H, H = aH := ⟨_, rfl⟩
  obtain ⟨B, hB⟩ : ∃ B, B = aB := ⟨_, rfl⟩
  have he := fun W => encode_in aS 0 0 0 0 3 W (by decide) (by decide) (by decide) (by decide) (by decide)
  rw [aE, ← hH] at he
  have HE := Lib.hid he
  have hl : H.length = 60 := by rw [hH]; exact aHl
  have hBl : B.length = 72 := by rw [hB]; exact aBl
  have hadd : K.arlinkref01_Add.f magicL H = some (magicL ++ H) := by rw [hH]; exact aAdd
  have hbb : magicL ++ H ++ [120, 121, 122, 10] = B := by rw [hH, hB]; rfl
  have HADD := Lib.hid hadd
  have HBB := Lib.hid hbb
  have HM := Lib.hid hM
  have HHe := Lib.hid hH
  have HBe := Lib.hid hB
  have HL := Lib.hid hl
  have HBl := Lib.hid hBl
  clear hM he hH hB hadd hbb hl hBl
  go_enter Tryd.func24, Tryd.ntmps24
  go_wp2_with fail
  refine (HE.out _).mono ?_
  rintro e W1 ⟨v, rfl, hv, hb1⟩
  obtain ⟨A1, c1, rfl⟩ := Rw.slice hv
  have HB1 := Lib.hid hb1
  have HV1 := Lib.hid hv
  clear hv hb1
  go_wp2_with fail
  refine (magic_own _).mono ?_
  rintro e W2 ⟨v, rfl, hv, hb⟩
  obtain ⟨A2, c2, rfl⟩ := Rw.slice hv.rw
  have HB2 := Lib.hid (below_step HB1.out hb)
  replace HV1 := Lib.hid (HV1.out.go hb)
  have HV2 := Lib.hid hv.rw
  clear hv hb
  go_wp2_with fail
  obtain ⟨q1, d1, e1, k1, hx1⟩ := HV1.out
  obtain ⟨q2, d2, e2, k2, hx2⟩ := HV2.out
  injection e1 with e1 _ e1'
  injection e2 with e2 _ e2'
  subst e1 e1' e2 e2'
  refine (K.arlinkref01_Add.calls A2 c2 magicL A1 c1 H _ _ hx2 k2 hx1 k1 HADD.out).mono ?_
  rintro e W3 ⟨v, rfl, hv, hb⟩
  have ho := R_ownB hv
  have HO := Lib.hid ho
  have HB3 := Lib.hid (below_step HB2.out hb)
  have HS := Lib.hid hb.size
  clear hx1 hx2 k1 k2 HV1 HV2 hv hb ho HADD
  go_wp2_with (at_builtin; refine Hid.out ?_)
  refine Lib.hid ?_
  have hb := below_alloc (Below.refl _ _) (w := W3) (.cells #[.int .u8 120, .int .u8 121, .int .u8 122, .int .u8 10] 5)
  refine wpList_append_Rw rfl _ _ rfl W2.heap.size _ _ (by rfl) (HO.out.go hb) _ _ [120, 121, 122, 10] (by rfl) (four_row _) (by rw [List.length_append, HL.out]; decide) (Nat.le_trans HS.out hb.size) ?_
  intro v3 W4 ho hg
  rw [HBB.out] at ho
  have HB4 := Lib.hid ((below_step HB3.out hb).grown hg (by have := HB3.out.size; have := hb.size; omega) (fun k hk => Nat.le_trans HB2.out.size ((HO.out.go hb).base_ k hk)))
  obtain ⟨A3, c3, rfl⟩ := Rw.slice ho.rw
  have HV3 := Lib.hid ho.rw
  clear ho hg hb HO HS HBB
  clear HB1 HB2 HB3
  have he := aF1
  rw [← HBe.out] at he
  have HF1 := Lib.hid he
  clear he
  go_wp2_with fail
  obtain ⟨q3, d3, e3, k3, hx3⟩ := HV3.out
  injection e3 with e3 _ e3'
  subst e3 e3'
  refine (arparse_Parse.calls A3 c3 B _ _ _ _ _ _ _ hx3 k3 (HM.out.below HB4.out) HF1.out).mono ?_
  rintro e W5 ⟨v1, v2, v3, rfl, h1, h2, h3, hb⟩
  obtain ⟨Am, cm, rfl⟩ := Kd.R_slice h1
  obtain ⟨As, cs, rfl, ks, hs⟩ := Kd.S_reads h2
  obtain ⟨Ao, co, rfl, ko, ho⟩ := Kd.R_reads h3
  have HS5 := Lib.hid hs
  have HO5 := Lib.hid ho
  have HB5 := Lib.hid (below_step HB4.out hb)
  replace HV3 := Lib.hid (HV3.out.go hb)
  clear k3 hx3 h1 h2 h3 hs ho hb HF1
  obtain ⟨b4, hb4⟩ : ∃ b4, W5.heap.size = b4 := ⟨_, rfl⟩
  have hk := Bk.new W5 #[.bool false, .slice Am 0 cm, .slice As 1 cs, .slice Ao 1 co]
  have hbx := below_alloc (Below.refl _ _) (w := W5) (.cells #[.bool false, .slice Am 0 cm, .slice As 1 cs, .slice Ao 1 co] 48)
  go_wp2_with fail
  generalize W5.alloc (.cells #[.bool false, .slice Am 0 cm, .slice As 1 cs, .slice Ao 1 co] 48) = X5 at hk hbx ⊢
  rw [hb4] at hk
  try rw [hb4]
  have HK4 := Lib.hid hk
  replace HS5 := Lib.hid (Kd.C_below HS5.out hbx)
  replace HO5 := Lib.hid (Kd.C_below HO5.out hbx)
  have HX5 := Lib.hid (below_step HB5.out hbx)
  replace HV3 := Lib.hid (HV3.out.go hbx)
  clear hk hbx HB5 hb4
  clear HB4
  refine (magic_own _).mono ?_
  rintro e W6 ⟨v, rfl, hv, hb⟩
  obtain ⟨A4, c4, rfl⟩ := Rw.slice hv.rw
  replace HK4 := Lib.hid (HK4.out.go hb)
  replace HS5 := Lib.hid (Kd.C_below HS5.out hb)
  replace HO5 := Lib.hid (Kd.C_below HO5.out hb)
  replace HV3 := Lib.hid (HV3.out.go hb)
  have HB6 := Lib.hid (below_step HX5.out hb)
  have HV6 := Lib.hid hv.rw
  clear hv hb HX5
  go_wp2_with fail
  obtain ⟨q3, d3, e3, k3, hx3⟩ := HV6.out
  injection e3 with e3 _ e3'
  subst e3 e3'
  refine (arparse_Parse.calls A4 c4 magicL _ _ _ _ _ _ _ hx3 k3 (HM.out.below HB6.out) aF2).mono ?_
  rintro e W7 ⟨v1, v2, v3, rfl, h1, h2, h3, hb⟩
  obtain ⟨Am7, cm7, rfl⟩ := Kd.R_slice h1
  obtain ⟨As7, cs7, rfl⟩ := Kd.S_slice h2
  obtain ⟨Ao7, co7, rfl⟩ := Kd.R_slice h3
  have HB7 := Lib.hid (below_step HB6.out hb)
  replace HK4 := Lib.hid (HK4.out.go hb)
  replace HS5 := Lib.hid (Kd.C_below HS5.out hb)
  replace HO5 := Lib.hid (Kd.C_below HO5.out hb)
  replace HV3 := Lib.hid (HV3.out.go hb)
  clear k3 hx3 h1 h2 h3 hb HB6 HV6
  obtain ⟨b7, hb7⟩ : ∃ b7, W7.heap.size = b7 := ⟨_, rfl⟩
  have hk := Bk.new W7 #[.bool false, .slice Am7 0 cm7, .slice As7 0 cs7, .slice Ao7 0 co7]
  have hbx := below_alloc (Below.refl _ _) (w := W7) (.cells #[.bool false, .slice Am7 0 cm7, .slice As7 0 cs7, .slice Ao7 0 co7] 48)
  go_wp2_with fail
  generalize W7.alloc (.cells #[.bool false, .slice Am7 0 cm7, .slice As7 0 cs7, .slice Ao7 0 co7] 48) = X7 at hk hbx ⊢
  rw [hb7] at hk
  try rw [hb7]
  have HK7 := Lib.hid hk
  replace HK4 := Lib.hid (HK4.out.go hbx)
  replace HS5 := Lib.hid (Kd.C_below HS5.out hbx)
  replace HO5 := Lib.hid (Kd.C_below HO5.out hbx)
  have HX7 := Lib.hid (below_step HB7.out hbx)
  replace HV3 := Lib.hid (HV3.out.go hbx)
  clear hk hbx HB7 hb7
  refine (magic_own _).mono ?_
  rintro e W8 ⟨v8, rfl, hv, hb⟩
  have HV8 := Lib.hid hv
  have HB8 := Lib.hid hb
  clear hv hb
  go_wp2_with (at_builtin; refine Hid.out ?_)
  refine Lib.hid ?_
  have hb := below_alloc (Below.refl _ _) (w := W8) (.cells #[.int .u8 120] 5)
  refine wpList_append_Rw rfl _ _ rfl X7.heap.size _ _ (by rfl) (HV8.out.go hb) _ _ [120] (by rfl) (one_row _) (by decide) (Nat.le_trans HB8.out.size hb.size) ?_
  intro v9 W9 ho hg
  have hb9 : Below X7.heap.size X7 W9 := (below_step HB8.out hb).grown hg (Nat.le_trans HB8.out.size hb.size) (fun k hk => (HV8.out.go hb).base_ k hk)
  replace HK4 := Lib.hid (HK4.out.go hb9)
  replace HK7 := Lib.hid (HK7.out.go hb9)
  replace HS5 := Lib.hid (Kd.C_below HS5.out hb9)
  replace HO5 := Lib.hid (Kd.C_below HO5.out hb9)
  replace HV3 := Lib.hid (HV3.out.go hb9)
  have HB9 := Lib.hid (below_step HX7.out hb9)
  obtain ⟨P, hP⟩ : ∃ P, P = magicL ++ [120] := ⟨_, rfl⟩
  rw [← hP] at ho
  have hf := aF3
  rw [← hP] at hf
  have HF3 := Lib.hid hf
  obtain ⟨A9, c9, rfl⟩ := Rw.slice ho.rw
  have HV9 := Lib.hid ho.rw
  clear ho hg hb hb9 HV8 HB8 HX7 hf hP
  go_wp2_with fail
  obtain ⟨q3, d3, e3, k3, hx3⟩ := HV9.out
  injection e3 with e3 _ e3'
  subst e3 e3'
  refine (arparse_Parse.calls A9 c9 P _ _ _ _ _ _ _ hx3 k3 (HM.out.below HB9.out) HF3.out).mono ?_
  rintro e W10 ⟨v1, v2, v3, rfl, h1, h2, h3, hb⟩
  obtain ⟨Am9, cm9, rfl⟩ := Kd.R_slice h1
  obtain ⟨As9, cs9, rfl⟩ := Kd.S_slice h2
  obtain ⟨Ao9, co9, rfl⟩ := Kd.R_slice h3
  have HB10 := Lib.hid (below_step HB9.out hb)
  replace HK4 := Lib.hid (HK4.out.go hb)
  replace HK7 := Lib.hid (HK7.out.go hb)
  replace HS5 := Lib.hid (Kd.C_below HS5.out hb)
  replace HO5 := Lib.hid (Kd.C_below HO5.out hb)
  replace HV3 := Lib.hid (HV3.out.go hb)
  clear k3 hx3 h1 h2 h3 hb HB9 HV9 HF3
  have hbx := below_alloc (Below.refl _ _) (w := W10) (.cells #[.bool false, .slice Am9 0 cm9, .slice As9 0 cs9, .slice Ao9 0 co9] 48)
  have hBl := HBl.out
  obtain ⟨q3, d3, e3, k3, -⟩ := HV3.out
  injection e3 with e3 _ e3'
  subst e3 e3'
  rw [hBl] at k3
  have k3' : (71 : Int) ≤ (c3 : Int) := by omega
  go_wp2_with fail
  generalize W10.alloc (.cells #[.bool false, .slice Am9 0 cm9, .slice As9 0 cs9, .slice Ao9 0 co9] 48) = X10 at hbx ⊢
  replace HK4 := Lib.hid (HK4.out.go hbx)
  replace HK7 := Lib.hid (HK7.out.go hbx)
  replace HS5 := Lib.hid (Kd.C_below HS5.out hbx)
  replace HO5 := Lib.hid (Kd.C_below HO5.out hbx)
  replace HV3 := Lib.hid (HV3.out.go hbx)
  have HX10 := Lib.hid (below_step HB10.out hbx)
  clear hbx HB10
  have ht : (B.take 71).length = 71 := by rw [List.length_take, hBl]; rfl
  have hx := Kd.C_take HV3.out.row (m := 71) (by omega)
  have hf := aF4
  rw [← HBe.out] at hf
  have hp := arparse_Parse.calls A3 c3 (B.take 71) _ _ _ _ _ _ _ hx (by omega) (HM.out.below HX10.out) hf
  rw [ht] at hp
  refine hp.mono ?_
  rintro e W11 ⟨v1, v2, v3, rfl, h1, h2, h3, hb⟩
  obtain ⟨Am11, cm11, rfl⟩ := Kd.R_slice h1
  obtain ⟨As11, cs11, rfl⟩ := Kd.S_slice h2
  obtain ⟨Ao11, co11, rfl⟩ := Kd.R_slice h3
  have hbx := below_step hb (below_alloc (Below.refl _ _) (.cells #[.bool false, .slice Am11 0 cm11, .slice As11 0 cs11, .slice Ao11 0 co11] 48))
  clear hp hf hx ht h1 h2 h3 hb
  have hk4 := HK4.out.go hbx
  have hk7 := HK7.out.go hbx
  have hs5 := Kd.C_below HS5.out hbx
  have ho5 := Kd.C_below HO5.out hbx
  replace HV3 := Lib.hid (HV3.out.go hbx)
  have HX11 := Lib.hid (below_step HX10.out hbx)
  clear hbx HK4 HK7 HS5 HO5 HX10
  have HK4 := Lib.hid hk4
  have HK7 := Lib.hid hk7
  have HS5 := Lib.hid hs5
  have HO5 := Lib.hid ho5
  clear hk4 hk7 hs5 ho5
  have a42 : (W11.alloc (.cells #[.bool false, .slice Am11 0 cm11, .slice As11 0 cs11, .slice Ao11 0 co11] 48)).cell? ⟨b4, 2, none⟩ = some (.slice As 1 cs) := HK4.out.cell 2
  have a43 : (W11.alloc (.cells #[.bool false, .slice Am11 0 cm11, .slice As11 0 cs11, .slice Ao11 0 co11] 48)).cell? ⟨b4, 3, none⟩ = some (.slice Ao 1 co) := HK4.out.cell 3
  go_upto_region 9 with fail
  generalize W11.alloc (.cells #[.bool false, .slice Am11 0 cm11, .slice As11 0 cs11, .slice Ao11 0 co11] 48) = Z at *
  clear k3'
  obtain ⟨ad, cc, rfl, hcl, hcR, hcell⟩ := ReadsRow.get_ HS5.out K.z57 0 (by decide) (by decide)
  obtain ⟨Ad, cd, rfl, kd, hd⟩ := K.k57_open hcR
  obtain ⟨-, -, ho3⟩ := Kd.reads_of_C (enc := Value.int .i64) (d := (0 : Int)) (h1 := fun _ => rfl) HO5.out
  obtain ⟨ao, rfl, hao⟩ := ho3 (by decide)
  have m0 := hcell 0 _ rfl
  have m1 := hcell 1 _ rfl
  have m2 := hcell 2 _ rfl
  have m3 := hcell 3 _ rfl
  have m4 := hcell 4 _ rfl
  have m5 := hcell 5 _ rfl
  have e0 : ad.add (Int.toNat 0 * K.k57.sz + 0) = ad := by unfold Addr.add; split <;> simp_all
  have e1 : ao.add 0 = ao := by unfold Addr.add; split <;> simp_all
  have hao := hao 0 (by decide)
  rw [e1] at hao
  rw [e0] at m0
  have n0 := addr_none m0
  have n1 := addr_none hao
  generalize ad.block = g, ad.off = o at n0
  generalize ao.block = g', ao.off = o' at n1
  subst n0 n1
  rw [add_off] at m1 m2 m3 m4 m5
  replace m0 : Z.cell? ⟨g, o, none⟩ = some (.string ⟨#[97, 46, 111]⟩) := m0
  replace m1 : Z.cell? ⟨g, o + 1, none⟩ = some (.int .i64 0) := m1
  replace m2 : Z.cell? ⟨g, o + 2, none⟩ = some (.int .i64 0) := m2
  replace m3 : Z.cell? ⟨g, o + 3, none⟩ = some (.int .i64 0) := m3
  replace m4 : Z.cell? ⟨g, o + 4, none⟩ = some (.int .i64 0) := m4
  replace m5 : Z.cell? ⟨g, o + 5, none⟩ = some (.slice Ad 3 cd) := m5
  replace hao : Z.cell? ⟨g', o', none⟩ = some (.int .i64 8) := hao
  replace hd : (Kd.int .u8).C Z Ad 3 [120, 121, 122] := hd
  replace kd : 3 ≤ cd := kd
  have hb3 := below_alloc (Below.refl _ _) (w := Z) (.cells #[.int .u8 120, .int .u8 121, .int .u8 122] 5 (3, 4))
  have hsm : Calls Tryd.prog 45 #[.agg #[.string ⟨#[97, 46, 111]⟩, .int .i64 0, .int .i64 0, .int .i64 0, .int .i64 0, .slice Ad 3 cd], .agg #[.string ⟨#[97, 46, 111]⟩, .int .i64 0, .int .i64 0, .int .i64 0, .int .i64 0, .slice (some ⟨Z.heap.size, 0, none⟩) 3 3]] (Z.alloc (.cells #[.int .u8 120, .int .u8 121, .int .u8 122] 5 (3, 4))) fun e w' => e = .returned (.bool true) ∧ Below (Z.alloc (.cells #[.int .u8 120, .int .u8 121, .int .u8 122] 5 (3, 4))).heap.size (Z.alloc (.cells #[.int .u8 120, .int .u8 121, .int .u8 122] 5 (3, 4))) w' :=
    K.arlinkref04_SameMember.calls 9 aN 0 0 0 0 Ad cd [120, 121, 122] aN 0 0 0 0 (some ⟨Z.heap.size, 0, none⟩) 3 [120, 121, 122] true _ (Kd.C_below hd hb3) kd (three_row Z) (Nat.le_refl _) aSame
  have HSM := Lib.hid hsm
  have hi1 : ∀ W, Below Z.heap.size Z W → Calls Tryd.prog 29 #[.slice A3 72 c3] W fun e w' => e = .returned (.bool true) ∧ Drawn0 W w' := by
    intro W hb
    have hx := (HV3.out.go hb).row
    have he := aI1
    rw [← HBe.out] at he
    have hc := K.arparse_Is.calls A3 c3 B true W hx (by omega) he
    rw [hBl] at hc
    exact hc
  have HI1 := Lib.hid hi1
  have hi2 : ∀ W, Calls Tryd.prog 29 #[.slice none 0 0] W fun e w' => e = .returned (.bool false) ∧ Drawn0 W w' := by
    intro W
    obtain ⟨q, d, e, k, hx⟩ := Rw.nil W
    cases e
    exact K.arparse_Is.calls none 0 [] false W hx (Nat.le_refl _) aI2
  have HI2 := Lib.hid hi2
  have a72 : Z.cell? ⟨b7, 2, none⟩ = some (.slice As7 0 cs7) := HK7.out.cell 2
  have HB3 := Lib.hid hb3
  clear hsm hi1 hi2 hd kd hcl hcR hcell e0 e1 ho3 hb3 ks ko k3
  have kc := fun (w : World) (C : Array Value) (n c : Nat) => Lib.run_convert_bytes_const (P := Tryd.prog) w 22 5 C n c Tryd.underlying22 Tryd.underlying5
  go_wp2_with (first
    | (go_at_call 45; refine HSM.out.mono ?_; rintro e y ⟨rfl, hb⟩; have hz := below_step HB3.out hb; have HZ := Lib.hid hz; have b43 := pw_cell_below hz a43; have bao := pw_cell_below hz hao; have b72 := pw_cell_below hz a72; clear hb hz)
    | (go_at_call 29; (with_reducible refine (HI1.out _ HZ.out).mono ?_); rintro e y2 ⟨rfl, ⟨nd, rfl⟩⟩)
    | (go_at_call 29; (with_reducible refine (HI2.out _).mono ?_); rintro e y3 ⟨rfl, ⟨nd2, rfl⟩⟩))
  go_ret
  exact ⟨rfl, pw_below_drewN (below_step HX11.out HZ.out) _⟩
def arlinklaw04_awake.f : Option Bool := some true
theorem arlinklaw04_awake.calls (r : Bool) (w : World) (hGmaxlen : Gmaxlen w) (h : arlinklaw04_awake.f = some r) : Calls Tryd.prog 24 #[] w fun e w' => e = .returned (.bool r) ∧ Below w.heap.size w w' := by
  have h' : some true = some r := h
  cases h'
  exact awakeD_calls w hGmaxlen
#print axioms arlinklaw04_awake.calls
end Go.Proofs.YtjiokdkgbnakhaaDoor.Own
end TAwakeD
section TKx25
namespace Go.Proofs.YtjiokdkgbnakhaaDoor.Own
end Go.Proofs.YtjiokdkgbnakhaaDoor.Own
namespace Go.Proofs.YtjiokdkgbnakhaaDoor.K
open Go.RowKit Go.Proofs.YtjiokdkgbnakhaaDoorW.PrintWords Go.Proofs.YtjiokdkgbnakhaaDoorW.PrintLast Go.Proofs.YtjiokdkgbnakhaaDoorW.PrintMore Go.Proofs.YtjiokdkgbnakhaaDoor.Own
attribute [local go_sem] max2_int min2_int max_two min_two max_three min_three max_four min_four
set_option linter.unusedVariables false
set_option linter.unusedSimpArgs false
mutual
def arlinklaw04_ArparseKeeps.j0 : Nat → List Int → Bool → Option (Bool)
  | 0, _, _ => none
  | k + 1, x0, x16 => if x16 = true then ((arlinklaw04_awake.f).bind fun t625 => (some t625)) else ((some (([] : List Int) : List Int)).bind fun y626 => (if y626.length + x0.length < 140737488355328 then ((some (y626 ++ x0 : List Int)).bind fun y629 => ((arparse_Parse.f y629).bind fun bt632 => (arlinklaw04_ArparseKeeps.l0 k x0 y629 0 bt632.1 bt632.2.1 bt632.2.2.1 bt632.2.2.2.1))) else (none)))
def arlinklaw04_ArparseKeeps.l0 : Nat → List Int → List Int → Int → Bool → List Int → List (S57) → List Int → Option (Bool)
  | 0, _, _, _, _, _, _, _ => none
  | k + 1, x0, x3, x7, x645000, x645001, x645002, x645003 => if x7 < (x645002.length : Int) then (arlinklaw04_ArparseKeeps.l1 k x0 x3 x7 0 x645000 x645001 x645002 x645003) else (arlinklaw04_ArparseKeeps.l2 k x0 x3 0 x645000 x645001 x645002 x645003)
def arlinklaw04_ArparseKeeps.l1 : Nat → List Int → List Int → Int → Int → Bool → List Int → List (S57) → List Int → Option (Bool)
  | 0, _, _, _, _, _, _, _, _ => none
  | k + 1, x0, x3, x7, x8, x645000, x645001, x645002, x645003 => if 0 ≤ x7 then (if x7 < (x645002.length : Int) then (if x8 < (((rd_T57 x645002 x7).f5).length : Int) then (if 0 ≤ x8 then (arlinklaw04_ArparseKeeps.l1 k x0 x3 x7 (wrap64 (x8 + 1)) x645000 x645001 (x645002.set (x7 : Int).toNat (⟨(rd_T57 x645002 x7).f0, (rd_T57 x645002 x7).f1, (rd_T57 x645002 x7).f2, (rd_T57 x645002 x7).f3, (rd_T57 x645002 x7).f4, (((rd_T57 x645002 x7).f5).set (x8 : Int).toNat (((rd ((rd_T57 x645002 x7).f5) x8) + 1) % 256))⟩ : S57)) x645003) else (none)) else (arlinklaw04_ArparseKeeps.l0 k x0 x3 (wrap64 (x7 + 1)) x645000 x645001 x645002 x645003)) else (none)) else (none)
def arlinklaw04_ArparseKeeps.l2 : Nat → List Int → List Int → Int → Bool → List Int → List (S57) → List Int → Option (Bool)
  | 0, _, _, _, _, _, _, _ => none
  | k + 1, x0, x3, x9, x645000, x645001, x645002, x645003 => if x9 < (x645001.length : Int) then (if 0 ≤ x9 then (arlinklaw04_ArparseKeeps.l2 k x0 x3 (wrap64 (x9 + 1)) x645000 (x645001.set (x9 : Int).toNat (((rd x645001 x9) + 1) % 256)) x645002 x645003) else (none)) else ((arlinkref01_Same.f k x3 x0).bind fun t653 => (some t653))
end
def arlinklaw04_ArparseKeeps.f (k : Nat) (l0 : List Int) : Option (Bool) := (arlinklaw04_awake.f).bind fun t624 => (if t624 = true then (arlinklaw04_ArparseKeeps.j0 k l0 (decide ((l0.length : Int) > 20000))) else (arlinklaw04_ArparseKeeps.j0 k l0 true))
set_option maxHeartbeats 8000000 in
set_option maxRecDepth 100000 in
theorem arlinklaw04_ArparseKeeps.calls (k : Nat) (A0 : Option Addr) (c0 : Nat) (l0 : List Int) (r : Bool) (w : World) (hr0 : Kd.C (Kd.int .u8) w A0 l0.length l0) (hc0 : l0.length ≤ c0) (hGmaxlen : Gmaxlen w) (h : arlinklaw04_ArparseKeeps.f k l0 = some r) :
    Calls Tryd.prog 11 #[.slice A0 l0.length c0] w fun e w' => e = .returned (.bool r) ∧ Below w.heap.size w w' := by
  have hu48 := Tryd.underlying48
  have HR0 := Aside0.mk hr0
  have HC0 := Aside0.mk hc0
  clear hr0 hc0
  have HGmaxlen := Aside0.mk hGmaxlen
  clear hGmaxlen
  have HB := Aside0.mk (Below.refl w.heap.size w)
  have H : ((arlinklaw04_awake.f).bind fun t624 => (if t624 = true then (arlinklaw04_ArparseKeeps.j0 k l0 (decide ((l0.length : Int) > 20000))) else (arlinklaw04_ArparseKeeps.j0 k l0 true))) = some r := h
  clear h
  have HC2 := Aside0.mk H
  clear H
  go_enter Tryd.func11, Tryd.ntmps11
  go_upto_region 1 with (fail)
  go_cut [16] (fun v16 wc => ∃ (kq : Nat) (x16_1 : Bool), v16 = .bool x16_1 ∧ Aside0 (arlinklaw04_ArparseKeeps.j0 kq l0 x16_1 = some r) ∧ Aside0 (kq ≤ k) ∧ Aside0 (Below w.heap.size w wc))
  case first =>
    have H := HC2.out
    clear HC2
    replace H := Option.bind_eq_some_iff.mp H
    obtain ⟨t624, A30, H⟩ := H
    replace H : (if t624 = true then (arlinklaw04_ArparseKeeps.j0 k l0 (decide ((l0.length : Int) > 20000))) else (arlinklaw04_ArparseKeeps.j0 k l0 true)) = some r := H
    have A3 := Aside0.mk A30
    clear A30
    by_cases c4 : t624 = true
    · subst c4
      have H1 : (arlinklaw04_ArparseKeeps.j0 k l0 (decide ((l0.length : Int) > 20000))) = some r := by rw [if_pos rfl] at H; exact H
      clear H
      have H := H1
      clear H1
      have H' := Aside0.mk H
      clear H
      go_wp2_with (first | ((with_reducible refine gate_callee (f := 24) rfl ?_); refine goesL_ (some 10) rfl rfl Tryd.func24 (by kernel_rfl) rfl #[] rfl (by (try simp only [List.map_toArray, List.map_cons, List.map_nil]); first | done | rfl | (simp only [List.length_drop, List.length_take]; rfl)) ?_; (with_reducible refine (arlinklaw04_awake.calls  true _ ?side1 A3.out).mono ?_); (case side1 => exact Gmaxlen.below HGmaxlen.out (by repeat (first | (with_reducible first | exact HB.out | apply below_alloc | apply pw_below_drewN | apply below_drew1) | exact HB.out))); rintro e w5 ⟨rfl, hb⟩; refine ⟨_, rfl, ?_⟩; have n0_ := Aside0.mk (below_step (by repeat (first | (with_reducible first | exact HB.out | apply below_alloc | apply pw_below_drewN | apply below_drew1) | exact HB.out)) hb); clear HB; have HB := n0_; clear n0_; (try clear hb); (try clear hb2); (try clear hk); (try clear hi)))
      go_meet
      case rel => exact ⟨_, (decide ((l0.length : Int) > 20000)), (by first | rfl | (simp; done) | (simp [*]; done)), H', ⟨by first | omega | exact Nat.le_refl _⟩, ⟨by repeat (first | (with_reducible first | exact HB.out | apply below_alloc | apply pw_below_drewN | apply below_drew1) | exact HB.out)⟩⟩
    · replace c4 := Bool.eq_false_iff.mpr c4
      subst c4
      have H1 : (arlinklaw04_ArparseKeeps.j0 k l0 true) = some r := by rw [if_neg (show ¬ (false = true) by decide)] at H; exact H
      clear H
      have H := H1
      clear H1
      have H' := Aside0.mk H
      clear H
      go_wp2_with (first | ((with_reducible refine gate_callee (f := 24) rfl ?_); refine goesL_ (some 10) rfl rfl Tryd.func24 (by kernel_rfl) rfl #[] rfl (by (try simp only [List.map_toArray, List.map_cons, List.map_nil]); first | done | rfl | (simp only [List.length_drop, List.length_take]; rfl)) ?_; (with_reducible refine (arlinklaw04_awake.calls  false _ ?side1 A3.out).mono ?_); (case side1 => exact Gmaxlen.below HGmaxlen.out (by repeat (first | (with_reducible first | exact HB.out | apply below_alloc | apply pw_below_drewN | apply below_drew1) | exact HB.out))); rintro e w6 ⟨rfl, hb⟩; refine ⟨_, rfl, ?_⟩; have n0_ := Aside0.mk (below_step (by repeat (first | (with_reducible first | exact HB.out | apply below_alloc | apply pw_below_drewN | apply below_drew1) | exact HB.out)) hb); clear HB; have HB := n0_; clear n0_; (try clear hb); (try clear hb2); (try clear hk); (try clear hi)))
      go_meet
      case rel => exact ⟨_, (true), (by first | rfl | (simp; done) | (simp [*]; done)), H', ⟨by first | omega | exact Nat.le_refl _⟩, ⟨by repeat (first | (with_reducible first | exact HB.out | apply below_alloc | apply pw_below_drewN | apply below_drew1) | exact HB.out)⟩⟩
  case rest =>
    clear HC2
    try clear c1
    try clear c2
    try clear p2
    try clear c4
    obtain ⟨kq, x16_1, rfl, HA, HJ1, HB⟩ := hcut
    cases kq with
    | zero => exact absurd HA.out (by simp [arlinklaw04_ArparseKeeps.j0])
    | succ kj1 =>
      have H := HA.out
      clear HA
      simp only [arlinklaw04_ArparseKeeps.j0] at H
      by_cases c7 : x16_1 = true
      · subst c7
        have H1 : ((arlinklaw04_awake.f).bind fun t625 => (some t625)) = some r := by rw [if_pos rfl] at H; exact H
        clear H
        have H := H1
        clear H1
        replace H := Option.bind_eq_some_iff.mp H
        obtain ⟨t625, A80, H⟩ := H
        replace H : (some t625) = some r := H
        have A8 := Aside0.mk A80
        clear A80
        obtain rfl := Option.some.inj H
        go_wp2_with (first | ((with_reducible refine gate_callee (f := 24) rfl ?_); refine goesL_ (some 17) rfl rfl Tryd.func24 (by kernel_rfl) rfl #[] rfl (by (try simp only [List.map_toArray, List.map_cons, List.map_nil]); first | done | rfl | (simp only [List.length_drop, List.length_take]; rfl)) ?_; (with_reducible refine (arlinklaw04_awake.calls  t625 _ ?side1 A8.out).mono ?_); (case side1 => exact Gmaxlen.below HGmaxlen.out (by repeat (first | (with_reducible first | exact HB.out | apply below_alloc | apply pw_below_drewN | apply below_drew1) | exact HB.out))); rintro e w9 ⟨rfl, hb⟩; refine ⟨_, rfl, ?_⟩; have n0_ := Aside0.mk (below_step (by repeat (first | (with_reducible first | exact HB.out | apply below_alloc | apply pw_below_drewN | apply below_drew1) | exact HB.out)) hb); clear HB; have HB := n0_; clear n0_; (try clear hb); (try clear hb2); (try clear hk); (try clear hi)))
        go_ret
        exact ⟨by first | rfl | (simp [errW_none, errW_some] <;> rfl) | (simp [*, errW_none, errW_some] <;> rfl), by repeat (first | (with_reducible first | exact HB.out | apply below_alloc | apply pw_below_drewN | apply below_drew1) | exact HB.out)⟩
      · replace c7 := Bool.eq_false_iff.mpr c7
        subst c7
        have H1 : ((some (([] : List Int) : List Int)).bind fun y626 => (if y626.length + l0.length < 140737488355328 then ((some (y626 ++ l0 : List Int)).bind fun y629 => ((arparse_Parse.f y629).bind fun bt632 => (arlinklaw04_ArparseKeeps.l0 kj1 l0 y629 0 bt632.1 bt632.2.1 bt632.2.2.1 bt632.2.2.2.1))) else (none))) = some r := by rw [if_neg (show ¬ (false = true) by decide)] at H; exact H
        clear H
        have H := H1
        clear H1
        obtain ⟨y626, hy626⟩ : ∃ y_ : List Int, y_ = (([] : List Int)) := ⟨_, rfl⟩
        replace H : (if y626.length + l0.length < 140737488355328 then ((some (y626 ++ l0 : List Int)).bind fun y629 => ((arparse_Parse.f y629).bind fun bt632 => (arlinklaw04_ArparseKeeps.l0 kj1 l0 y629 0 bt632.1 bt632.2.1 bt632.2.2.1 bt632.2.2.2.1))) else (none)) = some r := by first | (rw [hy626]; with_reducible exact H) | (have H2_ := (Option.bind_some _ _).symm.trans H; rw [hy626]; with_reducible exact H2_) | (have H2_ := (Option.bind_some _ _).symm.trans H; with_reducible exact H2_) | with_reducible exact H | (rw [hy626]; exact H) | exact H
        have Ny626 := Aside0.mk hy626
        clear hy626
        by_cases c10 : y626.length + l0.length < 140737488355328
        · rw [if_pos c10] at H
          have LMc10 := Aside0.mk c10
          clear c10
          obtain ⟨y629, hy629⟩ : ∃ y_ : List Int, y_ = (y626 ++ l0) := ⟨_, rfl⟩
          replace H : ((arparse_Parse.f y629).bind fun bt632 => (arlinklaw04_ArparseKeeps.l0 kj1 l0 y629 0 bt632.1 bt632.2.1 bt632.2.2.1 bt632.2.2.2.1)) = some r := by first | (rw [hy629]; with_reducible exact H) | (have H2_ := (Option.bind_some _ _).symm.trans H; rw [hy629]; with_reducible exact H2_) | (have H2_ := (Option.bind_some _ _).symm.trans H; with_reducible exact H2_) | with_reducible exact H | (rw [hy629]; exact H) | exact H
          have Ny629 := Aside0.mk hy629
          clear hy629
          replace H := Option.bind_eq_some_iff.mp H
          obtain ⟨⟨t632, t633, t636, t639, t642, t643⟩, A110, H⟩ := H
          replace H : (arlinklaw04_ArparseKeeps.l0 kj1 l0 y629 0 t632 t633 t636 t639) = some r := H
          have A11 := Aside0.mk A110
          clear A110
          have H' := Aside0.mk H
          clear H
          go_wp2_with (first | ((with_reducible refine gate_dst (N := 18) rfl ?_); (try (refine gate_guard (by rfl) ?_; dsimp only)); refine Kd.R_lit (Kd.int .u8) _ 5 ?hg (N := 18) ?hd (xs := ([] : List Int)) (inner := []) (ok := fun _ => True) (okp := fun _ => True) ?hr ?hp (fun _ hk => hk) trivial (Below.refl _ _) (Nat.le_refl _) (by simp) ?_; (case hd => rfl); (case hg => rfl); (case hr => first | (go_simp; done) | (go_simp; rfl)); (case hp => exact (Reps.none _ _)); intro v627 w12 ho13 hb hg_ hnew_; clear hg_ hnew_; (first | rw [← Ny626.out] at ho13 | (simp only [Int.reduceToNat] at ho13; rw [← Ny626.out] at ho13)); have n0_ := Aside0.mk (Kd.R_lower ho13 (below_size (by repeat (first | (with_reducible first | exact HB.out | apply below_alloc | apply pw_below_drewN | apply below_drew1) | exact HB.out)))); have n1_ := Aside0.mk (below_step (by repeat (first | (with_reducible first | exact HB.out | apply below_alloc | apply pw_below_drewN | apply below_drew1) | exact HB.out)) hb); clear HB; have HO628 := n0_; have HB := n1_; clear n0_ n1_; clear hb ho13) | ((with_reducible refine gate_builtin (b := .append) (xs := #[.tmp 18, .tmp 19]) rfl ?_); (try (refine gate_guard (by rfl) ?_; dsimp only)); at_builtin; refine Kd.R_append_rows (Kd.int .u8) (w0 := w) w.heap.size rfl (.tmp 18) (.tmp 19) 22 5 (.int .u8 0) 1 rfl Tryd.underlying22 info5 rfl (by decide) (by omega) v627 y626 l0 _ _ _ (fun _ => True) (fun _ => False) rfl rfl ?aO ?aR (fun _ _ h => h) (fun _ h => h.elim) ?aF ?aB ?aS ?aL ?_; (case aR => repeat (first | exact (Kd.C_below HR0.out HB.out) | (with_reducible refine Kd.C_alloc ?_ _) | (with_reducible refine Kd.C_drewN ?_ _) | (with_reducible refine Kd.C_drew ?_))); (case aB => exact (by repeat (first | (with_reducible first | exact HB.out | apply below_alloc | apply pw_below_drewN | apply below_drew1) | exact HB.out))); (case aF => exact (fun _ _ => trivial)); (case aO => exact (by (with_reducible repeat (first | apply Kd.R_alloc | apply Kd.R_drewN | apply Kd.R_drew)); exact HO628.out)); (case aS => exact (below_size (by repeat (first | (with_reducible first | exact HB.out | apply below_alloc | apply pw_below_drewN | apply below_drew1) | exact HB.out)))); (case aL => have := LMc10.out; omega); intro v630 w14 ho hb hg hat; rw [← Ny629.out] at ho; have n0_ := Aside0.mk (hb); have n1_ := Aside0.mk (ho); clear HB; clear HO628; have HB := n0_; have HO631 := n1_; clear n0_ n1_; clear ho hb hg hat; obtain ⟨Ao15, co15, eo15⟩ := Kd.R_slice HO631.out; subst eo15) | ((with_reducible refine gate_callee (f := 25) rfl ?_); refine goesL_ (some 23) rfl rfl Tryd.func25 (by kernel_rfl) rfl #[.slice Ao15 y629.length co15] rfl (by (try simp only [List.map_toArray, List.map_cons, List.map_nil]); first | done | rfl | (simp only [List.length_drop, List.length_take]; rfl)) ?_; (with_reducible refine (arparse_Parse.calls _ _ y629 t632 t633 t636 t639 t642 t643 _ ?side1 ?side2 ?side3 A11.out).mono ?_); (case side1 => repeat (first | exact (Kd.R_reads' HO631.out).2.2 | (with_reducible refine Kd.C_alloc ?_ _) | (with_reducible refine Kd.C_drewN ?_ _) | (with_reducible refine Kd.C_drew ?_))); (case side2 => exact (Kd.R_reads' HO631.out).2.1); (case side3 => exact Gmaxlen.below HGmaxlen.out (by repeat (first | (with_reducible first | exact HB.out | apply below_alloc | apply pw_below_drewN | apply below_drew1) | exact HB.out))); rintro e w16 ⟨v634, v637, v640, rfl, ho0, ho1, ho2, hb⟩; refine ⟨_, rfl, ?_⟩; have n0_ := Aside0.mk (Kd.R_elder' (by (with_reducible repeat (first | apply Kd.R_alloc | apply Kd.R_drewN | apply Kd.R_drew)); exact HO631.out) (Kd.R_base ho0) hb); have n1_ := Aside0.mk (Kd.R_lower (Kd.R_new' ho0 (Kd.R_lt (by (with_reducible repeat (first | apply Kd.R_alloc | apply Kd.R_drewN | apply Kd.R_drew)); exact HO631.out))) (below_size (by repeat (first | (with_reducible first | exact HB.out | apply below_alloc | apply pw_below_drewN | apply below_drew1) | exact HB.out)))); have n2_ := Aside0.mk (Kd.S_lower (Kd.S_new' ho1 (Kd.R_lt (by (with_reducible repeat (first | apply Kd.R_alloc | apply Kd.R_drewN | apply Kd.R_drew)); exact HO631.out))) (below_size (by repeat (first | (with_reducible first | exact HB.out | apply below_alloc | apply pw_below_drewN | apply below_drew1) | exact HB.out)))); have n3_ := Aside0.mk (Kd.R_lower ho2 (below_size (by repeat (first | (with_reducible first | exact HB.out | apply below_alloc | apply pw_below_drewN | apply below_drew1) | exact HB.out)))); have n4_ := Aside0.mk (below_step (by repeat (first | (with_reducible first | exact HB.out | apply below_alloc | apply pw_below_drewN | apply below_drew1) | exact HB.out)) hb); clear HO631; clear HB; have HO631 := n0_; have HO635 := n1_; have HO638 := n2_; have HO641 := n3_; have HB := n4_; clear n0_ n1_ n2_ n3_ n4_; (try clear hb); (try clear hb2); (try clear hk); (try clear hi); (try clear ho0); (try clear ho1); (try clear ho2)) | ((with_reducible refine gate_dst (N := 4) rfl ?_); (try (refine gate_guard (by rfl) ?_; dsimp only)); refine box_event ?hg (N := 4) ?hd (cs := #[.bool false, .slice none 0 0, .slice none 0 0, .slice none 0 0]) (t := 48) ?hr ?_; (case hd => rfl); (case hg => rfl); (case hr => first | (go_simp; done) | (go_simp; rfl)); intro gb644 hg w17 hbox hb; have n0_ := Aside0.mk (Kd.R_below (by (with_reducible repeat (first | apply Kd.R_alloc | apply Kd.R_drewN | apply Kd.R_drew)); exact HO631.out) hb); have n1_ := Aside0.mk (Kd.R_below (by (with_reducible repeat (first | apply Kd.R_alloc | apply Kd.R_drewN | apply Kd.R_drew)); exact HO635.out) hb); have n2_ := Aside0.mk (Kd.S_below (by (with_reducible repeat (first | apply Kd.S_alloc | apply Kd.S_drewN | apply Kd.S_drew)); exact HO638.out) hb); have n3_ := Aside0.mk (Kd.R_below (by (with_reducible repeat (first | apply Kd.R_alloc | apply Kd.R_drewN | apply Kd.R_drew)); exact HO641.out) hb); have n4_ := Aside0.mk (below_step (by repeat (first | (with_reducible first | exact HB.out | apply below_alloc | apply pw_below_drewN | apply below_drew1) | exact HB.out)) hb); have n5_ := Aside0.mk (hbox); have n6_ := Aside0.mk ((by rw [hg]; exact (below_size (by repeat (first | (with_reducible first | exact HB.out | apply below_alloc | apply pw_below_drewN | apply below_drew1) | exact HB.out))) : w.heap.size ≤ gb644)); have n7_ := Aside0.mk ((by rw [hg]; exact (below_size (by repeat (first | (with_reducible first | exact HB.out | apply below_alloc | apply pw_below_drewN | apply below_drew1) | exact HB.out))) : w.heap.size ≤ gb644)); clear HO631; clear HO635; clear HO638; clear HO641; clear HB; have HO631 := n0_; have HO635 := n1_; have HO638 := n2_; have HO641 := n3_; have HB := n4_; have BK644 := n5_; have GW644 := n6_; have GE644 := n7_; clear n0_ n1_ n2_ n3_ n4_ n5_ n6_ n7_; clear hb hbox hg; have hcz18_0 : w17.cell? ⟨gb644, 0, none⟩ = some (.bool false) := (blk_cell BK644.out 0).trans rfl; have hcz18_1 : w17.cell? ⟨gb644, 1, none⟩ = some (.slice none 0 0) := (blk_cell BK644.out 1).trans rfl; have hcz18_2 : w17.cell? ⟨gb644, 2, none⟩ = some (.slice none 0 0) := (blk_cell BK644.out 2).trans rfl; have hcz18_3 : w17.cell? ⟨gb644, 3, none⟩ = some (.slice none 0 0) := (blk_cell BK644.out 3).trans rfl; have hfz18_0 := blk_frozen BK644.out 0; have hfz18_1 := blk_frozen BK644.out 1; have hfz18_2 := blk_frozen BK644.out 2; have hfz18_3 := blk_frozen BK644.out 3; obtain ⟨Ao19, co19, eo19⟩ := Kd.R_slice HO635.out; subst eo19; obtain ⟨Ao20, co20, eo20⟩ := Kd.S_slice HO638.out; subst eo20; obtain ⟨Ao21, co21, eo21⟩ := Kd.R_slice HO641.out; subst eo21))
          go_loopg [7] kj1 (fun kq v7 w' => ∃ (x3_2 : List Int) (x7_2 : Int) (x645001_2 : List Int) (x645002_2 : List (S57)) (u645001 : Value) (u645002 : Value), v7 = .int .i64 x7_2 ∧ Aside0 (arlinklaw04_ArparseKeeps.l0 kq l0 x3_2 x7_2 t632 x645001_2 x645002_2 t639 = some r) ∧ Aside0 (kq ≤ kj1) ∧ Aside0 (Kd.R (Kd.int .u8) 5 w' w.heap.size (fun k_ => some k_ ≠ (u645001 : Value).ownBlock) (.slice Ao15 y629.length co15) x3_2) ∧ Aside0 (Kd.R (Kd.int .u8) 5 w' w.heap.size (fun k_ => some k_ ≠ ((.slice Ao15 y629.length co15) : Value).ownBlock) u645001 x645001_2) ∧ Aside0 (Kd.S k57 57 w' w.heap.size (fun k_ => some k_ ≠ ((.slice Ao15 y629.length co15) : Value).ownBlock ∧ some k_ ≠ (u645001 : Value).ownBlock) u645002 x645002_2) ∧ Aside0 (Kd.R (Kd.int .i64) 3 w' w.heap.size (fun _ => True) (.slice Ao21 t639.length co21) t639) ∧ Aside0 (w'.heap[gb644]? = some (.cells #[.bool t632, u645001, u645002, (.slice Ao21 t639.length co21)] 48 (0, 0))) ∧ Aside0 (Below w.heap.size w w'))
          case atStart => exact ⟨(y629), (0), (t633), (t636), (.slice Ao19 t633.length co19), (.slice Ao20 t636.length co20), (by first | rfl | (simp; done) | (simp [*]; done)), H', ⟨Nat.le_refl _⟩, ⟨by (with_reducible repeat (first | apply Kd.R_alloc | apply Kd.R_drewN | apply Kd.R_drew)); exact Kd.R_mono (Kd.R_far (p := ⟨gb644, 3, none⟩) (Kd.R_far (p := ⟨gb644, 2, none⟩) (Kd.R_far (p := ⟨gb644, 1, none⟩) (Kd.R_far (p := ⟨gb644, 0, none⟩) (Kd.R_types HO631.out BK644.out (by decide)) (fun _ hk => hk.2) (.bool t632)) (fun _ hk => hk.2) (.slice Ao19 t633.length co19)) (fun _ hk => hk.2) (.slice Ao20 t636.length co20)) (fun _ hk => hk.2) (.slice Ao21 t639.length co21)) (fun _ hk => hk.1.2)⟩, ⟨by (with_reducible repeat (first | apply Kd.R_alloc | apply Kd.R_drewN | apply Kd.R_drew)); exact Kd.R_mono (Kd.R_far (p := ⟨gb644, 3, none⟩) (Kd.R_far (p := ⟨gb644, 2, none⟩) (Kd.R_far (p := ⟨gb644, 1, none⟩) (Kd.R_far (p := ⟨gb644, 0, none⟩) (Kd.R_types HO635.out BK644.out (by decide)) (fun _ hk => hk.2) (.bool t632)) (fun _ hk => hk.2) (.slice Ao19 t633.length co19)) (fun _ hk => hk.2) (.slice Ao20 t636.length co20)) (fun _ hk => hk.2) (.slice Ao21 t639.length co21)) (fun _ hk => hk.1.2)⟩, ⟨by (with_reducible repeat (first | apply Kd.S_alloc | apply Kd.S_drewN | apply Kd.S_drew)); exact Kd.S_mono (Kd.S_far (p := ⟨gb644, 3, none⟩) (Kd.S_far (p := ⟨gb644, 2, none⟩) (Kd.S_far (p := ⟨gb644, 1, none⟩) (Kd.S_far (p := ⟨gb644, 0, none⟩) (Kd.S_types HO638.out BK644.out (by decide)) (fun _ hk => hk.2) (.bool t632)) (fun _ hk => hk.2) (.slice Ao19 t633.length co19)) (fun _ hk => hk.2) (.slice Ao20 t636.length co20)) (fun _ hk => hk.2) (.slice Ao21 t639.length co21)) (fun _ hk => ⟨hk.1.2, hk.1.1⟩)⟩, ⟨by (with_reducible repeat (first | apply Kd.R_alloc | apply Kd.R_drewN | apply Kd.R_drew)); exact Kd.R_mono (Kd.R_far (p := ⟨gb644, 3, none⟩) (Kd.R_far (p := ⟨gb644, 2, none⟩) (Kd.R_far (p := ⟨gb644, 1, none⟩) (Kd.R_far (p := ⟨gb644, 0, none⟩) (Kd.R_types HO641.out BK644.out (by decide)) (fun _ hk => hk.2) (.bool t632)) (fun _ hk => hk.2) (.slice Ao19 t633.length co19)) (fun _ hk => hk.2) (.slice Ao20 t636.length co20)) (fun _ hk => hk.2) (.slice Ao21 t639.length co21)) (fun _ hk => trivial)⟩, ⟨by (with_reducible repeat (first | refine blk_drewN ?_ _ | refine blk_drew ?_ | refine blk_alloc ?_ _)); refine blk_put (cs := #[.bool t632, .slice Ao19 t633.length co19, .slice Ao20 t636.length co20, .slice none 0 0]) ?_ 3 _ rfl; (with_reducible repeat (first | refine blk_drewN ?_ _ | refine blk_drew ?_ | refine blk_alloc ?_ _)); refine blk_put (cs := #[.bool t632, .slice Ao19 t633.length co19, .slice none 0 0, .slice none 0 0]) ?_ 2 _ rfl; (with_reducible repeat (first | refine blk_drewN ?_ _ | refine blk_drew ?_ | refine blk_alloc ?_ _)); refine blk_put (cs := #[.bool t632, .slice none 0 0, .slice none 0 0, .slice none 0 0]) ?_ 1 _ rfl; (with_reducible repeat (first | refine blk_drewN ?_ _ | refine blk_drew ?_ | refine blk_alloc ?_ _)); refine blk_put (cs := #[.bool false, .slice none 0 0, .slice none 0 0, .slice none 0 0]) ?_ 0 _ rfl; (with_reducible repeat (first | refine blk_drewN ?_ _ | refine blk_drew ?_ | refine blk_alloc ?_ _)); exact BK644.out⟩, ⟨by repeat (first | (with_reducible first | exact HB.out | apply below_alloc | apply pw_below_drewN | apply below_drew1 | refine below_set ?_ GE644.out) | exact HB.out)⟩⟩
          case round =>
            clear H'
            try clear c1
            try clear c2
            try clear p2
            try clear c4
            try clear c7
            try clear c10
            try clear c11
            try clear hcz18_0
            try clear hcz18_1
            try clear hcz18_2
            try clear hcz18_3
            try clear hfz18_0
            try clear hfz18_1
            try clear hfz18_2
            try clear hfz18_3
            try clear p2
            obtain ⟨x3_2, x7_2, x645001_2, x645002_2, u645001, u645002, rfl, HA, HK2, HO_3, HO_645001, HO_645002, HO_645003, BK644, HB⟩ := hrel
            have hl3_2 := (Kd.R_reads' HO_3.out).1
            rw [hl3_2] at HO_3
            (try simp only [hl3_2])
            (try simp only [hl3_2] at BK644)
            (try simp only [hl3_2] at HO_645001)
            (try simp only [hl3_2] at HO_645002)
            (try simp only [hl3_2] at HO_645003)
            cases gk with
            | zero => exact absurd HA.out (by simp [arlinklaw04_ArparseKeeps.l0])
            | succ k2 =>
              have H := HA.out
              clear HA
              simp only [arlinklaw04_ArparseKeeps.l0] at H
              by_cases c22 : x7_2 < (x645002_2.length : Int)
              · rw [if_pos c22] at H
                have c22b0 : decide (x7_2 < (x645002_2.length : Int)) = true := decide_eq_true c22
                clear c22
                have H' := Aside0.mk H
                clear H
                have hcz23_0 : wr.cell? ⟨gb644, 0, none⟩ = some (.bool t632) := (blk_cell BK644.out 0).trans rfl
                have hcz23_1 : wr.cell? ⟨gb644, 1, none⟩ = some (u645001) := (blk_cell BK644.out 1).trans rfl
                have hcz23_2 : wr.cell? ⟨gb644, 2, none⟩ = some (u645002) := (blk_cell BK644.out 2).trans rfl
                have hcz23_3 : wr.cell? ⟨gb644, 3, none⟩ = some (.slice Ao21 t639.length co21) := (blk_cell BK644.out 3).trans rfl
                have hfz23_0 := blk_frozen BK644.out 0
                have hfz23_1 := blk_frozen BK644.out 1
                have hfz23_2 := blk_frozen BK644.out 2
                have hfz23_3 := blk_frozen BK644.out 3
                obtain ⟨Ao24, co24, eo24⟩ := Kd.S_slice HO_645002.out
                subst eo24
                go_wp2
                go_loopg [8] k2 (fun kq v8 w' => ∃ (x3_3 : List Int) (x8_3 : Int) (x645001_3 : List Int) (x645002_3 : List (S57)) (u645001 : Value) (u645002 : Value), v8 = .int .i64 x8_3 ∧ Aside0 (arlinklaw04_ArparseKeeps.l1 kq l0 x3_3 x7_2 x8_3 t632 x645001_3 x645002_3 t639 = some r) ∧ Aside0 (kq ≤ k2) ∧ Aside0 (Kd.R (Kd.int .u8) 5 w' w.heap.size (fun k_ => some k_ ≠ (u645001 : Value).ownBlock) (.slice Ao15 x3_2.length co15) x3_3) ∧ Aside0 (Kd.R (Kd.int .u8) 5 w' w.heap.size (fun k_ => some k_ ≠ ((.slice Ao15 x3_2.length co15) : Value).ownBlock) u645001 x645001_3) ∧ Aside0 (Kd.S k57 57 w' w.heap.size (fun k_ => some k_ ≠ ((.slice Ao15 x3_2.length co15) : Value).ownBlock ∧ some k_ ≠ (u645001 : Value).ownBlock) u645002 x645002_3) ∧ Aside0 (Kd.R (Kd.int .i64) 3 w' w.heap.size (fun _ => True) (.slice Ao21 t639.length co21) t639) ∧ Aside0 (w'.heap[gb644]? = some (.cells #[.bool t632, u645001, u645002, (.slice Ao21 t639.length co21)] 48 (0, 0))) ∧ Aside0 (Below w.heap.size w w'))
                case atStart => exact ⟨(x3_2), (0), (x645001_2), (x645002_2), (u645001), (.slice Ao24 x645002_2.length co24), (by first | rfl | (simp; done) | (simp [*]; done)), H', ⟨Nat.le_refl _⟩, ⟨by (try simp only [hl3_2]); (with_reducible repeat (first | apply Kd.R_alloc | apply Kd.R_drewN | apply Kd.R_drew)); exact HO_3.out⟩, ⟨by (try simp only [hl3_2]); (with_reducible repeat (first | apply Kd.R_alloc | apply Kd.R_drewN | apply Kd.R_drew)); exact HO_645001.out⟩, ⟨by (try simp only [hl3_2]); (with_reducible repeat (first | apply Kd.S_alloc | apply Kd.S_drewN | apply Kd.S_drew)); exact HO_645002.out⟩, ⟨by (try simp only [hl3_2]); (with_reducible repeat (first | apply Kd.R_alloc | apply Kd.R_drewN | apply Kd.R_drew)); exact HO_645003.out⟩, ⟨by (try simp only [hl3_2]); (with_reducible repeat (first | refine blk_drewN ?_ _ | refine blk_drew ?_ | refine blk_alloc ?_ _)); exact BK644.out⟩, ⟨by repeat (first | (with_reducible first | exact HB.out | apply below_alloc | apply pw_below_drewN | apply below_drew1 | refine below_set ?_ GE644.out) | exact HB.out)⟩⟩
                case round =>
                  clear H'
                  try clear c1
                  try clear c2
                  try clear p2
                  try clear c4
                  try clear c7
                  try clear c10
                  try clear c11
                  try clear c22
                  try clear c22b0
                  try clear c24
                  try clear hcz18_0
                  try clear hcz18_1
                  try clear hcz18_2
                  try clear hcz18_3
                  try clear hcz23_0
                  try clear hcz23_1
                  try clear hcz23_2
                  try clear hcz23_3
                  try clear hfz18_0
                  try clear hfz18_1
                  try clear hfz18_2
                  try clear hfz18_3
                  try clear hfz23_0
                  try clear hfz23_1
                  try clear hfz23_2
                  try clear hfz23_3
                  try clear p2
                  obtain ⟨x3_3, x8_3, x645001_3, x645002_3, u645001, u645002, rfl, HA, HK3, HO_3, HO_645001, HO_645002, HO_645003, BK644, HB⟩ := hrel
                  have hl3_3 := (Kd.R_reads' HO_3.out).1
                  rw [hl3_3] at HO_3
                  (try simp only [hl3_3])
                  (try simp only [hl3_3] at BK644)
                  (try simp only [hl3_3] at HO_645001)
                  (try simp only [hl3_3] at HO_645002)
                  (try simp only [hl3_3] at HO_645003)
                  cases gk with
                  | zero => exact absurd HA.out (by simp [arlinklaw04_ArparseKeeps.l1])
                  | succ k3 =>
                    have H := HA.out
                    clear HA
                    simp only [arlinklaw04_ArparseKeeps.l1] at H
                    by_cases c25 : 0 ≤ x7_2
                    · rw [if_pos c25] at H
                      have c25b0 : decide (0 ≤ x7_2) = true := decide_eq_true c25
                      clear c25
                      by_cases c26 : x7_2 < (x645002_3.length : Int)
                      · rw [if_pos c26] at H
                        have c26b0 : decide (x7_2 < (x645002_3.length : Int)) = true := decide_eq_true c26
                        clear c26
                        by_cases c27 : x8_3 < (((rd_T57 x645002_3 x7_2).f5).length : Int)
                        · rw [if_pos c27] at H
                          have c27b0 : decide (x8_3 < (((rd_T57 x645002_3 x7_2).f5).length : Int)) = true := decide_eq_true c27
                          clear c27
                          by_cases c28 : 0 ≤ x8_3
                          · rw [if_pos c28] at H
                            have c28b0 : decide (0 ≤ x8_3) = true := decide_eq_true c28
                            clear c28
                            obtain ⟨y648, hy648⟩ : ∃ y_ : List Int, y_ = (((rd_T57 x645002_3 x7_2).f5).set (x8_3 : Int).toNat (((rd ((rd_T57 x645002_3 x7_2).f5) x8_3) + 1) % 256)) := ⟨_, rfl⟩
                            replace H : (arlinklaw04_ArparseKeeps.l1 k3 l0 x3_3 x7_2 (wrap64 (x8_3 + 1)) t632 x645001_3 (x645002_3.set (x7_2 : Int).toNat (⟨(rd_T57 x645002_3 x7_2).f0, (rd_T57 x645002_3 x7_2).f1, (rd_T57 x645002_3 x7_2).f2, (rd_T57 x645002_3 x7_2).f3, (rd_T57 x645002_3 x7_2).f4, y648⟩ : S57)) t639) = some r := by first | (rw [hy648]; with_reducible exact H) | (have H2_ := (Option.bind_some _ _).symm.trans H; rw [hy648]; with_reducible exact H2_) | (have H2_ := (Option.bind_some _ _).symm.trans H; with_reducible exact H2_) | with_reducible exact H | (rw [hy648]; exact H) | exact H
                            have Ny648 := Aside0.mk hy648
                            clear hy648
                            obtain ⟨y650, hy650⟩ : ∃ y_ : List (S57), y_ = (x645002_3.set (x7_2 : Int).toNat (⟨(rd_T57 x645002_3 x7_2).f0, (rd_T57 x645002_3 x7_2).f1, (rd_T57 x645002_3 x7_2).f2, (rd_T57 x645002_3 x7_2).f3, (rd_T57 x645002_3 x7_2).f4, y648⟩ : S57)) := ⟨_, rfl⟩
                            replace H : (arlinklaw04_ArparseKeeps.l1 k3 l0 x3_3 x7_2 (wrap64 (x8_3 + 1)) t632 x645001_3 y650 t639) = some r := by first | (rw [hy650]; with_reducible exact H) | (have H2_ := (Option.bind_some _ _).symm.trans H; rw [hy650]; with_reducible exact H2_) | (have H2_ := (Option.bind_some _ _).symm.trans H; with_reducible exact H2_) | with_reducible exact H | (rw [hy650]; exact H) | exact H
                            have Ny650 := Aside0.mk hy650
                            clear hy650
                            have H' := Aside0.mk H
                            clear H
                            have hcz30_0 : wr.cell? ⟨gb644, 0, none⟩ = some (.bool t632) := (blk_cell BK644.out 0).trans rfl
                            have hcz30_1 : wr.cell? ⟨gb644, 1, none⟩ = some (u645001) := (blk_cell BK644.out 1).trans rfl
                            have hcz30_2 : wr.cell? ⟨gb644, 2, none⟩ = some (u645002) := (blk_cell BK644.out 2).trans rfl
                            have hcz30_3 : wr.cell? ⟨gb644, 3, none⟩ = some (.slice Ao21 t639.length co21) := (blk_cell BK644.out 3).trans rfl
                            have hfz30_0 := blk_frozen BK644.out 0
                            have hfz30_1 := blk_frozen BK644.out 1
                            have hfz30_2 := blk_frozen BK644.out 2
                            have hfz30_3 := blk_frozen BK644.out 3
                            obtain ⟨Ao31, co31, eo31⟩ := Kd.S_slice HO_645002.out
                            subst eo31
                            have p645 : 0 ≤ (x7_2 : Int) := of_decide_eq_true (by first | (with_reducible assumption) | assumption)
                            have q645 : x7_2 < (x645002_3.length : Int) := of_decide_eq_true (by first | (with_reducible assumption) | assumption)
                            obtain ⟨ad645, A645_5, c645_5, e645, hx645_0, hx645_1, hx645_2, hx645_3, hx645_4, hx645_5, hl645_5, hi645_5⟩ := at_T57 (Kd.S_reads' HO_645002.out).2.2 x7_2 p645 q645
                            cases e645
                            obtain ⟨ce645, hce645, hMe645, hcc645⟩ := Kd.S_get HO_645002.out z57 x7_2 p645 (by first | exact q645 | exact of_decide_eq_true (by first | (with_reducible assumption) | assumption) | (have e_ := (Kd.S_reads' HO_645002.out).1; omega))
                            obtain ⟨ve645_5, rfl, ge645_5⟩ := k57_openM hMe645
                            have hv645_5 := hcc645 5 _ rfl
                            rw [add_field _ _ 5 (by omega)] at hv645_5
                            replace hv645_5 := Option.some.inj (hv645_5.symm.trans hx645_5)
                            rw [hv645_5] at ge645_5
                            have HL645_5 := Aside0.mk (show Kd.R (Kd.int .u8) 5 _ _ _ _ ((rd_T57 x645002_3 x7_2).f5) from ge645_5)
                            clear hv645_5 ge645_5
                            have HX645_5 := Aside0.mk hx645_5
                            clear hcc645 hce645
                            have HR645_5 := Aside0.mk hi645_5
                            have HC645_5 := Aside0.mk hl645_5
                            clear hi645_5 hl645_5
                            replace p645 := eq_true p645
                            replace q645 := eq_true q645
                            have p646 : 0 ≤ (x7_2 : Int) := of_decide_eq_true (by first | (with_reducible assumption) | assumption)
                            have q646 : x7_2 < (x645002_3.length : Int) := of_decide_eq_true (by first | (with_reducible assumption) | assumption)
                            obtain ⟨ad646, A646_5, c646_5, e646, hx646_0, hx646_1, hx646_2, hx646_3, hx646_4, hx646_5, hl646_5, hi646_5⟩ := at_T57 (Kd.S_reads' HO_645002.out).2.2 x7_2 p646 q646
                            obtain rfl : ad645 = ad646 := (by injection e646)
                            obtain ⟨ce646, hce646, hMe646, hcc646⟩ := Kd.S_get HO_645002.out z57 x7_2 p646 (by first | exact q646 | exact of_decide_eq_true (by first | (with_reducible assumption) | assumption) | (have e_ := (Kd.S_reads' HO_645002.out).1; omega))
                            obtain ⟨ve646_5, rfl, ge646_5⟩ := k57_openM hMe646
                            have hv646_5 := hcc646 5 _ rfl
                            rw [add_field _ _ 5 (by omega)] at hv646_5
                            replace hv646_5 := Option.some.inj (hv646_5.symm.trans hx646_5)
                            rw [hv646_5] at ge646_5
                            have HL646_5 := Aside0.mk (show Kd.R (Kd.int .u8) 5 _ _ _ _ ((rd_T57 x645002_3 x7_2).f5) from ge646_5)
                            clear hv646_5 ge646_5
                            have HX646_5 := Aside0.mk hx646_5
                            clear hcc646 hce646
                            have HR646_5 := Aside0.mk hi646_5
                            have HC646_5 := Aside0.mk hl646_5
                            clear hi646_5 hl646_5
                            replace p646 := eq_true p646
                            replace q646 := eq_true q646
                            have ea_ := Option.some.inj (hx645_5.symm.trans hx646_5)
                            injection ea_ with ea_ en_ ec_
                            subst ea_
                            subst ec_
                            clear en_
                            have p647 : 0 ≤ (x8_3 : Int) := of_decide_eq_true (by first | (with_reducible assumption) | assumption)
                            have q647 : x8_3 < (((rd_T57 x645002_3 x7_2).f5).length : Int) := of_decide_eq_true (by first | (with_reducible assumption) | assumption)
                            obtain ⟨ad647, e647, hx647_0⟩ := Kd.at_int (by repeat (first | (with_reducible exact HR646_5.out) | (with_reducible refine Kd.C_alloc ?_ _) | (with_reducible refine Kd.C_drewN ?_ _) | (with_reducible refine Kd.C_drew ?_) | exact HR646_5.out)) x8_3 p647 q647
                            cases e647
                            replace p647 := eq_true p647
                            replace q647 := eq_true q647
                            have p29 : 0 ≤ (x8_3 : Int) := of_decide_eq_true (by first | (with_reducible assumption) | assumption)
                            have q29 : (x8_3 : Int) < ((((rd_T57 x645002_3 x7_2).f5).length : Int) : Int) := of_decide_eq_true (by first | (with_reducible assumption) | assumption)
                            obtain ⟨go29, co29, eo29, gb29, gl29, cl29, HG29⟩ := Kd.R_form HL646_5.out (by omega)
                            (first | cases eo29 | (injection eo29 with ea_ en_ ec_; (first | subst ea_ | (injection ea_ with ea_; subst ea_)); subst ec_; clear en_))
                            have GB29 := Aside0.mk gb29
                            have GG29 := Aside0.mk HG29
                            clear gb29 gl29 HG29
                            (first | simp only [add_plain] at hx647_0 | skip)
                            obtain ⟨hx29_0, hf29_0⟩ := Kd.R_celln 0 HL646_5.out (x8_3 : Int) p29 q29
                            replace p29 := eq_true p29
                            replace q29 := eq_true q29
                            have hq32 : (x7_2 : Int) < (x645002_3.length : Int) := (by have h_ : (x7_2 : Int) < ((x645002_3.length : Int) : Int) := of_decide_eq_true (by first | (with_reducible assumption) | assumption); first | exact h_ | (have e_ := (Kd.S_reads' HO_645002.out).1; omega) | simpa only [List.length_set, List.length_set] using h_)
                            obtain ⟨oki32, ce32, hcl32, hM32, hcc32, hok32, hbk32⟩ := Kd.S_borrow HO_645002.out z57 (x7_2 : Int) (of_decide_eq_true (by first | (with_reducible assumption) | assumption)) hq32
                            obtain ⟨ve32_5, rfl, ge32_5⟩ := k57_openM hM32
                            have hv32 := hcc32 5 _ rfl
                            rw [add_field _ _ 5 (by omega)] at hv32
                            replace hv32 := Option.some.inj (hv32.symm.trans HX646_5.out)
                            subst hv32
                            clear hcc32 hcl32
                            replace ge32_5 := (show Kd.R (Kd.int .u8) 5 _ _ _ _ ((rd_T57 x645002_3 x7_2).f5) from ge32_5)
                            have HP32 := Kd.R_putg ge32_5 (x8_3 : Int) (((rd ((rd_T57 x645002_3 x7_2).f5) x8_3) + 1) % 256)
                            go_wp2_with (first | ((with_reducible refine gate_store (t := 5) (p := 55) rfl ?_); refine store_event (t := 5) (p := 55) (v := ?vo_w33) (w1 := (wr.setCell ⟨go29, (x8_3 : Int).toNat, none⟩ (.int .u8 (((rd ((rd_T57 x645002_3 x7_2).f5) x8_3) + 1) % 256)))) ?hg ?ho ?hn ?hr ?_; (case ho => rfl); (case hg => rfl); (case hn => rfl); (case hr => first | (go_simp; done) | (go_simp; rfl)); intro w33 hw; have hg : wr.grownBy w33 (some go29) := (by rw [hw]; exact HP32.2); have hz_ : Kd.R (Kd.int .u8) 5 w33 w.heap.size oki32 (.slice (some ⟨go29, 0, none⟩) ((rd_T57 x645002_3 x7_2).f5).length c645_5) y648 := (by rw [hw, Ny648.out]; exact HP32.1); have hp_ : Kd.S k57 57 w33 w.heap.size (fun k_ => some k_ ≠ (.slice Ao15 x3_3.length co15 : Value).ownBlock ∧ some k_ ≠ (u645001 : Value).ownBlock) (.slice (some ad645) x645002_3.length co31) y650 := (by rw [Ny650.out]; exact hbk32 hg (fun k_ e_ => by injection e_ with e_; subst e_; exact ge32_5.1 _ rfl) (k57_mkM _ _ _ (⟨(rd_T57 x645002_3 x7_2).f0, (rd_T57 x645002_3 x7_2).f1, (rd_T57 x645002_3 x7_2).f2, (rd_T57 x645002_3 x7_2).f3, (rd_T57 x645002_3 x7_2).f4, y648⟩ : S57) hz_)); have hm_ := Kd.R_mono hz_ hok32; clear HP32 hbk32; have n0_ := Aside0.mk (Kd.R_grown1 (by (with_reducible repeat (first | apply Kd.R_alloc | apply Kd.R_drewN | apply Kd.R_drew)); exact HO_3.out) rfl hg ((HL646_5.out.1 _ rfl).1.1)); have n1_ := Aside0.mk (Kd.R_grown1 (by (with_reducible repeat (first | apply Kd.R_alloc | apply Kd.R_drewN | apply Kd.R_drew)); exact HO_645001.out) rfl hg ((HL646_5.out.1 _ rfl).1.2)); have n2_ := Aside0.mk (hp_); have n3_ := Aside0.mk (Kd.R_over' (v := (.slice (some ⟨go29, 0, none⟩) ((rd_T57 x645002_3 x7_2).f5).length c645_5)) (by (with_reducible repeat (first | apply Kd.R_alloc | apply Kd.R_drewN | apply Kd.R_drew)); exact HO_645003.out) (Kd.R_typed HL646_5.out) (by decide) hg); have n4_ := Aside0.mk (blk_grown (g := gb644) (o := .cells #[.bool t632, u645001, .slice (some ad645) x645002_3.length co31, .slice Ao21 t639.length co21] 48 (0, 0)) (by (with_reducible repeat (first | refine blk_drewN ?_ _ | refine blk_drew ?_ | refine blk_alloc ?_ _)); exact BK644.out) hg (Kd.R_ne HL646_5.out BK644.out (by decide))); have n5_ := Aside0.mk ((by rw [hw]; exact below_set (HB.out) GB29.out : Below w.heap.size w w33)); have n6_ := Aside0.mk (hm_); have n7_ := Aside0.mk ((Kd.R_reads' hm_).2.1); clear HO_3; clear HO_645001; clear HO_645002; clear HO_645003; clear BK644; clear HB; clear HL645_5; clear HL646_5; have HO_3 := n0_; have HO_645001 := n1_; have HO_645002 := n2_; have HO_645003 := n3_; have BK644 := n4_; have HB := n5_; have HL654 := n6_; have HC649 := n7_; clear n0_ n1_ n2_ n3_ n4_ n5_ n6_ n7_; clear hg hw hp_ hz_ hm_ hok32))
                            (try simp only [← hl3_3])
                            go_roundg k3
                            case measure => have := HJ1.out; have := HK2.out; have := HK3.out; omega
                            case rel => exact ⟨(x3_3), (wrap64 (x8_3 + 1)), (x645001_3), (y650), (u645001), (.slice (some ad645) x645002_3.length co31), (by first | rfl | (simp; done) | (simp [*]; done)), H', ⟨by have := HJ1.out; have := HK2.out; have := HK3.out; omega⟩, ⟨by (try simp only [hl3_2]); (try simp only [hl3_3]); (with_reducible repeat (first | apply Kd.R_alloc | apply Kd.R_drewN | apply Kd.R_drew)); exact HO_3.out⟩, ⟨by (try simp only [hl3_2]); (try simp only [hl3_3]); (with_reducible repeat (first | apply Kd.R_alloc | apply Kd.R_drewN | apply Kd.R_drew)); exact HO_645001.out⟩, ⟨by (try simp only [hl3_2]); (try simp only [hl3_3]); (with_reducible repeat (first | apply Kd.S_alloc | apply Kd.S_drewN | apply Kd.S_drew)); exact HO_645002.out⟩, ⟨by (try simp only [hl3_2]); (try simp only [hl3_3]); (with_reducible repeat (first | apply Kd.R_alloc | apply Kd.R_drewN | apply Kd.R_drew)); exact HO_645003.out⟩, ⟨by (try simp only [hl3_2]); (try simp only [hl3_3]); (with_reducible repeat (first | refine blk_drewN ?_ _ | refine blk_drew ?_ | refine blk_alloc ?_ _)); exact BK644.out⟩, ⟨by repeat (first | (with_reducible first | exact HB.out | apply below_alloc | apply pw_below_drewN | apply below_drew1 | refine below_set ?_ GE644.out) | exact HB.out)⟩⟩
                          · rw [if_neg c28] at H
                            exact absurd H (by simp)
                        · rw [if_neg c27] at H
                          have c27b0 : decide (x8_3 < (((rd_T57 x645002_3 x7_2).f5).length : Int)) = false := decide_eq_false c27
                          clear c27
                          have H' := Aside0.mk H
                          clear H
                          have hcz34_0 : wr.cell? ⟨gb644, 0, none⟩ = some (.bool t632) := (blk_cell BK644.out 0).trans rfl
                          have hcz34_1 : wr.cell? ⟨gb644, 1, none⟩ = some (u645001) := (blk_cell BK644.out 1).trans rfl
                          have hcz34_2 : wr.cell? ⟨gb644, 2, none⟩ = some (u645002) := (blk_cell BK644.out 2).trans rfl
                          have hcz34_3 : wr.cell? ⟨gb644, 3, none⟩ = some (.slice Ao21 t639.length co21) := (blk_cell BK644.out 3).trans rfl
                          have hfz34_0 := blk_frozen BK644.out 0
                          have hfz34_1 := blk_frozen BK644.out 1
                          have hfz34_2 := blk_frozen BK644.out 2
                          have hfz34_3 := blk_frozen BK644.out 3
                          obtain ⟨Ao35, co35, eo35⟩ := Kd.S_slice HO_645002.out
                          subst eo35
                          have p645 : 0 ≤ (x7_2 : Int) := of_decide_eq_true (by first | (with_reducible assumption) | assumption)
                          have q645 : x7_2 < (x645002_3.length : Int) := of_decide_eq_true (by first | (with_reducible assumption) | assumption)
                          obtain ⟨ad645, A645_5, c645_5, e645, hx645_0, hx645_1, hx645_2, hx645_3, hx645_4, hx645_5, hl645_5, hi645_5⟩ := at_T57 (Kd.S_reads' HO_645002.out).2.2 x7_2 p645 q645
                          cases e645
                          obtain ⟨ce645, hce645, hMe645, hcc645⟩ := Kd.S_get HO_645002.out z57 x7_2 p645 (by first | exact q645 | exact of_decide_eq_true (by first | (with_reducible assumption) | assumption) | (have e_ := (Kd.S_reads' HO_645002.out).1; omega))
                          obtain ⟨ve645_5, rfl, ge645_5⟩ := k57_openM hMe645
                          have hv645_5 := hcc645 5 _ rfl
                          rw [add_field _ _ 5 (by omega)] at hv645_5
                          replace hv645_5 := Option.some.inj (hv645_5.symm.trans hx645_5)
                          rw [hv645_5] at ge645_5
                          have HL645_5 := Aside0.mk (show Kd.R (Kd.int .u8) 5 _ _ _ _ ((rd_T57 x645002_3 x7_2).f5) from ge645_5)
                          clear hv645_5 ge645_5
                          have HX645_5 := Aside0.mk hx645_5
                          clear hcc645 hce645
                          have HR645_5 := Aside0.mk hi645_5
                          have HC645_5 := Aside0.mk hl645_5
                          clear hi645_5 hl645_5
                          replace p645 := eq_true p645
                          replace q645 := eq_true q645
                          go_wp2
                          (try simp only [← hl3_2, ← hl3_3])
                          go_roundg k3
                          case measure => have := HJ1.out; have := HK2.out; have := HK3.out; omega
                          case rel => exact ⟨(x3_3), (wrap64 (x7_2 + 1)), (x645001_3), (x645002_3), (u645001), (.slice (some ad645) x645002_3.length co35), (by first | rfl | (simp; done) | (simp [*]; done)), H', ⟨by have := HJ1.out; have := HK2.out; have := HK3.out; omega⟩, ⟨by (try simp only [hl3_2]); (try simp only [hl3_3]); (with_reducible repeat (first | apply Kd.R_alloc | apply Kd.R_drewN | apply Kd.R_drew)); exact HO_3.out⟩, ⟨by (try simp only [hl3_2]); (try simp only [hl3_3]); (with_reducible repeat (first | apply Kd.R_alloc | apply Kd.R_drewN | apply Kd.R_drew)); exact HO_645001.out⟩, ⟨by (try simp only [hl3_2]); (try simp only [hl3_3]); (with_reducible repeat (first | apply Kd.S_alloc | apply Kd.S_drewN | apply Kd.S_drew)); exact HO_645002.out⟩, ⟨by (try simp only [hl3_2]); (try simp only [hl3_3]); (with_reducible repeat (first | apply Kd.R_alloc | apply Kd.R_drewN | apply Kd.R_drew)); exact HO_645003.out⟩, ⟨by (try simp only [hl3_2]); (try simp only [hl3_3]); (with_reducible repeat (first | refine blk_drewN ?_ _ | refine blk_drew ?_ | refine blk_alloc ?_ _)); exact BK644.out⟩, ⟨by repeat (first | (with_reducible first | exact HB.out | apply below_alloc | apply pw_below_drewN | apply below_drew1 | refine below_set ?_ GE644.out) | exact HB.out)⟩⟩
                      · rw [if_neg c26] at H
                        exact absurd H (by simp)
                    · rw [if_neg c25] at H
                      exact absurd H (by simp)
              · rw [if_neg c22] at H
                have c22b0 : decide (x7_2 < (x645002_2.length : Int)) = false := decide_eq_false c22
                clear c22
                have H' := Aside0.mk H
                clear H
                have hcz36_0 : wr.cell? ⟨gb644, 0, none⟩ = some (.bool t632) := (blk_cell BK644.out 0).trans rfl
                have hcz36_1 : wr.cell? ⟨gb644, 1, none⟩ = some (u645001) := (blk_cell BK644.out 1).trans rfl
                have hcz36_2 : wr.cell? ⟨gb644, 2, none⟩ = some (u645002) := (blk_cell BK644.out 2).trans rfl
                have hcz36_3 : wr.cell? ⟨gb644, 3, none⟩ = some (.slice Ao21 t639.length co21) := (blk_cell BK644.out 3).trans rfl
                have hfz36_0 := blk_frozen BK644.out 0
                have hfz36_1 := blk_frozen BK644.out 1
                have hfz36_2 := blk_frozen BK644.out 2
                have hfz36_3 := blk_frozen BK644.out 3
                obtain ⟨Ao37, co37, eo37⟩ := Kd.S_slice HO_645002.out
                subst eo37
                go_wp2
                go_loopg [9] k2 (fun kq v9 w' => ∃ (x3_3 : List Int) (x9_3 : Int) (x645001_3 : List Int) (u645001 : Value), v9 = .int .i64 x9_3 ∧ Aside0 (arlinklaw04_ArparseKeeps.l2 kq l0 x3_3 x9_3 t632 x645001_3 x645002_2 t639 = some r) ∧ Aside0 (kq ≤ k2) ∧ Aside0 (Kd.R (Kd.int .u8) 5 w' w.heap.size (fun k_ => some k_ ≠ (u645001 : Value).ownBlock) (.slice Ao15 x3_2.length co15) x3_3) ∧ Aside0 (Kd.R (Kd.int .u8) 5 w' w.heap.size (fun k_ => some k_ ≠ ((.slice Ao15 x3_2.length co15) : Value).ownBlock) u645001 x645001_3) ∧ Aside0 (Kd.S k57 57 w' w.heap.size (fun k_ => some k_ ≠ ((.slice Ao15 x3_2.length co15) : Value).ownBlock ∧ some k_ ≠ (u645001 : Value).ownBlock) (.slice Ao37 x645002_2.length co37) x645002_2) ∧ Aside0 (Kd.R (Kd.int .i64) 3 w' w.heap.size (fun _ => True) (.slice Ao21 t639.length co21) t639) ∧ Aside0 (w'.heap[gb644]? = some (.cells #[.bool t632, u645001, (.slice Ao37 x645002_2.length co37), (.slice Ao21 t639.length co21)] 48 (0, 0))) ∧ Aside0 (Below w.heap.size w w'))
                case atStart => exact ⟨(x3_2), (0), (x645001_2), (u645001), (by first | rfl | (simp; done) | (simp [*]; done)), H', ⟨Nat.le_refl _⟩, ⟨by (try simp only [hl3_2]); (with_reducible repeat (first | apply Kd.R_alloc | apply Kd.R_drewN | apply Kd.R_drew)); exact HO_3.out⟩, ⟨by (try simp only [hl3_2]); (with_reducible repeat (first | apply Kd.R_alloc | apply Kd.R_drewN | apply Kd.R_drew)); exact HO_645001.out⟩, ⟨by (try simp only [hl3_2]); (with_reducible repeat (first | apply Kd.S_alloc | apply Kd.S_drewN | apply Kd.S_drew)); exact HO_645002.out⟩, ⟨by (try simp only [hl3_2]); (with_reducible repeat (first | apply Kd.R_alloc | apply Kd.R_drewN | apply Kd.R_drew)); exact HO_645003.out⟩, ⟨by (try simp only [hl3_2]); (with_reducible repeat (first | refine blk_drewN ?_ _ | refine blk_drew ?_ | refine blk_alloc ?_ _)); exact BK644.out⟩, ⟨by repeat (first | (with_reducible first | exact HB.out | apply below_alloc | apply pw_below_drewN | apply below_drew1 | refine below_set ?_ GE644.out) | exact HB.out)⟩⟩
                case round =>
                  clear H'
                  try clear c1
                  try clear c2
                  try clear p2
                  try clear q2
                  try clear hx2
                  try clear hf2
                  try clear c3
                  try clear q3
                  try clear c4
                  try clear c6
                  try clear p6
                  try clear q6
                  try clear hx6
                  try clear c7
                  try clear c10
                  try clear c11
                  try clear c22
                  try clear c22b0
                  try clear c24
                  try clear c25
                  try clear c25b0
                  try clear c26
                  try clear c26b0
                  try clear c27
                  try clear c27b0
                  try clear c28
                  try clear c28b0
                  try clear p29
                  try clear q29
                  try clear hx29
                  try clear hf29
                  try clear c32
                  try clear q32
                  try clear hcz18_0
                  try clear hcz18_1
                  try clear hcz18_2
                  try clear hcz18_3
                  try clear hcz23_0
                  try clear hcz23_1
                  try clear hcz23_2
                  try clear hcz23_3
                  try clear hcz30_0
                  try clear hcz30_1
                  try clear hcz30_2
                  try clear hcz30_3
                  try clear hcz34_0
                  try clear hcz34_1
                  try clear hcz34_2
                  try clear hcz34_3
                  try clear hcz36_0
                  try clear hcz36_1
                  try clear hcz36_2
                  try clear hcz36_3
                  try clear hfz18_0
                  try clear hfz18_1
                  try clear hfz18_2
                  try clear hfz18_3
                  try clear hfz23_0
                  try clear hfz23_1
                  try clear hfz23_2
                  try clear hfz23_3
                  try clear hfz30_0
                  try clear hfz30_1
                  try clear hfz30_2
                  try clear hfz30_3
                  try clear hfz34_0
                  try clear hfz34_1
                  try clear hfz34_2
                  try clear hfz34_3
                  try clear hfz36_0
                  try clear hfz36_1
                  try clear hfz36_2
                  try clear hfz36_3
                  try clear hx29_0
                  try clear hx645_0
                  try clear hx645_1
                  try clear hx645_2
                  try clear hx645_3
                  try clear hx645_4
                  try clear hx645_5
                  try clear hx646_0
                  try clear hx646_1
                  try clear hx646_2
                  try clear hx646_3
                  try clear hx646_4
                  try clear hx646_5
                  try clear hx647_0
                  try clear p2
                  try clear p29
                  try clear p645
                  try clear p646
                  try clear p647
                  try clear q29
                  try clear q645
                  try clear q646
                  try clear q647
                  obtain ⟨x3_3, x9_3, x645001_3, u645001, rfl, HA, HK3, HO_3, HO_645001, HO_645002, HO_645003, BK644, HB⟩ := hrel
                  have hl3_3 := (Kd.R_reads' HO_3.out).1
                  rw [hl3_3] at HO_3
                  (try simp only [hl3_3])
                  (try simp only [hl3_3] at BK644)
                  (try simp only [hl3_3] at HO_645001)
                  (try simp only [hl3_3] at HO_645002)
                  (try simp only [hl3_3] at HO_645003)
                  cases gk with
                  | zero => exact absurd HA.out (by simp [arlinklaw04_ArparseKeeps.l2])
                  | succ k3 =>
                    have H := HA.out
                    clear HA
                    simp only [arlinklaw04_ArparseKeeps.l2] at H
                    by_cases c38 : x9_3 < (x645001_3.length : Int)
                    · rw [if_pos c38] at H
                      have c38b0 : decide (x9_3 < (x645001_3.length : Int)) = true := decide_eq_true c38
                      clear c38
                      by_cases c39 : 0 ≤ x9_3
                      · rw [if_pos c39] at H
                        have c39b0 : decide (0 ≤ x9_3) = true := decide_eq_true c39
                        clear c39
                        obtain ⟨y652, hy652⟩ : ∃ y_ : List Int, y_ = (x645001_3.set (x9_3 : Int).toNat (((rd x645001_3 x9_3) + 1) % 256)) := ⟨_, rfl⟩
                        replace H : (arlinklaw04_ArparseKeeps.l2 k3 l0 x3_3 (wrap64 (x9_3 + 1)) t632 y652 x645002_2 t639) = some r := by first | (rw [hy652]; with_reducible exact H) | (have H2_ := (Option.bind_some _ _).symm.trans H; rw [hy652]; with_reducible exact H2_) | (have H2_ := (Option.bind_some _ _).symm.trans H; with_reducible exact H2_) | with_reducible exact H | (rw [hy652]; exact H) | exact H
                        have Ny652 := Aside0.mk hy652
                        clear hy652
                        have H' := Aside0.mk H
                        clear H
                        have hcz41_0 : wr.cell? ⟨gb644, 0, none⟩ = some (.bool t632) := (blk_cell BK644.out 0).trans rfl
                        have hcz41_1 : wr.cell? ⟨gb644, 1, none⟩ = some (u645001) := (blk_cell BK644.out 1).trans rfl
                        have hcz41_2 : wr.cell? ⟨gb644, 2, none⟩ = some (.slice Ao37 x645002_2.length co37) := (blk_cell BK644.out 2).trans rfl
                        have hcz41_3 : wr.cell? ⟨gb644, 3, none⟩ = some (.slice Ao21 t639.length co21) := (blk_cell BK644.out 3).trans rfl
                        have hfz41_0 := blk_frozen BK644.out 0
                        have hfz41_1 := blk_frozen BK644.out 1
                        have hfz41_2 := blk_frozen BK644.out 2
                        have hfz41_3 := blk_frozen BK644.out 3
                        obtain ⟨Ao42, co42, eo42⟩ := Kd.R_slice HO_645001.out
                        subst eo42
                        have p651 : 0 ≤ (x9_3 : Int) := of_decide_eq_true (by first | (with_reducible assumption) | assumption)
                        have q651 : x9_3 < (x645001_3.length : Int) := of_decide_eq_true (by first | (with_reducible assumption) | assumption)
                        obtain ⟨ad651, e651, hx651_0⟩ := Kd.at_int (Kd.R_reads' HO_645001.out).2.2 x9_3 p651 q651
                        cases e651
                        replace p651 := eq_true p651
                        replace q651 := eq_true q651
                        have p40 : 0 ≤ (x9_3 : Int) := of_decide_eq_true (by first | (with_reducible assumption) | assumption)
                        have q40 : (x9_3 : Int) < ((x645001_3.length : Int) : Int) := of_decide_eq_true (by first | (with_reducible assumption) | assumption)
                        obtain ⟨go40, co40, eo40, gb40, gl40, cl40, HG40⟩ := Kd.R_form HO_645001.out (by omega)
                        (first | cases eo40 | (injection eo40 with ea_ en_ ec_; (first | subst ea_ | (injection ea_ with ea_; subst ea_)); subst ec_; clear en_))
                        have GB40 := Aside0.mk gb40
                        have GG40 := Aside0.mk HG40
                        clear gb40 gl40 HG40
                        (first | simp only [add_plain] at hx651_0 | skip)
                        obtain ⟨hx40_0, hf40_0⟩ := Kd.R_celln 0 HO_645001.out (x9_3 : Int) p40 q40
                        replace p40 := eq_true p40
                        replace q40 := eq_true q40
                        have HP43 := Kd.R_putg HO_645001.out (x9_3 : Int) (((rd x645001_3 x9_3) + 1) % 256)
                        go_wp2_with (first | ((with_reducible refine gate_store (t := 5) (p := 69) rfl ?_); refine store_event (t := 5) (p := 69) (v := ?vo_w44) (w1 := (wr.setCell ⟨go40, (x9_3 : Int).toNat, none⟩ (.int .u8 (((rd x645001_3 x9_3) + 1) % 256)))) ?hg ?ho ?hn ?hr ?_; (case ho => rfl); (case hg => rfl); (case hn => rfl); (case hr => first | (go_simp; done) | (go_simp; rfl)); intro w44 hw; have hg : wr.grownBy w44 (some go40) := (by rw [hw]; exact HP43.2); have hp_ : Kd.R (Kd.int .u8) 5 w44 w.heap.size (fun k_ => some k_ ≠ (.slice Ao15 x3_3.length co15 : Value).ownBlock) (.slice (some ⟨go40, 0, none⟩) x645001_3.length co42) y652 := (by rw [hw, Ny652.out]; exact HP43.1); clear HP43; have n0_ := Aside0.mk (Kd.R_after (v := (.slice (some ⟨go40, 0, none⟩) x645001_3.length co42)) (v1 := (.slice (some ⟨go40, 0, none⟩) x645001_3.length co42)) (ok := (fun _ => True)) (by (with_reducible repeat (first | apply Kd.R_alloc | apply Kd.R_drewN | apply Kd.R_drew)); exact Kd.R_mono HO_3.out (fun _ hk => ⟨trivial, hk⟩)) hg (.inl rfl)); have n1_ := Aside0.mk (hp_); have n2_ := Aside0.mk (Kd.S_after (v := (.slice (some ⟨go40, 0, none⟩) x645001_3.length co42)) (v1 := (.slice (some ⟨go40, 0, none⟩) x645001_3.length co42)) (ok := (fun k_ => some k_ ≠ (.slice Ao15 x3_3.length co15 : Value).ownBlock)) (by (with_reducible repeat (first | apply Kd.S_alloc | apply Kd.S_drewN | apply Kd.S_drew)); exact HO_645002.out) hg (.inl rfl)); have n3_ := Aside0.mk (Kd.R_over' (v := (.slice (some ⟨go40, 0, none⟩) x645001_3.length co42)) (by (with_reducible repeat (first | apply Kd.R_alloc | apply Kd.R_drewN | apply Kd.R_drew)); exact HO_645003.out) (Kd.R_typed HO_645001.out) (by decide) hg); have n4_ := Aside0.mk (blk_grown (g := gb644) (o := .cells #[.bool t632, .slice (some ⟨go40, 0, none⟩) x645001_3.length co42, .slice Ao37 x645002_2.length co37, .slice Ao21 t639.length co21] 48 (0, 0)) (by (with_reducible repeat (first | refine blk_drewN ?_ _ | refine blk_drew ?_ | refine blk_alloc ?_ _)); exact BK644.out) hg (Kd.R_ne HO_645001.out BK644.out (by decide))); have n5_ := Aside0.mk ((by rw [hw]; exact below_set (HB.out) GB40.out : Below w.heap.size w w44)); clear HO_3; clear HO_645001; clear HO_645002; clear HO_645003; clear BK644; clear HB; have HO_3 := n0_; have HO_645001 := n1_; have HO_645002 := n2_; have HO_645003 := n3_; have BK644 := n4_; have HB := n5_; clear n0_ n1_ n2_ n3_ n4_ n5_; clear hg hw hp_))
                        (try simp only [← hl3_3])
                        go_roundg k3
                        case measure => have := HJ1.out; have := HK2.out; have := HK3.out; omega
                        case rel => exact ⟨(x3_3), (wrap64 (x9_3 + 1)), (y652), (.slice (some ⟨go40, 0, none⟩) x645001_3.length co42), (by first | rfl | (simp; done) | (simp [*]; done)), H', ⟨by have := HJ1.out; have := HK2.out; have := HK3.out; omega⟩, ⟨by (try simp only [hl3_2]); (try simp only [hl3_3]); (with_reducible repeat (first | apply Kd.R_alloc | apply Kd.R_drewN | apply Kd.R_drew)); exact Kd.R_mono HO_3.out (fun _ hk => hk.2)⟩, ⟨by (try simp only [hl3_2]); (try simp only [hl3_3]); (with_reducible repeat (first | apply Kd.R_alloc | apply Kd.R_drewN | apply Kd.R_drew)); exact HO_645001.out⟩, ⟨by (try simp only [hl3_2]); (try simp only [hl3_3]); (with_reducible repeat (first | apply Kd.S_alloc | apply Kd.S_drewN | apply Kd.S_drew)); exact HO_645002.out⟩, ⟨by (try simp only [hl3_2]); (try simp only [hl3_3]); (with_reducible repeat (first | apply Kd.R_alloc | apply Kd.R_drewN | apply Kd.R_drew)); exact HO_645003.out⟩, ⟨by (try simp only [hl3_2]); (try simp only [hl3_3]); (with_reducible repeat (first | refine blk_drewN ?_ _ | refine blk_drew ?_ | refine blk_alloc ?_ _)); exact BK644.out⟩, ⟨by repeat (first | (with_reducible first | exact HB.out | apply below_alloc | apply pw_below_drewN | apply below_drew1 | refine below_set ?_ GE644.out) | exact HB.out)⟩⟩
                      · rw [if_neg c39] at H
                        exact absurd H (by simp)
                    · rw [if_neg c38] at H
                      have c38b0 : decide (x9_3 < (x645001_3.length : Int)) = false := decide_eq_false c38
                      clear c38
                      replace H := Option.bind_eq_some_iff.mp H
                      obtain ⟨t653, A450, H⟩ := H
                      replace H : (some t653) = some r := H
                      have A45 := Aside0.mk A450
                      clear A450
                      obtain rfl := Option.some.inj H
                      have hcz46_0 : wr.cell? ⟨gb644, 0, none⟩ = some (.bool t632) := (blk_cell BK644.out 0).trans rfl
                      have hcz46_1 : wr.cell? ⟨gb644, 1, none⟩ = some (u645001) := (blk_cell BK644.out 1).trans rfl
                      have hcz46_2 : wr.cell? ⟨gb644, 2, none⟩ = some (.slice Ao37 x645002_2.length co37) := (blk_cell BK644.out 2).trans rfl
                      have hcz46_3 : wr.cell? ⟨gb644, 3, none⟩ = some (.slice Ao21 t639.length co21) := (blk_cell BK644.out 3).trans rfl
                      have hfz46_0 := blk_frozen BK644.out 0
                      have hfz46_1 := blk_frozen BK644.out 1
                      have hfz46_2 := blk_frozen BK644.out 2
                      have hfz46_3 := blk_frozen BK644.out 3
                      obtain ⟨Ao47, co47, eo47⟩ := Kd.R_slice HO_645001.out
                      subst eo47
                      go_wp2_with (first | ((with_reducible refine gate_callee (f := 14) rfl ?_); refine goesL_ (some 72) rfl rfl Tryd.func14 (by kernel_rfl) rfl #[.slice Ao15 x3_3.length co15, .slice A0 l0.length c0] rfl (by (try simp only [List.map_toArray, List.map_cons, List.map_nil]); first | done | rfl | (simp only [List.length_drop, List.length_take]; rfl)) ?_; (with_reducible refine (arlinkref01_Same.calls k3 _ _ x3_3 _ _ l0 t653 _ ?side1 ?side2 ?side3 ?side4 A45.out).mono ?_); (case side1 => repeat (first | exact (Kd.R_reads' HO_3.out).2.2 | (with_reducible refine Kd.C_alloc ?_ _) | (with_reducible refine Kd.C_drewN ?_ _) | (with_reducible refine Kd.C_drew ?_))); (case side2 => exact (Kd.R_reads' HO_3.out).2.1); (case side3 => repeat (first | exact (Kd.C_below HR0.out HB.out) | (with_reducible refine Kd.C_alloc ?_ _) | (with_reducible refine Kd.C_drewN ?_ _) | (with_reducible refine Kd.C_drew ?_))); (case side4 => exact HC0.out); rintro e w' ⟨rfl, ⟨nd, rfl⟩⟩; refine ⟨_, rfl, ?_⟩))
                      go_ret
                      exact ⟨by first | rfl | (simp [errW_none, errW_some] <;> rfl) | (simp [*, errW_none, errW_some] <;> rfl), by repeat (first | (with_reducible first | exact HB.out | apply below_alloc | apply pw_below_drewN | apply below_drew1 | refine below_set ?_ GE644.out) | exact HB.out)⟩
        · rw [if_neg c10] at H
          exact absurd H (by simp)
end Go.Proofs.YtjiokdkgbnakhaaDoor.K
end TKx25
section TArcK
set_option linter.unusedVariables false
set_option linter.unusedSimpArgs false
namespace Go.Proofs.YtjiokdkgbnakhaaDoor.Own
open Go.RowKit Go.Proofs.YtjiokdkgbnakhaaDoor Go.Proofs.YtjiokdkgbnakhaaDoorW.PrintWords Go.Proofs.YtjiokdkgbnakhaaDoorW.PrintLast Go.Proofs.YtjiokdkgbnakhaaDoorW.PrintMore
theorem arck_l2 (l : List Int) (hl : l.length < 9223372036854775807) (hm : Bool) (ms : List K.S57) (os : List Int) : ∀ d (i : Nat) (mp : List Int), mp.length = i + d → mp.length < 9223372036854775807 →
    Ev (fun k => K.arlinklaw04_ArparseKeeps.l2 k l l (i : Int) hm mp ms os) true
  | 0, i, mp, h, hb => by
    have hs := same_ev l l hl
    rw [decide_eq_true rfl] at hs
    refine Ev.step (f := fun k => (K.arlinkref01_Same.f k l l).bind fun t => some t) (fun k => ?_) (Ev.bind hs (Ev.now _))
    rw [K.arlinklaw04_ArparseKeeps.l2, if_neg (by omega)]
  | d + 1, i, mp, h, hb => by
    refine Ev.step (f := fun k => K.arlinklaw04_ArparseKeeps.l2 k l l ((i + 1 : Nat) : Int) hm (mp.set i (((rd mp (i : Int)) + 1) % 256)) ms os) (fun k => ?_) ?_
    · rw [K.arlinklaw04_ArparseKeeps.l2, if_pos (by omega), if_pos (by omega), wrap_up (by omega), Int.toNat_natCast]
    · exact arck_l2 l hl hm ms os d (i + 1) _ (by rw [List.length_set]; omega) (by rw [List.length_set]; omega)
theorem rd_set (ms : List K.S57) (i : Nat) (m : K.S57) (h : i < ms.length) : K.rd_T57 (ms.set i m) (i : Int) = m := by
  unfold K.rd_T57
  rw [Int.toNat_natCast, List.getD_eq_getElem?_getD, List.getElem?_set_self h]
  rfl
theorem arck_l1 {N : Nat} {F : Nat → K.S57} (l : List Int) (hl : l.length < 9223372036854775807) (hm : Bool) (mp os : List Int) (i : Nat)
    (hnext : ∀ ms' : List K.S57, ms'.length = N → (∀ j : Nat, i + 1 ≤ j → j < N → K.rd_T57 ms' (j : Int) = F j) → Ev (fun k => K.arlinklaw04_ArparseKeeps.l0 k l l ((i + 1 : Nat) : Int) hm mp ms' os) true) (hi : i < N) (hN : N < 9223372036854775807) :
    ∀ d (j : Nat) (ms : List K.S57), ms.length = N → (∀ j : Nat, i + 1 ≤ j → j < N → K.rd_T57 ms (j : Int) = F j) → (K.rd_T57 ms (i : Int)).f5.length = j + d → (K.rd_T57 ms (i : Int)).f5.length < 9223372036854775807 →
    Ev (fun k => K.arlinklaw04_ArparseKeeps.l1 k l l (i : Int) (j : Int) hm mp ms os) true
  | 0, j, ms, h, hF, hd, hb => by
    refine Ev.step (f := fun k => K.arlinklaw04_ArparseKeeps.l0 k l l ((i + 1 : Nat) : Int) hm mp ms os) (fun k => ?_) (hnext ms h hF)
    rw [K.arlinklaw04_ArparseKeeps.l1, if_pos (by omega), if_pos (by omega), if_neg (by omega), wrap_up (by omega)]
  | d + 1, j, ms, h, hF, hd, hb => by
    obtain ⟨m, hm'⟩ : ∃ m, K.rd_T57 ms (i : Int) = m := ⟨_, rfl⟩
    rw [hm'] at hd hb
    refine Ev.step (f := fun k => K.arlinklaw04_ArparseKeeps.l1 k l l (i : Int) ((j + 1 : Nat) : Int) hm mp (ms.set i ⟨m.f0, m.f1, m.f2, m.f3, m.f4, m.f5.set j (((rd m.f5 (j : Int)) + 1) % 256)⟩) os) (fun k => ?_) ?_
    · rw [K.arlinklaw04_ArparseKeeps.l1, hm', if_pos (by omega), if_pos (by omega), if_pos (by omega), if_pos (by omega), wrap_up (by omega), Int.toNat_natCast, Int.toNat_natCast]
    · refine arck_l1 l hl hm mp os i hnext hi hN d (j + 1) _ (by rw [List.length_set]; exact h) (fun j' h1 h2 => ?_) ?_ ?_
      · rw [← hF j' h1 h2]
        unfold K.rd_T57
        rw [Int.toNat_natCast, List.getD_eq_getElem?_getD, List.getElem?_set_ne (by omega), List.getD_eq_getElem?_getD]
      · rw [rd_set _ _ _ (by omega)]
        simp only [List.length_set]
        omega
      · rw [rd_set _ _ _ (by omega)]
        simp only [List.length_set]
        omega
theorem arck_l0 (l : List Int) (hl : l.length < 9223372036854775807) (hm : Bool) (mp os : List Int) (hmp : mp.length < 9223372036854775807) (N : Nat) (hN : N < 9223372036854775807) (F : Nat → K.S57) (hF : ∀ j, j < N → (F j).f5.length < 9223372036854775807) :
    ∀ d (i : Nat) (ms : List K.S57), N = i + d → ms.length = N → (∀ j : Nat, i ≤ j → j < N → K.rd_T57 ms (j : Int) = F j) → Ev (fun k => K.arlinklaw04_ArparseKeeps.l0 k l l (i : Int) hm mp ms os) true
  | 0, i, ms, h, hms, hj => by
    refine Ev.step (f := fun k => K.arlinklaw04_ArparseKeeps.l2 k l l ((0 : Nat) : Int) hm mp ms os) (fun k => ?_) (arck_l2 l hl hm ms os mp.length 0 mp (by omega) hmp)
    rw [K.arlinklaw04_ArparseKeeps.l0, if_neg (by omega)]
    rfl
  | d + 1, i, ms, h, hms, hj => by
    refine Ev.step (f := fun k => K.arlinklaw04_ArparseKeeps.l1 k l l (i : Int) ((0 : Nat) : Int) hm mp ms os) (fun k => ?_) ?_
    · rw [K.arlinklaw04_ArparseKeeps.l0, if_pos (by omega)]
      rfl
    · refine arck_l1 (N := N) (F := F) l hl hm mp os i (fun ms' h1 h2 => arck_l0 l hl hm mp os hmp N hN F hF d (i + 1) ms' (by omega) h1 h2) (by omega) hN _ 0 ms hms (fun j h1 h2 => hj j (by omega) h2) (Nat.zero_add _).symm ?_
      rw [hj i (Nat.le_refl _) (by omega)]
      exact hF i (by omega)
theorem arck_true (l : List Int) (hb : Byt l) : ∃ k, K.arlinklaw04_ArparseKeeps.f k l = some true := by
  apply Ev.rounds
  have haw : arlinklaw04_awake.f = some true := rfl
  refine Ev.congr (f := fun k => K.arlinklaw04_ArparseKeeps.j0 k l (decide ((l.length : Int) > 20000))) (fun k => ?_) ?_
  · unfold K.arlinklaw04_ArparseKeeps.f
    rw [haw]
    rfl
  by_cases hl : l.length ≤ 20000
  · rw [show decide ((l.length : Int) > 20000) = false from decide_eq_false (by omega)]
    obtain ⟨h1, h2, h3, h4⟩ := parseA_small l
    have hf : arparse_Parse.f l = some (parseA l) := by unfold arparse_Parse.f; rw [if_pos ⟨hb.to, by omega⟩]
    generalize parseA l = r at h1 h2 h3 h4 hf
    obtain ⟨hm, mp, ms, os, n, e⟩ := r
    simp only at h1 h2 h3 h4
    refine Ev.step (f := fun k => K.arlinklaw04_ArparseKeeps.l0 k l l ((0 : Nat) : Int) hm mp ms os) (fun k => ?_) ?_
    · rw [K.arlinklaw04_ArparseKeeps.j0, if_neg Bool.false_ne_true]
      simp only [Option.bind_some, List.nil_append]
      rw [if_pos (by rw [List.length_nil]; omega), hf]
      rfl
    · refine arck_l0 l (by omega) hm mp os (by omega) ms.length (by omega) (fun j => K.rd_T57 ms (j : Int)) (fun j hj => ?_) ms.length 0 ms (by omega) rfl (fun _ _ _ => rfl)
      have : K.rd_T57 ms (j : Int) = ms[j] := by unfold K.rd_T57; rw [Int.toNat_natCast, List.getD_eq_getElem?_getD, List.getElem?_eq_getElem hj]; rfl
      rw [this]
      have := h4 _ (List.getElem_mem hj)
      omega
  · rw [show decide ((l.length : Int) > 20000) = true from decide_eq_true (by omega)]
    refine Ev.step (f := fun _ => some true) (fun k => ?_) (Ev.now _)
    rw [K.arlinklaw04_ArparseKeeps.j0, if_pos rfl, haw]
    rfl
end Go.Proofs.YtjiokdkgbnakhaaDoor.Own
end TArcK
section TCArparseKeeps
set_option linter.unusedVariables false
set_option linter.unusedSimpArgs false
namespace Go.Proofs.YtjiokdkgbnakhaaDoor.Own
open Go.ChangeShapes Go.WideShapes Go.ChangeAt Go.RowKit Go.Proofs.YtjiokdkgbnakhaaDoor Go.Proofs.YtjiokdkgbnakhaaDoorW.PrintWords Go.Proofs.YtjiokdkgbnakhaaDoorW.PrintLast Go.Proofs.YtjiokdkgbnakhaaDoorW.PrintMore
set_option maxRecDepth 100000 in
theorem arparseKeeps_lifted (os : Os) (started : os.Started) (H : Type) (enc : TypeId × Value → H) :
    ReturnsInHanded {} Tryd.checked os 11 .any (fun w args => (Rows.arparseKeepsSpec.pre enc Tryd.prog Tryd.f11 [] false w args ∧ laidMetH Tryd.prog Rows.arparseKeepsRow.laid w) ∧ sizedMet enc Tryd.prog Tryd.f11 (OpenSpec.ofChange Rows.arparseKeepsSpec) false w args)
      (Rows.arparseKeepsSpec.post enc Tryd.prog Tryd.f11 false true false false) := by
  refine returns_laid (C := Tryd.checked) (X := fun w _ => laidMetH Tryd.prog Rows.arparseKeepsRow.laid w) (fun _ _ _ hh h => h.of_heap hh) ownKnob_none started (by kernel_rfl) Tryd.func11
    (ChangeSpec.witness_shaped (enc := enc) (C := Tryd.checked) (os := os) (X := fun w _ => laidMetH Tryd.prog Rows.arparseKeepsRow.laid w) false (World.laidAll Tryd.prog os Rows.arparseKeepsRow.laid) #[.slice none 0 0] 8 (World.laidAll_os _ _ _)
      (World.shaped_of_ZipB (by kernel_rfl) (by kernel_rfl)) (by kernel_rfl) (by kernel_rfl) (by kernel_rfl)
      (by rw [MakeChecks.laidMetH_plain _ _ _ (by kernel_rfl)]; exact laidMet_laidAll _ (by kernel_rfl) (by kernel_rfl))) ?_
  intro W base args ds gs before hval0 hW hsz0 hL hsh
  have hval : ∀ (j : Nat) t v, Tryd.f11.params[j]? = some t → args[j]? = some v → Value.okWide Tryd.prog W .any base t v := hval0
  have hW' := hW
  obtain ⟨p, q, hA0, hV, rfl, hfz, hnd⟩ := hW
  have hA : DataW.TrodAll enc Tryd.prog W 0 (fun _ => true) true Tryd.f11.params.toList args.toList ds p := hA0
  rw [Tryd.params11] at hA hval
  obtain ⟨v0, vs0, d0, ds0, p0, q0, hargs, rfl, rfl, h0, r0⟩ := trodAll_cons hA
  obtain ⟨rfl, rfl, rfl⟩ := trodAll_nil r0
  obtain rfl : args = #[v0] := by cases args; simp_all
  obtain ⟨rfl, rfl⟩ := trodVars_none hV
  obtain ⟨a0, len0, cap0, rfl⟩ := okWide_slice Tryd.underlying22 (hval 0 22 v0 rfl rfl)
  have k0 := h0
  have lt0 : ∀ x ∈ p0, x.block < W.heap.size := by obtain ⟨m, hm⟩ := k0; exact DataW.trod_lt m _ _ _ hm
  obtain ⟨l0, rfl, hr0, hc0, hb0⟩ := open_bytes h0
  clear hA0 hval0 hsz0
  have hM := maxlen_of_shaped hsh
  obtain ⟨k, hk⟩ := arck_true l0 hb0
  refine (K.arlinklaw04_ArparseKeeps.calls k a0 cap0 l0 true W hr0 hc0 hM hk).mono fun e W' ⟨he, bel⟩ => ?_
  subst he
  exact ⟨_, rfl, _, _, _, [], _, [], hW', trodAll_mk1 (shut_bool Tryd.underlying4 _), (trodAll_cons_mk (Below.trod laidOut (by kernel_rfl) (of_decide_eq_true (by kernel_rfl)) k0 bel lt0) trodAll_mk0), rfl, bel.frame _, fun h => by cases h⟩
theorem arparseKeeps_holds : Rows.ArparseKeepsSaid :=
  OpenClaim.holds_of_wide 11 Tryd.f11 rfl rfl rfl rfl rfl rfl rfl ⟨rfl, rfl, rfl, rfl, rfl⟩ rfl rfl rfl rfl rfl (by kernel_rfl) Tryd.func11 (by kernel_rfl)
    (of_decide_eq_true (by kernel_rfl)) (by unfold Func.isWrapper; first | (rw [if_pos (by decide +kernel)]; kernel_rfl) | (rw [if_neg (by decide +kernel)]; exact ⟨rfl, rfl⟩))
    (fun os started H enc _ => arparseKeeps_lifted os started H enc)
theorem arparseKeeps_card : Rows.ArparseKeepsCardSaid :=
  Claim7.holds_tied_plain_at .later [] [.data, .pinned] true (true, "df381366e579459a57ce2696b21ae4ce5f4ea8d3c7dfd708906824474476af97") false arparseKeeps_holds (fun _ h => by cases h) (by kernel_rfl) (fun _ h => by cases h) arparseKeeps_row_tie rfl ⟨rfl, rfl⟩ (by kernel_rfl) rfl
    (fun f fn hf hfn => by
      obtain rfl : f = 11 := Option.some.inj ((show Tryd.prog.funcNamed "arlink/arlinklaw04.ArparseKeeps" = some 11 by kernel_rfl).symm.trans hf) |>.symm
      obtain rfl : fn = Tryd.f11 := (Option.some.inj (Tryd.func11.symm.trans hfn)).symm
      exact ⟨by kernel_rfl, fun j t ht => by
        rw [Tryd.params11] at ht
        have hm : t ∈ [22] := by simpa using Array.mem_of_getElem? ht
        have hall : ([22].all fun u => !Tryd.prog.wantsStandIn u) = true := by kernel_rfl
        exact (show Tryd.prog.wantsStandIn t = false by simpa using List.all_eq_true.1 hall t hm)⟩)
    (by kernel_rfl)
#print axioms arparseKeeps_card
end Go.Proofs.YtjiokdkgbnakhaaDoor.Own
end TCArparseKeeps
