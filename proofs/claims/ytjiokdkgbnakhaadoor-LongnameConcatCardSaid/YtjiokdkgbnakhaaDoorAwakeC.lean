/- The documentation's examples of layer 3: awake returns true. Conditions on the world: MaxLen holds an int, the table of powers of ten its numbers. -/
import Derived.Test.YtjiokdkgbnakhaaDoorAwakeP
set_option linter.unusedVariables false
set_option linter.unusedSimpArgs false
namespace Go.Proofs.YtjiokdkgbnakhaaDoor.Own
open Go.RowKit Go.Proofs.YtjiokdkgbnakhaaDoor Go.Proofs.YtjiokdkgbnakhaaDoorW.PrintWords Go.Proofs.YtjiokdkgbnakhaaDoorW.PrintLast Go.Proofs.YtjiokdkgbnakhaaDoorW.PrintMore

theorem C_lits (W : World) (ss : List ByteArray) (hl : ss.length ≤ 1000) : Kd.string.C (W.alloc (.cells (ss.map Value.string).toArray 9)) (some ⟨W.heap.size, 0, none⟩) ss.length ss := by
  refine Kd.C_of_reads (enc := Value.string) (d := ByteArray.empty) (h1 := fun _ => rfl) ⟨rfl, by omega, fun _ => ⟨_, rfl, fun j hj => ?_⟩⟩
  have hx := World.alloc_heap_new W (.cells (ss.map Value.string).toArray 9)
  rw [cell_add_row hx]
  simp [hj]
/-- what the calls of 'awake' come to, each world behind the last -/
structure At (w W : World) (v0 v1 : Value) (T : List Int) (F : List ByteArray) : Prop where
  below : Below w.heap.size w W
  t : (Kd.int .u8).R 5 W w.heap.size (fun _ => True) v0 T
  f : Kd.string.R 9 W w.heap.size (fun _ => True) v1 F
theorem At.go {w W W' : World} {v0 v1 : Value} {T : List Int} {F : List ByteArray} (h : At w W v0 v1 T F) (hb : Below W.heap.size W W') : At w W' v0 v1 T F :=
  ⟨below_step h.below hb, Kd.R_below h.t hb, Kd.R_below h.f hb⟩

set_option maxRecDepth 100000 in
set_option maxHeartbeats 4000000 in
theorem awake_calls (w : World) (hM : Gmaxlen w) (hP : Gpow10 w) : Calls Tryd.prog 12 #[] w fun e w' => e = .returned (.bool true) ∧ Below w.heap.size w w' := by
  obtain ⟨T, hT⟩ : ∃ T, T = tabL := ⟨_, rfl⟩
  obtain ⟨F, hF⟩ : ∃ F : List ByteArray, F = [⟨#[97, 46, 111, 47]⟩, ⟨#[47, 48]⟩] := ⟨_, rfl⟩
  have e1 := ev_build
  rw [← hT, ← hF] at e1
  have h1 := K.longname_Build.calls 3 (some ⟨w.heap.size, 0, none⟩) 2 [nmA, nmL] T F 0 (w.alloc (.cells #[.string nmA, .string nmL] 9)) (C_lits w [nmA, nmL] (by decide)) (Nat.le_refl _) (hP.below ((Below.refl _ _).alloc (Nat.le_refl _) _)) e1
  have H1 := Lib.hid h1
  have HM := Lib.hid hM
  have HT := Lib.hid hT
  have HF := Lib.hid hF
  clear h1 e1 hM hP hT hF
  go_enter Tryd.func12, Tryd.ntmps12
  go_wp2_with fail
  refine H1.out.mono ?_
  rintro e W1 ⟨v0, v1, rfl, hv0, hv1, hb1⟩
  have A1 : At w W1 v0 v1 T F := ⟨((Below.refl _ _).alloc (Nat.le_refl _) _).trans (hb1.mono (by simp)), Kd.R_lower hv0 (by simp), Kd.R_lower hv1 (by simp)⟩
  clear hv0 hv1 hb1
  obtain ⟨At0, ct, rfl, hct, _⟩ := Kd.R_reads A1.t
  obtain ⟨Af0, cf, rfl, hcf, _⟩ := Kd.R_reads A1.f
  have HA1 := Lib.hid A1
  clear A1
  have rd (W : World) (h : At w W (.slice At0 T.length ct) (.slice Af0 F.length cf) T F) : (Kd.int .u8).C W At0 T.length T := by
    obtain ⟨A', c', e, _, hr⟩ := Kd.R_reads h.t
    injection e with e1 e2 e3
    rw [e1]; exact hr
  have RD := Lib.hid rd
  clear rd
  go_wp2_with fail
  refine (longname_Resolve.calls ⟨#[47, 48]⟩ At0 ct T nmL 0 _ (RD.out _ HA1.out) hct (HM.out.below HA1.out.below) (by rw [HT.out]; exact ev_res0)).mono ?_
  rintro e W2 ⟨rfl, hb⟩
  have HA2 := Lib.hid (HA1.out.go hb)
  clear hb
  go_wp2_with fail
  refine (longname_Resolve.calls ⟨#[97, 46, 111, 47]⟩ At0 ct T nmA 0 _ (RD.out _ HA2.out) hct (HM.out.below HA2.out.below) (by rw [HT.out]; exact ev_resA)).mono ?_
  rintro e W3 ⟨rfl, hb⟩
  have HA3 := Lib.hid (HA2.out.go hb)
  clear hb
  go_wp2_with fail
  refine (longname_Resolve.calls ⟨#[47, 49]⟩ At0 ct T ⟨#[]⟩ 6 _ (RD.out _ HA3.out) hct (HM.out.below HA3.out.below) (by rw [HT.out]; exact ev_res1)).mono ?_
  rintro e W4 ⟨rfl, hb⟩
  have HA4 := Lib.hid (HA3.out.go hb)
  clear hb
  obtain ⟨E, hE⟩ : ∃ E : List ByteArray, E = [nmL] := ⟨_, rfl⟩
  have HE := Lib.hid hE
  clear hE
  go_wp2_with fail
  refine (longname_Entries.calls At0 ct T E 0 _ (RD.out _ HA4.out) hct (HM.out.below HA4.out.below) (by rw [HT.out, HE.out]; exact ev_ent)).mono ?_
  rintro e W5 ⟨v2, rfl, hv2, hb⟩
  have HA5 := Lib.hid (HA4.out.go hb)
  obtain ⟨Ae, ce, rfl, hce, _⟩ := Kd.R_reads hv2
  have HV := Lib.hid hv2
  clear hb hv2
  have kc := fun (w : World) (C : Array Value) (n c : Nat) => Lib.run_convert_bytes_const (P := Tryd.prog) w 22 5 C n c Tryd.underlying22 Tryd.underlying5
  go_wp2_with fail
  have hx : (Kd.int .u8).C (W5.alloc (.cells #[.int .u8 120] 5 (1, 2))) (some ⟨W5.heap.size, 0, none⟩) 1 [120] := by
    refine Kd.C_of_reads (enc := Value.int .u8) (d := 0) (h1 := fun _ => rfl) ⟨rfl, by omega, fun _ => ⟨_, rfl, fun j hj => ?_⟩⟩
    have hx := World.alloc_heap_new W5 (.cells #[.int .u8 120] 5 (1, 2))
    rw [cell_add_row hx]
    have hj0 : j = 0 := by simpa using hj
    subst hj0
    rfl
  refine (longname_Entries.calls (some ⟨W5.heap.size, 0, none⟩) 1 [120] [] 7 _ hx (Nat.le_refl _) (HM.out.below (below_step HA5.out.below ((Below.refl _ _).alloc (Nat.le_refl _) _))) ev_entx).mono ?_
  rintro e W6 ⟨v3, rfl, hv3, hb⟩
  have HA6 := Lib.hid (HA5.out.go ((((Below.refl _ _).alloc (Nat.le_refl _) _)).trans (hb.mono (by simp))))
  have HV6 := Lib.hid (Kd.R_below HV.out ((((Below.refl _ _).alloc (Nat.le_refl _) _)).trans (hb.mono (by simp))))
  clear hb hv3 hx
  have hts : strOfNums T = ⟨#[97, 45, 118, 101, 114, 121, 45, 108, 111, 110, 103, 45, 110, 97, 109, 101, 46, 111, 47, 10]⟩ := by rw [HT.out]; decide +kernel
  have hcv := Kd.C_string (P := Tryd.prog) (c := ct) Tryd.underlying22 Tryd.underlying5 Tryd.underlying9 (RD.out _ HA6.out)
  rw [hts] at hcv
  clear hts
  have hf6 : ∀ W, Below W6.heap.size W6 W → Kd.string.C W Af0 F.length F := by
    intro W hb
    obtain ⟨A', c', e, _, hr⟩ := Kd.R_reads (HA6.out.go hb).f
    injection e with e1 e2 e3
    rw [e1]; exact hr
  have he6 : ∀ W, Below W6.heap.size W6 W → Kd.string.C W Ae E.length E := by
    intro W hb
    obtain ⟨A', c', e, _, hr⟩ := Kd.R_reads (Kd.R_below HV6.out hb)
    injection e with e1 e2 e3
    rw [e1]; exact hr
  have HF6 := Lib.hid hf6
  have HE6 := Lib.hid he6
  clear hf6 he6
  have hx1 : Calls Tryd.prog 22 #[.slice Af0 F.length cf, .slice (some ⟨W6.heap.size, 0, none⟩) 2 2] (W6.alloc (.cells #[.string ⟨#[97, 46, 111, 47]⟩, .string ⟨#[47, 48]⟩] 9)) fun e w' => e = .returned (.bool true) ∧ Drawn0 (W6.alloc (.cells #[.string ⟨#[97, 46, 111, 47]⟩, .string ⟨#[47, 48]⟩] 9)) w' := K.arlinkref03_Texts.calls 5 Af0 cf F (some ⟨W6.heap.size, 0, none⟩) 2 [⟨#[97, 46, 111, 47]⟩, ⟨#[47, 48]⟩] true _ (HF6.out _ ((Below.refl _ _).alloc (Nat.le_refl _) _)) hcf (C_lits W6 [⟨#[97, 46, 111, 47]⟩, ⟨#[47, 48]⟩] (by decide)) (Nat.le_refl _) (by rw [HF.out]; exact ev_txt1)
  have HX1 := Lib.hid hx1
  have q1 : (nmL.toList == [97, 45, 118, 101, 114, 121, 45, 108, 111, 110, 103, 45, 110, 97, 109, 101, 46, 111]) = true := by decide +kernel
  have q2 : (nmA.toList == [97, 46, 111]) = true := by decide +kernel
  have hx2 : ∀ nd, Calls Tryd.prog 22 #[.slice Ae E.length ce, .slice (some ⟨W6.heap.size + 1, 0, none⟩) 1 1] (((W6.alloc (.cells #[.string ⟨#[97, 46, 111, 47]⟩, .string ⟨#[47, 48]⟩] 9)).drewN nd).alloc (.cells #[.string ⟨#[97, 45, 118, 101, 114, 121, 45, 108, 111, 110, 103, 45, 110, 97, 109, 101, 46, 111]⟩] 9)) fun e w' => e = .returned (.bool true) ∧ ∃ nd', w' = ((((W6.alloc (.cells #[.string ⟨#[97, 46, 111, 47]⟩, .string ⟨#[47, 48]⟩] 9)).drewN nd).alloc (.cells #[.string ⟨#[97, 45, 118, 101, 114, 121, 45, 108, 111, 110, 103, 45, 110, 97, 109, 101, 46, 111]⟩] 9))).drewN nd' := by
    intro nd
    have hsz : ((W6.alloc (.cells #[.string ⟨#[97, 46, 111, 47]⟩, .string ⟨#[47, 48]⟩] 9)).drewN nd).heap.size = W6.heap.size + 1 := by show (W6.alloc _).heap.size = _; rw [World.size_alloc]
    have hc := C_lits ((W6.alloc (.cells #[.string ⟨#[97, 46, 111, 47]⟩, .string ⟨#[47, 48]⟩] 9)).drewN nd) [nmL] (by decide)
    rw [hsz] at hc
    refine (K.arlinkref03_Texts.calls 5 Ae ce E (some ⟨W6.heap.size + 1, 0, none⟩) 1 [nmL] true _ (HE6.out _ ?_) hce hc (Nat.le_refl _) (by rw [HE.out]; exact ev_txt2)).mono ?_
    · exact below_alloc (pw_below_drewN (below_alloc (Below.refl _ _) _) nd) _
    · rintro e w' ⟨rfl, ⟨nd', rfl⟩⟩
      exact ⟨rfl, nd', rfl⟩
  have HX2 := Lib.hid hx2
  clear hx1 hx2
  have hs1 : ∀ W, Calls Tryd.prog 36 #[.string ⟨#[97, 46, 111]⟩] W fun e w' => e = .returned (.bool true) ∧ Below W.heap.size W w' := fun W => (show shortB ⟨#[97, 46, 111]⟩ = true from ev_s1) ▸ short_calls ⟨#[97, 46, 111]⟩ W
  have hs2 : ∀ W, Calls Tryd.prog 36 #[.string ⟨#[97, 32]⟩] W fun e w' => e = .returned (.bool false) ∧ Below W.heap.size W w' := fun W => ev_s2 ▸ short_calls ⟨#[97, 32]⟩ W
  have hv1 : ∀ W, Calls Tryd.prog 35 #[.string ⟨#[120]⟩] W fun e w' => e = .returned (.bool true) ∧ Below W.heap.size W w' := fun W => ev_v1 ▸ valid_calls ⟨#[120]⟩ W
  have hv2 : ∀ W, Calls Tryd.prog 35 #[.string ⟨#[]⟩] W fun e w' => e = .returned (.bool false) ∧ Below W.heap.size W w' := fun W => ev_v2 ▸ valid_calls ⟨#[]⟩ W
  have HS1 := Lib.hid hs1
  have HS2 := Lib.hid hs2
  have HV1 := Lib.hid hv1
  have HV2 := Lib.hid hv2
  clear hs1 hs2 hv1 hv2
  go_wp2_with (first
    | (go_at_call 22; (with_reducible refine HX1.out.mono ?_); rintro e w' ⟨rfl, ⟨nd, rfl⟩⟩)
    | (go_at_call 22; (with_reducible refine (HX2.out _).mono ?_); rintro e w' ⟨rfl, ⟨nd', rfl⟩⟩)
    | (go_at_call 35; (with_reducible refine (HV1.out _).mono ?_); rintro e W7 ⟨rfl, hb7⟩; have HB7 := Lib.hid hb7; clear hb7)
    | (go_at_call 35; (with_reducible refine (HV2.out _).mono ?_); rintro e W8 ⟨rfl, hb8⟩; have HB8 := Lib.hid hb8; clear hb8)
    | (go_at_call 36; (with_reducible refine (HS1.out _).mono ?_); rintro e W9 ⟨rfl, hb9⟩; have HB9 := Lib.hid hb9; clear hb9)
    | (go_at_call 36; (with_reducible refine (HS2.out _).mono ?_); rintro e W10 ⟨rfl, hb10⟩; have HB10 := Lib.hid hb10; clear hb10)
    | fail)
  have hbl := below_alloc (pw_below_drewN (below_alloc HA6.out.below (.cells #[.string ⟨#[97, 46, 111, 47]⟩, .string ⟨#[47, 48]⟩] 9)) nd) (.cells #[.string ⟨#[97, 45, 118, 101, 114, 121, 45, 108, 111, 110, 103, 45, 110, 97, 109, 101, 46, 111]⟩] 9)
  have hb10 := below_step (below_step (below_step (below_step (pw_below_drewN hbl nd') HB7.out) HB8.out) HB9.out) HB10.out
  go_ret
  exact ⟨rfl, hb10⟩

def arlinklaw03_awake.f : Option Bool := some true

theorem arlinklaw03_awake.calls (r : Bool) (w : World) (hGmaxlen : Gmaxlen w) (hGpow10 : Gpow10 w) (h : arlinklaw03_awake.f = some r) : Calls Tryd.prog 12 #[] w fun e w' => e = .returned (.bool r) ∧ Below w.heap.size w w' := by
  have h' : some true = some r := h
  cases h'
  exact awake_calls w hGmaxlen hGpow10
#print axioms arlinklaw03_awake.calls

end Go.Proofs.YtjiokdkgbnakhaaDoor.Own
