/- Packed by a program of our own: the texts that the card of this claim needs, part 6 of 7; conditions: those of each theorem. -/
import Derived.Deep.DeepCutAuto
import Derived.Deep.RegionHeld3
import Derived.Outline
import Derived.RangeFuncBox
import Derived.RangeFuncCalls
import Derived.RangeFuncLeaves
import Derived.RangeFuncNested
import Derived.RangeFuncWrites
import Derived.Test.YtjiokdkgbnakhaaDoorP14
section TAddM
set_option linter.unusedVariables false
set_option linter.unusedSimpArgs false
namespace Go.Proofs.YtjiokdkgbnakhaaDoor.Own
open Go.RowKit Go.Proofs.YtjiokdkgbnakhaaDoor Go.Proofs.YtjiokdkgbnakhaaDoorW.PrintWords Go.Proofs.YtjiokdkgbnakhaaDoorW.PrintLast Go.Proofs.YtjiokdkgbnakhaaDoorW.PrintMore
theorem resolve_calls (s : ByteArray) (An : Option Addr) (cn : Nat) (d : List Int) (W : World) (hr : (Kd.int .u8).C W An d.length d) (hc : d.length ≤ cn) (hG : Gmaxlen W) (hby : Byt d) (hl : d.length < 4294967281) (hs : s.size ≤ 9223372036854775807) :
    Calls Tryd.prog 18 #[.string s, .slice An d.length cn] W fun e w' => e = .returned (.tuple #[.string (resolveV s d).1, .int .i64 (resolveV s d).2]) ∧ Below W.heap.size W w' := by
  refine (longname_Resolve.calls s An cn d (resolveV s d).1 (resolveV s d).2 W hr hc hG ?_)
  unfold longname_Resolve.f
  rw [if_pos ⟨hby.to, hl, hs⟩]
theorem three_ways (l t : Bool) : l = false ∨ (l = true ∧ t = true) ∨ (l = true ∧ t = false) := by cases l <;> cases t <;> simp
set_option maxRecDepth 100000 in
set_option maxHeartbeats 4000000 in
theorem add_member_bad (B X : Nat) (ok : Nat → Prop) (W : World) (st : PSt) (at_ : Int) (r : PartR) (Ad : Option Addr) (cd : Nat) (hP : PInv B X ok W st) (hm : isMap r.1 = false) (ht' : isTable r.1 = false)
    (hG : Gmaxlen W) (hby : Byt st.names) (hlt : st.names.length < 4294967281) (hsz : r.1.size ≤ 9223372036854775807) (hz : (resolveV r.1 st.names).2 ≠ 0) :
    Calls Tryd.prog 47 #[.pointer (some ⟨X, 0, none⟩), .int .i64 at_, argP r (.slice Ad r.data.length cd)] W fun e W' => e = .returned (.int .i64 (resolveV r.1 st.names).2) ∧ Below W.heap.size W W' := by
  obtain ⟨A1, A2, A3, A4, c1, c2, c3, c4, hblk, hr1, hr2, hr3, hr4⟩ := hP
  have hc := fun i => cell_of_row W X i _ _ _ hblk
  have h0 : W.cell? ⟨X, 0, none⟩ = some (.bool st.hm) := hc 0
  have h2 : W.cell? ⟨X, 2, none⟩ = some (.slice A2 st.ms.length c2) := hc 2
  have h4 : W.cell? ⟨X, 4, none⟩ = some (.slice A4 st.names.length c4) := hc 4
  have h5 : W.cell? ⟨X, 5, none⟩ = some (.bool st.ht) := hc 5
  have hX : X < W.heap.size := (Array.getElem?_eq_some_iff.1 hblk).1
  obtain ⟨_, hc4, hC4⟩ := Kd.R_reads' hr4
  have HRS := Lib.hid (fun W' (hb : Below W.heap.size W W') => resolve_calls r.1 A4 c4 st.names W' (Kd.C_below hC4 hb) hc4 (hG.below hb) hby hlt hsz)
  obtain ⟨r1, r2, r3, r4, r5, r6, r7, r8, r9⟩ := r
  simp only [PartR.data, argP, cellsP] at *
  have q : (r1.toList == [47]) = false := hm
  have q2 : (r1.toList == [47, 47]) = false := ht'
  generalize hE : resolveV r1 st.names = E at *
  clear hE hm ht' hblk hc hr1 hr2 hr3 hr4 hG hby hlt hsz hC4
  obtain ⟨E1, E2⟩ := E
  simp only at HRS hz ⊢
  have hzb : (E2 == 0) = false := by simpa using hz
  have hzn : (E2 != 0) = true := by simpa using hz
  clear hz
  rcases three_ways ((st.ms.length : Int) == 0) st.ht with hl | ⟨hl, ht⟩ | ⟨hl, ht⟩
  all_goals
    try (rw [ht] at h5; clear ht)
    go_enter Tryd.func47, Tryd.ntmps47
    go_wp2
    go_region_held3 (fun w' => w'.cell? ⟨X, 4, none⟩ = some (.slice A4 st.names.length c4) ∧ w'.cell? ⟨W.heap.size, 0, none⟩ = some (.string r1)) (go_keep)
      (first | (go_at_call 18; refine (HRS.out _ (below_drew (below_alloc (Below.refl _ _) _))).mono ?_; rintro e w2 ⟨rfl, hb⟩; have s4 : w2.cell? ⟨X, 4, none⟩ = some (.slice A4 st.names.length c4) := pw_cell_below hb (pw_cell_below (below_drew (below_alloc (Below.refl _ _) _)) h4); have s0 : w2.cell? ⟨W.heap.size, 0, none⟩ = some (.string r1) := pw_cell_below hb (cell_of_row _ W.heap.size 0 _ _ _ (World.alloc_heap_new W (.cells #[.string r1, .int .i64 r2, .int .i64 r3, .int .i64 r4, .int .i64 r5, .int .i64 r6, .slice Ad r7.length cd, .int .i64 r8] 86))); have HPB := Lib.hid ((hb.block W.heap.size (by show _ < (W.alloc _).heap.size; simp)).trans (World.alloc_heap_new W (.cells #[.string r1, .int .i64 r2, .int .i64 r3, .int .i64 r4, .int .i64 r5, .int .i64 r6, .slice Ad r7.length cd, .int .i64 r8] 86))); have HB := Lib.hid (below_step (below_drew (below_alloc (Below.refl _ _) _)) hb); clear hb))
    go_wp2
    go_ret
    exact ⟨rfl, HB.out⟩
def MemberSays (B X : Nat) (W : World) (st' : PSt) (e : Ending) (W' : World) : Prop := e = .returned (.int .i64 0) ∧ PInv B X (fun _ => True) W' st' ∧ KeepP B X W W'
set_option maxRecDepth 100000 in
set_option maxHeartbeats 8000000 in
theorem add_member_good (B X : Nat) (ok : Nat → Prop) (W : World) (st : PSt) (at_ : Int) (r : PartR) (Ad : Option Addr) (cd : Nat) (hP : PInv B X (fun k => some k ≠ (Value.slice Ad r.data.length cd).ownBlock) W st) (hm : isMap r.1 = false) (ht' : isTable r.1 = false)
    (hG : Gmaxlen W) (hby : Byt st.names) (hlt : st.names.length < 4294967281) (hsz : r.1.size ≤ 9223372036854775807) (hz : (resolveV r.1 st.names).2 = 0)
    (hv : (Kd.int .u8).R 5 W B (fun _ => True) (.slice Ad r.data.length cd) r.data) (hBW : B ≤ W.heap.size) (hlen : st.ms.length < 1954687338268 ∧ st.os.length < 17592186044416) :
    Calls Tryd.prog 47 #[.pointer (some ⟨X, 0, none⟩), .int .i64 at_, argP r (.slice Ad r.data.length cd)] W (MemberSays B X W { st with ms := st.ms ++ [memberV (resolveV r.1 st.names).1 r], os := st.os ++ [at_] }) := by
  have HP := Lib.hid hP
  have HV := Lib.hid hv
  have HLEN := Lib.hid hlen
  have HBW := Lib.hid hBW
  clear hv hlen hBW
  obtain ⟨A1, A2, A3, A4, c1, c2, c3, c4, hblk, hr1, hr2, hr3, hr4⟩ := hP
  have hc := fun i => cell_of_row W X i _ _ _ hblk
  have h0 : W.cell? ⟨X, 0, none⟩ = some (.bool st.hm) := hc 0
  have h2 : W.cell? ⟨X, 2, none⟩ = some (.slice A2 st.ms.length c2) := hc 2
  have h4 : W.cell? ⟨X, 4, none⟩ = some (.slice A4 st.names.length c4) := hc 4
  have h5 : W.cell? ⟨X, 5, none⟩ = some (.bool st.ht) := hc 5
  have hX : X < W.heap.size := (Array.getElem?_eq_some_iff.1 hblk).1
  obtain ⟨_, hc4, hC4⟩ := Kd.R_reads' hr4
  have HRS := Lib.hid (fun W' (hb : Below W.heap.size W W') => resolve_calls r.1 A4 c4 st.names W' (Kd.C_below hC4 hb) hc4 (hG.below hb) hby hlt hsz)
  obtain ⟨r1, r2, r3, r4, r5, r6, r7, r8, r9⟩ := r
  simp only [PartR.data, argP, cellsP] at *
  have q : (r1.toList == [47]) = false := hm
  have q2 : (r1.toList == [47, 47]) = false := ht'
  generalize hE : resolveV r1 st.names = E at *
  clear hE hm ht' hblk hc hr1 hr2 hr3 hr4 hG hby hlt hsz hC4
  obtain ⟨E1, E2⟩ := E
  simp only [memberV, PartR.data] at HRS hz HV HP ⊢
  subst hz
  rcases three_ways ((st.ms.length : Int) == 0) st.ht with hl | ⟨hl, ht⟩ | ⟨hl, ht⟩
  all_goals
    try (rw [ht] at h5; clear ht)
    go_enter Tryd.func47, Tryd.ntmps47
    go_wp2
    go_region_held3 (fun w' => w'.cell? ⟨X, 4, none⟩ = some (.slice A4 st.names.length c4) ∧ w'.cell? ⟨W.heap.size, 0, none⟩ = some (.string r1)) (go_keep)
      (first | (go_at_call 18; refine (HRS.out _ (below_drew (below_alloc (Below.refl _ _) _))).mono ?_; rintro e w2 ⟨rfl, hb⟩; have s4 : w2.cell? ⟨X, 4, none⟩ = some (.slice A4 st.names.length c4) := pw_cell_below hb (pw_cell_below (below_drew (below_alloc (Below.refl _ _) _)) h4); have s0 : w2.cell? ⟨W.heap.size, 0, none⟩ = some (.string r1) := pw_cell_below hb (cell_of_row _ W.heap.size 0 _ _ _ (World.alloc_heap_new W (.cells #[.string r1, .int .i64 r2, .int .i64 r3, .int .i64 r4, .int .i64 r5, .int .i64 r6, .slice Ad r7.length cd, .int .i64 r8] 86))); have HPB := Lib.hid ((hb.block W.heap.size (by show _ < (W.alloc _).heap.size; simp)).trans (World.alloc_heap_new W (.cells #[.string r1, .int .i64 r2, .int .i64 r3, .int .i64 r4, .int .i64 r5, .int .i64 r6, .slice Ad r7.length cd, .int .i64 r8] 86))); have HB := Lib.hid (below_step (below_drew (below_alloc (Below.refl _ _) _)) hb); clear hb))
    go_wp2
    obtain ⟨B1, B2, B3, B4, d1, d2, d3, d4, hX2, hr1, hr2, hr3, hr4⟩ := HP.out.go HB.out
    have HX3 := Lib.hid (blk_drew hX2)
    have HP3 := Lib.hid (blk_drew HPB.out)
    have HR1 := Lib.hid (Kd.R_drew hr1)
    have HR2 := Lib.hid (Kd.S_drew hr2)
    have HR3 := Lib.hid (Kd.R_drew hr3)
    have HR4 := Lib.hid (Kd.R_drew hr4)
    have HD3 := Lib.hid (Kd.R_drew (Kd.R_below HV.out HB.out))
    have HK3 := Lib.hid (KeepP.of_below (B := B) (X := X) (below_drew HB.out))
    have HBS : Hid (B ≤ w2.drew.heap.size) := Lib.hid (Nat.le_trans HBW.out HB.out.size)
    clear s4 s0 h0 h2 h4 h5 hX2 hr1 hr2 hr3 hr4 hX
    generalize W.heap.size = P at *
    refine start_ (n := 28) (S := fun w' => w'.cell? ⟨X, 2, none⟩ = some (.slice B2 st.ms.length d2) ∧ w'.cell? ⟨P, 1, none⟩ = some (.int .i64 r2) ∧ w'.cell? ⟨P, 2, none⟩ = some (.int .i64 r3) ∧ w'.cell? ⟨P, 3, none⟩ = some (.int .i64 r4) ∧ w'.cell? ⟨P, 4, none⟩ = some (.int .i64 r5) ∧ w'.cell? ⟨P, 6, none⟩ = some (.slice Ad r7.length cd)) (ds := [27]) #[false, false, false, false, false, false, false, false, false, false, false, false, false, false, false, false, false, false, false, false, false, false, false, false, false, false, false, false] (by kernel_rfl) rfl rfl ⟨(blk_cell (HX3.out) 2).trans rfl, (blk_cell (HP3.out) 1).trans rfl, (blk_cell (HP3.out) 2).trans rfl, (blk_cell (HP3.out) 3).trans rfl, (blk_cell (HP3.out) 4).trans rfl, (blk_cell (HP3.out) 6).trans rfl⟩ (fun hHeld => ?_)
    generalize w2.drew = w3 at *
    refine pure_ (i := 0) (N := some 86) (v := ?_) (a' := ?_) #[true, false, false, false, false, false, false, false, false, false, false, false, false, false, false, false, false, false, false, false, false, false, false, false, false, false, false, false] rfl rfl (by kernel_rfl) (fun _ _ _ h => h) (Or.inl ⟨by rfl, ?_⟩) ?_ ?_
    rotate_left
    · intro w'
      go_simp
      with_reducible rfl
    rotate_left
    · simp only [Act.put, List.setIfInBounds_toArray, List.set_cons_zero, List.set_cons_succ, i64_w, i32_w]
      rfl
    refine pure_ (i := 1) (N := some 87) (v := ?_) (a' := ?_) #[true, true, false, false, false, false, false, false, false, false, false, false, false, false, false, false, false, false, false, false, false, false, false, false, false, false, false, false] rfl rfl (by kernel_rfl) (fun _ _ _ h => h) (Or.inl ⟨by rfl, ?_⟩) ?_ ?_
    rotate_left
    · intro w'
      go_simp
      with_reducible rfl
    rotate_left
    · simp only [Act.put, List.setIfInBounds_toArray, List.set_cons_zero, List.set_cons_succ, i64_w, i32_w]
      rfl
    refine pure_ (i := 2) (N := some 88) (v := ?_) (a' := ?_) #[true, true, true, false, false, false, false, false, false, false, false, false, false, false, false, false, false, false, false, false, false, false, false, false, false, false, false, false] rfl rfl (by kernel_rfl) (fun _ _ _ h => h) (Or.inl ⟨by rfl, ?_⟩) ?_ ?_
    rotate_left
    · intro w'
      go_simp
      with_reducible rfl
    rotate_left
    · simp only [Act.put, List.setIfInBounds_toArray, List.set_cons_zero, List.set_cons_succ, i64_w, i32_w]
      rfl
    refine pure_ (i := 3) (N := some 89) (v := ?_) (a' := ?_) #[true, true, true, true, false, false, false, false, false, false, false, false, false, false, false, false, false, false, false, false, false, false, false, false, false, false, false, false] rfl rfl (by kernel_rfl) (fun _ _ _ h => h) (Or.inl ⟨by rfl, ?_⟩) ?_ ?_
    rotate_left
    · intro w'
      go_simp
      with_reducible rfl
    rotate_left
    · simp only [Act.put, List.setIfInBounds_toArray, List.set_cons_zero, List.set_cons_succ, i64_w, i32_w]
      rfl
    refine pure_ (i := 4) (N := some 90) (v := ?_) (a' := ?_) #[true, true, true, true, true, false, false, false, false, false, false, false, false, false, false, false, false, false, false, false, false, false, false, false, false, false, false, false] rfl rfl (by kernel_rfl) (fun _ _ _ h => h) (Or.inl ⟨by rfl, ?_⟩) ?_ ?_
    rotate_left
    · intro w'
      go_simp
      with_reducible rfl
    rotate_left
    · simp only [Act.put, List.setIfInBounds_toArray, List.set_cons_zero, List.set_cons_succ, i64_w, i32_w]
      rfl
    refine pure_ (i := 6) (N := some 92) (v := ?_) (a' := ?_) #[true, true, true, true, true, false, true, false, false, false, false, false, false, false, false, false, false, false, false, false, false, false, false, false, false, false, false, false] rfl rfl (by kernel_rfl) (fun _ _ _ h => h) (Or.inl ⟨by rfl, ?_⟩) ?_ ?_
    rotate_left
    · intro w'
      go_simp
      with_reducible rfl
    rotate_left
    · simp only [Act.put, List.setIfInBounds_toArray, List.set_cons_zero, List.set_cons_succ, i64_w, i32_w]
      rfl
    refine pure_ (i := 7) (N := some 93) (v := ?_) (a' := ?_) #[true, true, true, true, true, false, true, true, false, false, false, false, false, false, false, false, false, false, false, false, false, false, false, false, false, false, false, false] rfl rfl (by kernel_rfl) (fun _ _ _ h => h) (Or.inl ⟨by rfl, ?_⟩) ?_ ?_
    rotate_left
    · intro w'
      go_simp
      with_reducible rfl
    rotate_left
    · simp only [Act.put, List.setIfInBounds_toArray, List.set_cons_zero, List.set_cons_succ, i64_w, i32_w]
      rfl
    refine pure_ (i := 8) (N := some 94) (v := ?_) (a' := ?_) #[true, true, true, true, true, false, true, true, true, false, false, false, false, false, false, false, false, false, false, false, false, false, false, false, false, false, false, false] rfl rfl (by kernel_rfl) (fun _ _ _ h => h) (Or.inl ⟨by rfl, ?_⟩) ?_ ?_
    rotate_left
    · intro w'
      go_simp
      with_reducible rfl
    rotate_left
    · simp only [Act.put, List.setIfInBounds_toArray, List.set_cons_zero, List.set_cons_succ, i64_w, i32_w]
      rfl
    refine pure_ (i := 10) (N := some 96) (v := ?_) (a' := ?_) #[true, true, true, true, true, false, true, true, true, false, true, false, false, false, false, false, false, false, false, false, false, false, false, false, false, false, false, false] rfl rfl (by kernel_rfl) (fun _ _ _ h => h) (Or.inl ⟨by rfl, ?_⟩) ?_ ?_
    rotate_left
    · intro w'
      go_simp
      with_reducible rfl
    rotate_left
    · simp only [Act.put, List.setIfInBounds_toArray, List.set_cons_zero, List.set_cons_succ, i64_w, i32_w]
      rfl
    refine pure_ (i := 11) (N := some 97) (v := ?_) (a' := ?_) #[true, true, true, true, true, false, true, true, true, false, true, true, false, false, false, false, false, false, false, false, false, false, false, false, false, false, false, false] rfl rfl (by kernel_rfl) (fun _ _ _ h => h) (Or.inl ⟨by rfl, ?_⟩) ?_ ?_
    rotate_left
    · intro w'
      go_simp
      with_reducible rfl
    rotate_left
    · simp only [Act.put, List.setIfInBounds_toArray, List.set_cons_zero, List.set_cons_succ, i64_w, i32_w]
      rfl
    refine pure_ (i := 13) (N := some 99) (v := ?_) (a' := ?_) #[true, true, true, true, true, false, true, true, true, false, true, true, false, true, false, false, false, false, false, false, false, false, false, false, false, false, false, false] rfl rfl (by kernel_rfl) (fun _ _ _ h => h) (Or.inl ⟨by rfl, ?_⟩) ?_ ?_
    rotate_left
    · intro w'
      go_simp
      with_reducible rfl
    rotate_left
    · simp only [Act.put, List.setIfInBounds_toArray, List.set_cons_zero, List.set_cons_succ, i64_w, i32_w]
      rfl
    refine pure_ (i := 14) (N := some 100) (v := ?_) (a' := ?_) #[true, true, true, true, true, false, true, true, true, false, true, true, false, true, true, false, false, false, false, false, false, false, false, false, false, false, false, false] rfl rfl (by kernel_rfl) (fun _ _ _ h => h) (Or.inl ⟨by rfl, ?_⟩) ?_ ?_
    rotate_left
    · intro w'
      go_simp
      with_reducible rfl
    rotate_left
    · simp only [Act.put, List.setIfInBounds_toArray, List.set_cons_zero, List.set_cons_succ, i64_w, i32_w]
      rfl
    refine pure_ (i := 16) (N := some 102) (v := ?_) (a' := ?_) #[true, true, true, true, true, false, true, true, true, false, true, true, false, true, true, false, true, false, false, false, false, false, false, false, false, false, false, false] rfl rfl (by kernel_rfl) (fun _ _ _ h => h) (Or.inl ⟨by rfl, ?_⟩) ?_ ?_
    rotate_left
    · intro w'
      go_simp
      with_reducible rfl
    rotate_left
    · simp only [Act.put, List.setIfInBounds_toArray, List.set_cons_zero, List.set_cons_succ, i64_w, i32_w]
      rfl
    refine pure_ (i := 17) (N := some 103) (v := ?_) (a' := ?_) #[true, true, true, true, true, false, true, true, true, false, true, true, false, true, true, false, true, true, false, false, false, false, false, false, false, false, false, false] rfl rfl (by kernel_rfl) (fun _ _ _ h => h) (Or.inl ⟨by rfl, ?_⟩) ?_ ?_
    rotate_left
    · intro w'
      go_simp
      with_reducible rfl
    rotate_left
    · simp only [Act.put, List.setIfInBounds_toArray, List.set_cons_zero, List.set_cons_succ, i64_w, i32_w]
      rfl
    refine pure_ (i := 19) (N := some 105) (v := ?_) (a' := ?_) #[true, true, true, true, true, false, true, true, true, false, true, true, false, true, true, false, true, true, false, true, false, false, false, false, false, false, false, false] rfl rfl (by kernel_rfl) (fun _ _ _ h => h) (Or.inl ⟨by rfl, ?_⟩) ?_ ?_
    rotate_left
    · intro w'
      go_simp
      with_reducible rfl
    rotate_left
    · simp only [Act.put, List.setIfInBounds_toArray, List.set_cons_zero, List.set_cons_succ, i64_w, i32_w]
      rfl
    refine take_ (i := 5) (N := some 91) (v := ?_) (a' := ?_) #[true, true, true, true, true, true, true, true, true, false, true, true, false, true, true, false, true, true, false, true, false, false, false, false, false, false, false, false] rfl rfl (by kernel_rfl) (fun _ _ _ h => h) (Or.inl ⟨by rfl, ?_⟩) hHeld ?_ ?_
    rotate_left
    · rintro w' ⟨s0, s1, s2, s3, s4, s5⟩
      go_simp
      with_reducible rfl
    rotate_left
    · simp only [Act.put, List.setIfInBounds_toArray, List.set_cons_zero, List.set_cons_succ, i64_w, i32_w]
      rfl
    refine take_ (i := 9) (N := some 95) (v := ?_) (a' := ?_) #[true, true, true, true, true, true, true, true, true, true, true, true, false, true, true, false, true, true, false, true, false, false, false, false, false, false, false, false] rfl rfl (by kernel_rfl) (fun _ _ _ h => h) (Or.inl ⟨by rfl, ?_⟩) hHeld ?_ ?_
    rotate_left
    · rintro w' ⟨s0, s1, s2, s3, s4, s5⟩
      go_simp
      with_reducible rfl
    rotate_left
    · simp only [Act.put, List.setIfInBounds_toArray, List.set_cons_zero, List.set_cons_succ, i64_w, i32_w]
      rfl
    refine take_ (i := 12) (N := some 98) (v := ?_) (a' := ?_) #[true, true, true, true, true, true, true, true, true, true, true, true, true, true, true, false, true, true, false, true, false, false, false, false, false, false, false, false] rfl rfl (by kernel_rfl) (fun _ _ _ h => h) (Or.inl ⟨by rfl, ?_⟩) hHeld ?_ ?_
    rotate_left
    · rintro w' ⟨s0, s1, s2, s3, s4, s5⟩
      go_simp
      with_reducible rfl
    rotate_left
    · simp only [Act.put, List.setIfInBounds_toArray, List.set_cons_zero, List.set_cons_succ, i64_w, i32_w]
      rfl
    refine take_ (i := 15) (N := some 101) (v := ?_) (a' := ?_) #[true, true, true, true, true, true, true, true, true, true, true, true, true, true, true, true, true, true, false, true, false, false, false, false, false, false, false, false] rfl rfl (by kernel_rfl) (fun _ _ _ h => h) (Or.inl ⟨by rfl, ?_⟩) hHeld ?_ ?_
    rotate_left
    · rintro w' ⟨s0, s1, s2, s3, s4, s5⟩
      go_simp
      with_reducible rfl
    rotate_left
    · simp only [Act.put, List.setIfInBounds_toArray, List.set_cons_zero, List.set_cons_succ, i64_w, i32_w]
      rfl
    refine take_ (i := 18) (N := some 104) (v := ?_) (a' := ?_) #[true, true, true, true, true, true, true, true, true, true, true, true, true, true, true, true, true, true, true, true, false, false, false, false, false, false, false, false] rfl rfl (by kernel_rfl) (fun _ _ _ h => h) (Or.inl ⟨by rfl, ?_⟩) hHeld ?_ ?_
    rotate_left
    · rintro w' ⟨s0, s1, s2, s3, s4, s5⟩
      go_simp
      with_reducible rfl
    rotate_left
    · simp only [Act.put, List.setIfInBounds_toArray, List.set_cons_zero, List.set_cons_succ, i64_w, i32_w]
      rfl
    refine take_ (i := 20) (N := some 106) (v := ?_) (a' := ?_) #[true, true, true, true, true, true, true, true, true, true, true, true, true, true, true, true, true, true, true, true, true, false, false, false, false, false, false, false] rfl rfl (by kernel_rfl) (fun _ _ _ h => h) (Or.inl ⟨by rfl, ?_⟩) hHeld ?_ ?_
    rotate_left
    · rintro w' ⟨s0, s1, s2, s3, s4, s5⟩
      go_simp
      with_reducible rfl
    rotate_left
    · simp only [Act.put, List.setIfInBounds_toArray, List.set_cons_zero, List.set_cons_succ, i64_w, i32_w]
      rfl
    refine pure_ (i := 21) (N := some 107) (v := ?_) (a' := ?_) #[true, true, true, true, true, true, true, true, true, true, true, true, true, true, true, true, true, true, true, true, true, true, false, false, false, false, false, false] rfl rfl (by kernel_rfl) (fun _ _ _ h => h) (Or.inl ⟨by rfl, ?_⟩) ?_ ?_
    rotate_left
    · intro w'
      go_simp
      with_reducible rfl
    rotate_left
    · simp only [Act.put, List.setIfInBounds_toArray, List.set_cons_zero, List.set_cons_succ, i64_w, i32_w]
      rfl
    refine one_ (i := 22) (N := some 108) #[true, true, true, true, true, true, true, true, true, true, true, true, true, true, true, true, true, true, true, true, true, true, true, false, false, false, false, false] rfl rfl (by kernel_rfl) (by decide) (fun Kk hK => ?_)
    refine value_ (w1 := w3.alloc (.cells #[.string E1, .int .i64 r2, .int .i64 r3, .int .i64 r4, .int .i64 r5, .slice Ad r7.length cd] 57)) (v := .slice (some ⟨w3.heap.size, 0, none⟩) 1 1) (by rfl) rfl (by first | (go_simp; done) | (go_simp; rfl)) ?_
    refine hK.out _ _ ⟨(blk_cell (blk_alloc HX3.out _) 2).trans rfl, (blk_cell (blk_alloc HP3.out _) 1).trans rfl, (blk_cell (blk_alloc HP3.out _) 2).trans rfl, (blk_cell (blk_alloc HP3.out _) 3).trans rfl, (blk_cell (blk_alloc HP3.out _) 4).trans rfl, (blk_cell (blk_alloc HP3.out _) 6).trans rfl⟩ (fun hHeld => ?_)
    clear hK Kk
    refine norm_ (a' := ?_) ?_ ?_
    rotate_left
    · show Act.put _ (some 108) _ = _
      simp only [Act.put, List.setIfInBounds_toArray, List.set_cons_zero, List.set_cons_succ, i64_w, i32_w]
      rfl
    refine one_ (i := 23) (N := some 109) #[true, true, true, true, true, true, true, true, true, true, true, true, true, true, true, true, true, true, true, true, true, true, true, true, false, false, false, false] rfl rfl (by kernel_rfl) (by decide) (fun Kk hK => ?_)
    refine Kd.S_append_step K.k57 (w0 := w3) B (by rfl) (.tmp 91) (.tmp 108) 45 57 (.agg #[(.string ⟨#[]⟩), (.int .i64 0), (.int .i64 0), (.int .i64 0), (.int .i64 0), (.slice none 0 0)]) 72 rfl Tryd.underlying45 K.info57 rfl (by decide) (by omega) (.slice B2 st.ms.length d2) st.ms (⟨E1, r2, r3, r4, r5, r7⟩ : K.S57) [.string E1, .int .i64 r2, .int .i64 r3, .int .i64 r4, .int .i64 r5, .slice Ad r7.length cd] (fun k => True ∧ some k ≠ (Value.slice B1 st.map.length d1).ownBlock) (fun k => some k = (Value.slice Ad r7.length cd).ownBlock) rfl rfl ?aP ?aOk ?aF ?aO ?aB ?aS ?aL ?_
    case aP => exact K.k57_mkM _ _ _ (⟨E1, r2, r3, r4, r5, r7⟩ : K.S57) (Kd.R_tight rfl HD3.out)
    case aOk => exact fun k hk => ⟨⟨trivial, fun e => HR1.out.1 k e.symm hk⟩, fun e => by
      obtain ⟨a_, ha⟩ := Kd.R_typed HD3.out k hk.symm
      obtain ⟨b_, hb⟩ := Kd.S_typed HR2.out k e.symm
      rw [ha] at hb
      cases hb⟩
    case aF => exact fun k hk => ⟨trivial, fun e => by have := Kd.R_lt HR1.out k e.symm; omega⟩
    case aO => exact Kd.S_mono HR2.out (fun k hk => ⟨⟨trivial, hk.2⟩, hk.1⟩)
    case aB => exact Below.refl _ _
    case aS => exact HBS.out
    case aL => have := HLEN.out; omega
    intro v2' w4 hs' hb' hg hat
    obtain ⟨B2', d2', ev⟩ := Kd.S_slice hs'
    subst ev
    have HX4 := Lib.hid (blk_grown HX3.out hg (Kd.S_ne HR2.out HX3.out (by decide)))
    have HP4 := Lib.hid (blk_grown HP3.out hg (Kd.S_ne HR2.out HP3.out (by decide)))
    have HS4 := Lib.hid hs'
    have HK4 := Lib.hid (HK3.out.grow hg (fun k hk => Kd.S_base HR2.out k hk) (fun k hk => by obtain ⟨cells, hc⟩ := Kd.S_typed HR2.out k hk; exact ⟨cells, _, .inl rfl, hc⟩))
    have HR14 := Lib.hid (Kd.R_over' HR1.out (Kd.S_typed HR2.out) (by decide) hg)
    have HR34 := Lib.hid (Kd.R_over' HR3.out (Kd.S_typed HR2.out) (by decide) hg)
    have HR44 := Lib.hid (Kd.R_over' HR4.out (Kd.S_typed HR2.out) (by decide) hg)
    have HBS4 := Lib.hid (Nat.le_trans HBS.out hg.size)
    clear hs' hb' hg hat
    refine hK.out _ _ ⟨(blk_cell (HX4.out) 2).trans rfl, (blk_cell (HP4.out) 1).trans rfl, (blk_cell (HP4.out) 2).trans rfl, (blk_cell (HP4.out) 3).trans rfl, (blk_cell (HP4.out) 4).trans rfl, (blk_cell (HP4.out) 6).trans rfl⟩ (fun hHeld => ?_)
    clear hK Kk
    refine norm_ (a' := ?_) ?_ ?_
    rotate_left
    · show Act.put _ (some 109) _ = _
      simp only [Act.put, List.setIfInBounds_toArray, List.set_cons_zero, List.set_cons_succ, i64_w, i32_w]
      rfl
    refine pure_ (i := 24) (N := some 110) (v := ?_) (a' := ?_) #[true, true, true, true, true, true, true, true, true, true, true, true, true, true, true, true, true, true, true, true, true, true, true, true, true, false, false, false] rfl rfl (by kernel_rfl) (fun _ _ _ h => h) (Or.inl ⟨by rfl, ?_⟩) ?_ ?_
    rotate_left
    · intro w'
      go_simp
      with_reducible rfl
    rotate_left
    · simp only [Act.put, List.setIfInBounds_toArray, List.set_cons_zero, List.set_cons_succ, i64_w, i32_w]
      rfl
    refine pure_ (i := 25) (N := some 111) (v := ?_) (a' := ?_) #[true, true, true, true, true, true, true, true, true, true, true, true, true, true, true, true, true, true, true, true, true, true, true, true, true, true, false, false] rfl rfl (by kernel_rfl) (fun _ _ _ h => h) (Or.inl ⟨by rfl, ?_⟩) ?_ ?_
    rotate_left
    · intro w'
      go_simp
      with_reducible rfl
    rotate_left
    · simp only [Act.put, List.setIfInBounds_toArray, List.set_cons_zero, List.set_cons_succ, i64_w, i32_w]
      rfl
    refine pure_ (i := 26) (N := some 112) (v := ?_) (a' := ?_) #[true, true, true, true, true, true, true, true, true, true, true, true, true, true, true, true, true, true, true, true, true, true, true, true, true, true, true, false] rfl rfl (by kernel_rfl) (fun _ _ _ h => h) (Or.inl ⟨by rfl, ?_⟩) ?_ ?_
    rotate_left
    · intro w'
      go_simp
      with_reducible rfl
    rotate_left
    · simp only [Act.put, List.setIfInBounds_toArray, List.set_cons_zero, List.set_cons_succ, i64_w, i32_w]
      rfl
    refine last_ (i := 27) (N := none) #[true, true, true, true, true, true, true, true, true, true, true, true, true, true, true, true, true, true, true, true, true, true, true, true, true, true, true, true] rfl rfl (by kernel_rfl) (by decide) (fun Kk hK => ?_)
    have hs2 : w4.cell? ⟨X, 2, none⟩ = some (.slice B2 st.ms.length d2) := (blk_cell HX4.out 2).trans rfl
    have hf2 := blk_frozen HX4.out 2
    refine skip_ (w1 := w4.setCell ⟨X, 2, none⟩ (.slice B2' (st.ms ++ [(⟨E1, r2, r3, r4, r5, r7⟩ : K.S57)]).length d2')) (by rfl) rfl (by first | (go_simp; done) | (go_simp; rfl)) ?_
    refine hK.out _ _ ?_
    clear hK Kk hs2 hf2
    refine done_ (by kernel_rfl) ?_
    have hs := blk_set HX4.out 2 (.slice B2' (st.ms ++ [(⟨E1, r2, r3, r4, r5, r7⟩ : K.S57)]).length d2')
    have HX5 := Lib.hid hs
    have HS5 := Lib.hid (Kd.S_set HS4.out HX4.out types_k57 2 (.slice B2' (st.ms ++ [(⟨E1, r2, r3, r4, r5, r7⟩ : K.S57)]).length d2'))
    have HR15 := Lib.hid (R_setX HR14.out HX4.out types_u8 2 (.slice B2' (st.ms ++ [(⟨E1, r2, r3, r4, r5, r7⟩ : K.S57)]).length d2'))
    have HR35 := Lib.hid (R_setX HR34.out HX4.out types_i64 2 (.slice B2' (st.ms ++ [(⟨E1, r2, r3, r4, r5, r7⟩ : K.S57)]).length d2'))
    have HR45 := Lib.hid (R_setX HR44.out HX4.out types_u8 2 (.slice B2' (st.ms ++ [(⟨E1, r2, r3, r4, r5, r7⟩ : K.S57)]).length d2'))
    have HK5 := Lib.hid (HK4.out.set_ 2 (.slice B2' (st.ms ++ [(⟨E1, r2, r3, r4, r5, r7⟩ : K.S57)]).length d2'))
    have HBS5 : Hid (B ≤ (w4.setCell ⟨X, 2, none⟩ (.slice B2' (st.ms ++ [(⟨E1, r2, r3, r4, r5, r7⟩ : K.S57)]).length d2')).heap.size) := Lib.hid (by rw [World.size_setCell]; exact HBS4.out)
    clear hs hHeld HX4 HS4 HR14 HR34 HR44 HK4 HBS4 HP4
    generalize w4.setCell ⟨X, 2, none⟩ (.slice B2' (st.ms ++ [(⟨E1, r2, r3, r4, r5, r7⟩ : K.S57)]).length d2') = w5 at *
    have h3 : w5.cell? ⟨X, 3, none⟩ = some (.slice B3 st.os.length d3) := (blk_cell HX5.out 3).trans rfl
    go_wp2_with ((with_reducible refine gate_builtin (b := .append) (xs := #[.tmp 118, .tmp 120]) rfl ?_); at_builtin; refine Kd.R_append (Kd.int .i64) (w0 := w5) B rfl (.tmp 118) (.tmp 120) 46 3 (.int .i64 0) 8 rfl Tryd.underlying46 K.info3 rfl (by decide) (by omega) (.slice B3 st.os.length d3) st.os at_ [.int .i64 at_] (fun _ => True) (fun _ => False) rfl (by first | (go_simp; done) | (go_simp; rfl)) ?aP (fun _ hk => hk.elim) ?aF ?aO ?aB ?aS ?aL ?_; (case aP => exact rfl); (case aB => exact Below.refl _ _); (case aF => exact (fun _ _ => trivial)); (case aO => exact HR35.out); (case aS => exact HBS5.out); (case aL => have := HLEN.out; omega); intro v3' w6 ho hb hg hat; obtain ⟨B3', d3', ev⟩ := Kd.R_slice ho; subst ev; have HX6 := Lib.hid (blk_grown HX5.out hg (Kd.R_ne HR35.out HX5.out (by decide))); have HS6 := Lib.hid (Kd.S_over' HS5.out (Kd.R_typed HR35.out) (by decide) hg); have HR16 := Lib.hid (Kd.R_over' HR15.out (Kd.R_typed HR35.out) (by decide) hg); have HR46 := Lib.hid (Kd.R_over' HR45.out (Kd.R_typed HR35.out) (by decide) hg); have HK6 := Lib.hid (HK5.out.grow hg (fun k hk => Kd.R_base HR35.out k hk) (fun k hk => by obtain ⟨cells, hc⟩ := Kd.R_typed HR35.out k hk; exact ⟨cells, _, .inr rfl, hc⟩)); have HO6 := Lib.hid ho; have h3' : w6.cell? ⟨X, 3, none⟩ = some (.slice B3 st.os.length d3) := (blk_cell HX6.out 3).trans rfl; have f3' := blk_frozen HX6.out 3; clear h3 ho hb hg hat)
    go_ret
    refine ⟨rfl, ⟨B1, B2', B3', B4, d1, d2', d3', d4, by have h_ := blk_set HX6.out 3 (.slice B3' (st.os.length + 1) d3'); simp only [List.length_append, List.length_cons, List.length_nil, Nat.zero_add] at h_ ⊢; exact h_, ?_, ?_, ?_, ?_⟩, HK6.out.set_ 3 _⟩
    · exact R_setX (Kd.R_mono HR16.out (fun _ _ => trivial)) HX6.out types_u8 3 _
    · exact Kd.S_set HS6.out HX6.out types_k57 3 _
    · exact R_setX HO6.out HX6.out types_i64 3 _
    · exact R_setX HR46.out HX6.out types_u8 3 _
end Go.Proofs.YtjiokdkgbnakhaaDoor.Own
end TAddM
section TAddA
set_option linter.unusedVariables false
set_option linter.unusedSimpArgs false
namespace Go.Proofs.YtjiokdkgbnakhaaDoor.Own
open Go.RowKit Go.Proofs.YtjiokdkgbnakhaaDoor Go.Proofs.YtjiokdkgbnakhaaDoorW.PrintWords Go.Proofs.YtjiokdkgbnakhaaDoorW.PrintLast Go.Proofs.YtjiokdkgbnakhaaDoorW.PrintMore
def AddSays (B X : Nat) (W : World) (st : PSt) (at_ : Nat) (r : PartR) (e : Ending) (W' : World) : Prop :=
  e = .returned (.int .i64 (addV st at_ r).2) ∧ ((addV st at_ r).2 = 0 → PInv B X (fun _ => True) W' (addV st at_ r).1) ∧ KeepP B X W W'
theorem add_in (B X : Nat) (W : World) (st : PSt) (at_ : Nat) (r : PartR) (Ad : Option Addr) (cd : Nat) (hP : PInv B X (fun k => some k ≠ (Value.slice Ad r.data.length cd).ownBlock) W st)
    (hv : (Kd.int .u8).R 5 W B (fun _ => True) (.slice Ad r.data.length cd) r.data) (hBW : B ≤ W.heap.size) (hlen : st.ms.length < 1954687338268 ∧ st.os.length < 17592186044416)
    (hG : Gmaxlen W) (hbn : Byt st.names) (hln : st.names.length < 4294967281) (hbd : Byt r.data) (hld : r.data.length < 4294967281) (hsz : r.1.size ≤ 9223372036854775807) :
    Calls Tryd.prog 47 #[.pointer (some ⟨X, 0, none⟩), .int .i64 (at_ : Int), argP r (.slice Ad r.data.length cd)] W (AddSays B X W st at_ r) := by
  obtain ⟨_, hcd, hCd⟩ := Kd.R_reads' hv
  cases hm : isMap r.1 with
  | true =>
    by_cases hb : st.first = false ∨ st.hm = true
    · have e : addV st at_ r = (st, 8) := by unfold addV; rw [if_pos hm, if_pos hb]
      refine (add_map_bad B X _ W st at_ r Ad cd hP hm hb).mono ?_
      rintro e' W' ⟨rfl, hbl⟩
      unfold AddSays
      rw [e]
      exact ⟨rfl, fun h => absurd (show (_ : Int) = 0 from h) (by show ¬ (_ : Int) = 0; simp), KeepP.of_below hbl⟩
    · have e : addV st at_ r = ({ st with hm := true, map := r.data }, 0) := by unfold addV; rw [if_pos hm, if_neg hb]
      have hf : st.first = true := by cases h : st.first with | true => rfl | false => exact absurd (.inl h) hb
      have hh : st.hm = false := by cases h : st.hm with | false => rfl | true => exact absurd (.inr h) hb
      refine (add_map_good B X _ W st at_ r Ad cd hP hm hf hh).mono ?_
      rintro e' W' ⟨rfl, rfl⟩
      unfold AddSays
      rw [e]
      have h1 := hP.map hv
      exact ⟨rfl, fun _ => h1.go (below_drew (below_alloc (Below.refl _ _) _)), (((KeepP.refl B X W).set_ 0 _).set_ 1 _).trans (KeepP.of_below (below_drew (below_alloc (Below.refl _ _) _)))⟩
  | false =>
    cases ht : isTable r.1 with
    | true =>
      refine (add_table B X _ W st at_ r Ad cd hP hm ht hCd hcd hG hbd hld).mono ?_
      rintro e' W' (⟨hb, rfl, hbl⟩ | ⟨hg, rfl, w2, hbl, rfl⟩)
      · have e : addV st at_ r = (st, 7) := by unfold addV; rw [hm, if_neg (by simp), if_pos ht, if_pos hb]
        unfold AddSays
        rw [e]
        exact ⟨rfl, fun h => absurd (show (_ : Int) = 0 from h) (by show ¬ (_ : Int) = 0; simp), KeepP.of_below hbl⟩
      · have e : addV st at_ r = ({ st with names := r.data, ht := true }, 0) := by
          unfold addV
          rw [hm, if_neg (by simp), if_pos ht, if_neg (by rintro (h | h); exact h hg.1; rw [hg.2] at h; cases h)]
        unfold AddSays
        rw [e]
        have h1 := (hP.go hbl).table (Kd.R_below hv hbl)
        exact ⟨rfl, fun _ => h1.go (below_drew (Below.refl _ _)), (((KeepP.of_below hbl).set_ 5 _).set_ 4 _).trans (KeepP.of_below (below_drew (Below.refl _ _)))⟩
    | false =>
      by_cases hz : (resolveV r.1 st.names).2 = 0
      · have e : addV st at_ r = ({ st with ms := st.ms ++ [memberV (resolveV r.1 st.names).1 r], os := st.os ++ [(at_ : Int)] }, 0) := by
          unfold addV
          rw [hm, if_neg (by simp), ht, if_neg (by simp), if_neg (fun h => h hz)]
        refine (add_member_good B X (fun _ => True) W st at_ r Ad cd hP hm ht hG hbn hln hsz hz hv hBW hlen).mono ?_
        rintro e' W' ⟨rfl, h1, h2⟩
        unfold AddSays
        rw [e]
        exact ⟨rfl, fun _ => h1, h2⟩
      · have e : addV st at_ r = (st, (resolveV r.1 st.names).2) := by
          unfold addV
          rw [hm, if_neg (by simp), ht, if_neg (by simp), if_pos hz]
        refine (add_member_bad B X _ W st at_ r Ad cd hP hm ht hG hbn hln hsz hz).mono ?_
        rintro e' W' ⟨rfl, hbl⟩
        unfold AddSays
        rw [e]
        exact ⟨rfl, fun h => absurd h hz, KeepP.of_below hbl⟩
end Go.Proofs.YtjiokdkgbnakhaaDoor.Own
end TAddA
section TRange
set_option linter.unusedVariables false
set_option linter.unusedSimpArgs false
namespace Go.Proofs.YtjiokdkgbnakhaaDoor.Own
open Go.RowKit Go.Proofs.YtjiokdkgbnakhaaDoor Go.Proofs.YtjiokdkgbnakhaaDoorW.PrintWords Go.Proofs.YtjiokdkgbnakhaaDoorW.PrintLast Go.Proofs.YtjiokdkgbnakhaaDoorW.PrintMore
def SeqYields {α : Type} (F : Fence) (n : Nat) (P : Program) (g : Nat) (lb : Array Value) (encs : α → Array Value) (Kp : World → World → Prop) (Fr : World → α → World → Prop) (Pf S Sp : List α → Prop) (w : World) : Prop :=
  ∀ (l : Nat) (J Jx : List α → World → Prop) (W : World), Below w.heap.size w W →
    (∀ pre x W0 W1, J pre W0 → Below W0.heap.size W0 W1 → Fr W0 x W1 → Pf (pre ++ [x]) → YieldAt F (n - 1) P l (encs x) W1 fun e W' =>
      (e = .returned (.bool true) ∧ J (pre ++ [x]) W' ∧ Kp W1 W') ∨ (e = .returned (.bool false) ∧ Jx (pre ++ [x]) W')) →
    J [] W →
    CallsIn F n P g (#[.func (.yield l) #[] #[]] ++ lb) W fun e W' => (∃ v, e = .returned v) ∧ ((∃ xs, S xs ∧ J xs W') ∨ (∃ pre, Sp pre ∧ Jx pre W'))
variable {F : Fence} {n : Nat} {P : Program}
theorem wpIn_rangeFunc_yields {α : Type} {g : Operand} {ps : Array Tmp} {assign body : Code} {Q : Exit → Act → World → Prop} {a : Act} {w : World}
    (hro : F.round = none) (h1 : 1 ≤ n) {gf : Nat} {lb : Array Value} (hg : a.eval g = .func (.func gf) #[] lb) (hFg : F.fn gf) (eg : ∀ args w, (callFunc gf args).run P w = .ok (.enter gf args) w)
    {encs : α → Array Value} {Kp : World → World → Prop} {Fr : World → α → World → Prop} {Pf S Sp : List α → Prop} {w0 : World} (hseq : SeqYields F (n - 1) P gf lb encs Kp Fr Pf S Sp w0)
    (hKt : ∀ {A B C : World}, Kp A B → Kp B C → Kp A C) (hKb : ∀ (W : World) (l : Nat) (o o' : Obj), w.heap.size ≤ l → W.heap[l]? = some o → o.isCells = false → o.isWalk = false → Kp W (W.putObj l o')) (hb0 : Below w0.heap.size w0 w) (hps : ∀ x, (encs x).size = ps.size)
    (I : List α → World → Prop) (Ix : Code → List α → World → Prop) (Y : List α → α → World → Prop) (hI : OwnFrom w.heap.size I) (hIx : ∀ c, OwnFrom w.heap.size (Ix c)) (hYo : ∀ pre x, OwnFrom w.heap.size (fun (_ : Unit) W => Y pre x W)) (h0 : I [] w)
    (hY : ∀ pre x W0 W1, I pre W0 → Below W0.heap.size W0 W1 → Fr W0 x W1 → Pf (pre ++ [x]) → Y pre x W1)
    (Ax : α → Act → World → Prop) (hAx : ∀ x a', OwnFrom w.heap.size (fun (_ : Unit) W => Ax x a' W))
    (hassign : ∀ (l : Nat) (pre : List α) (x : α) (W : World) (K : Act → World → Prop), Y pre x W → (∀ a' W', KeepsFrom w.heap.size W W' → Kp W W' → Y pre x W' → Ax x a' W' → K a' W') →
      assign.wpIn (F.inRound l) (n - 1 - 1) P (Exit.then K (fun _ _ _ => False)) { tmps := (ps.zip (encs x)).foldl (fun t (p, v) => t.setIfInBounds p v) a.tmps, defers := [] } W)
    (hbody : ∀ (l : Nat) (pre : List α) (x : α) (a' : Act) (W : World), Y pre x W → Ax x a' W → body.wpIn (F.inRound l) (n - 1 - 1) P (ownPostG w.heap.size Kp I Ix (pre ++ [x]) W) a' W)
    (hdone : ∀ (D : Nat) (xs : List α) (W : World), w.heap.size ≤ D → S xs → I xs W → W.heap[D]? = some (.deferred (some [])) → Q .normal { a with defers := { target := .collected D, args := #[] } :: a.defers } W)
    (hstop : ∀ (D : Nat) (c : Code) (pre : List α) (W : World), w.heap.size ≤ D → Sp pre → Ix c pre W → W.heap[D]? = some (.deferred (some [])) → c.wpIn F n P Q { a with defers := { target := .collected D, args := #[] } :: a.defers } W) :
    (Code.rangeFunc g ps assign body).wpIn F n P Q a w := by
  refine wpIn_rangeFunc ?_
  intro fn hfn
  rw [hro]
  obtain ⟨rec, hrec⟩ : ∃ rec : LoopState → Option Code → Loop, rec = fun st pe => { state := st, pending := pe, fn, tmps := a.tmps, params := ps, assign, body, defers := w.heap.size } := ⟨_, rfl⟩
  obtain ⟨V, hV⟩ : ∃ V, (w.alloc (.deferred (some []))).alloc (.loop (rec .ready none)) = V := ⟨_, rfl⟩
  have hLV : V.heap[w.heap.size + 1]? = some (.loop (rec .ready none)) := by
    rw [← hV]
    have h := World.alloc_heap_new (w.alloc (.deferred (some []))) (.loop (rec .ready none))
    rwa [World.size_alloc] at h
  have hDV : V.heap[w.heap.size]? = some (.deferred (some [])) := by
    rw [← hV]
    exact (Below.heap_alloc _ _ _ (by simp)).trans (World.alloc_heap_new w _)
  have hIV : I [] V := by rw [← hV]; exact hI.alloc _ (hI.alloc _ h0)
  have hbV : Below w0.heap.size w0 V := by
    rw [← hV]
    exact hb0.trans ((((Below.refl _ w).alloc (Nat.le_refl _) _).alloc (by simp) _).mono hb0.size)
  refine ⟨w.heap.size + 1, [{ target := .collected w.heap.size, args := #[] }], V, { target := .fn (.func gf) lb, args := #[.func (.yield (w.heap.size + 1)) #[] #[]] }, V, gf,
    #[.func (.yield (w.heap.size + 1)) #[] #[]] ++ lb, V, ?_, ?_, ?_, ?_, fun _ => h1, ?_⟩
  · rw [← hV, hrec]
    exact run_enterLoop_outer _ _ _ _ _
  · simp only [resolve, hg]
    simp [go_sem]
  · intro f' hf'
    simp [Target.leads] at hf'
    subst hf'
    exact hFg
  · simp [invoke, go_sem, eg]
  · refine (hseq (w.heap.size + 1)
      (fun pre W => I pre W ∧ W.heap[w.heap.size + 1]? = some (.loop (rec .ready none)) ∧ W.heap[w.heap.size]? = some (.deferred (some [])))
      (fun pre W => ∃ c, Ix c pre W ∧ W.heap[w.heap.size + 1]? = some (.loop (rec .done (some c))) ∧ W.heap[w.heap.size]? = some (.deferred (some [])))
      V hbV ?_ ⟨hIV, hLV, hDV⟩).mono ?_
    · rintro pre x W0 W1 ⟨hi0, hl0, hk0⟩ hb01 hfr hpf
      have hy1 := hY pre x W0 W1 hi0 hb01 hfr hpf
      have hl1 := (hb01.block _ (Array.getElem?_eq_some_iff.1 hl0).1).trans hl0
      have hk1 := (hb01.block _ (Array.getElem?_eq_some_iff.1 hk0).1).trans hk0
      have hyld := run_yield (P := P) (args := encs x) hl1 (by rw [hrec]; exact hps x)
      rw [hrec] at hyld
      refine ⟨fn, _, assign, body, hyld, roundIn_of_wpIn hfn (hassign _ pre x W1 _ hy1 ?_)⟩
      clear hyld
      intro a' W2 hkf hkp hy2 hax
      have hl2 := hkf.same _ _ (by omega) hl1 rfl
      have hk2 := hkf.same _ _ (Nat.le_refl _) hk1 rfl
      have hlt2 : w.heap.size + 1 < W2.heap.size := (Array.getElem?_eq_some_iff.1 hl2).1
      refine ⟨_, run_beginRound hl2 (by rw [hrec]), ?_⟩
      have hl3 : (W2.putObj (w.heap.size + 1) (.loop { rec .ready none with state := .busy })).heap[w.heap.size + 1]? = some (.loop { rec .ready none with state := .busy }) := World.putObj_heap_same hlt2
      have hk3 : (W2.putObj (w.heap.size + 1) (.loop { rec .ready none with state := .busy })).heap[w.heap.size]? = some (.deferred (some [])) := (World.putObj_heap_other (by omega)).trans hk2
      have hp3 : Kp W2 (W2.putObj (w.heap.size + 1) (.loop { rec .ready none with state := .busy })) := hKb _ _ _ _ (by omega) hl2 rfl rfl
      have hy3 := (hYo pre x).putObj (s := ()) (.loop { rec .ready none with state := .busy }) hy2 (by omega : w.heap.size ≤ w.heap.size + 1) hl2 rfl
      have hax3 := (hAx x a').putObj (s := ()) (.loop { rec .ready none with state := .busy }) hax (by omega : w.heap.size ≤ w.heap.size + 1) hl2 rfl
      refine wpIn_mono (hbody _ pre x a' _ hy3 hax3) ?_
      have ends : ∀ (jump : Option Code) (W4 : World), KeepsFrom w.heap.size (W2.putObj (w.heap.size + 1) (.loop { rec .ready none with state := .busy })) W4 →
          (Instr.endRound (w.heap.size + 1) jump).run P W4 = .ok (.bool jump.isNone) (W4.putObj (w.heap.size + 1) (.loop (rec (if jump.isNone then .ready else .done) jump))) ∧
          W4.heap[w.heap.size + 1]? = some (.loop { rec .ready none with state := .busy }) ∧
          (W4.putObj (w.heap.size + 1) (.loop (rec (if jump.isNone then .ready else .done) jump))).heap[w.heap.size + 1]? = some (.loop (rec (if jump.isNone then .ready else .done) jump)) ∧
          (W4.putObj (w.heap.size + 1) (.loop (rec (if jump.isNone then .ready else .done) jump))).heap[w.heap.size]? = some (.deferred (some [])) := fun jump W4 hkf4 => by
        have hl4 := hkf4.same _ _ (by omega) hl3 rfl
        have hr := run_endRound (P := P) jump hl4
        rw [hrec] at hr ⊢
        exact ⟨hr, by rw [hrec] at hl4; exact hl4, World.putObj_heap_same (Array.getElem?_eq_some_iff.1 hl4).1, (World.putObj_heap_other (by omega)).trans (hkf4.same _ _ (Nat.le_refl _) hk3 rfl)⟩
      rintro e a4 W4 hp
      cases e with
      | normal =>
        obtain ⟨hkf4, hkp4, hi4⟩ := hp
        obtain ⟨hr, hl4, hl5, hk5⟩ := ends none W4 hkf4
        exact ⟨_, _, hr, .inl ⟨rfl, ⟨hI.putObj _ hi4 (by omega) hl4 rfl, hl5, hk5⟩, hKt hkp (hKt (hKt hp3 hkp4) (hKb _ _ _ _ (by omega) hl4 rfl rfl))⟩⟩
      | ret =>
        obtain ⟨hkf4, hi4⟩ := hp
        obtain ⟨hr, hl4, hl5, hk5⟩ := ends (some .ret) W4 hkf4
        exact ⟨_, _, hr, .inr ⟨rfl, .ret, (hIx _).putObj _ hi4 (by omega) hl4 rfl, hl5, hk5⟩⟩
      | exit id =>
        obtain ⟨hkf4, hi4⟩ := hp
        obtain ⟨hr, hl4, hl5, hk5⟩ := ends (some (.exit id)) W4 hkf4
        exact ⟨_, _, hr, .inr ⟨rfl, .exit id, (hIx _).putObj _ hi4 (by omega) hl4 rfl, hl5, hk5⟩⟩
      | goto t =>
        obtain ⟨hkf4, hi4⟩ := hp
        obtain ⟨hr, hl4, hl5, hk5⟩ := ends (some (.goto t)) W4 hkf4
        exact ⟨_, _, hr, .inr ⟨rfl, .goto t, (hIx _).putObj _ hi4 (by omega) hl4 rfl, hl5, hk5⟩⟩
      | panic ch => exact hp.elim
      | outgrown => exact hp.elim
    · rintro e W2 ⟨⟨v, rfl⟩, (⟨xs, hS, hi, hl, hk⟩ | ⟨pre, hSp, c, hi, hl, hk⟩)⟩
      · have hr := run_endLoop (P := P) hl (by rw [hrec]; simp)
        rw [hrec] at hr
        exact ⟨none, _, hr, hdone _ xs _ (Nat.le_refl _) hS (hI.putObj _ hi (by omega) hl rfl) ((World.putObj_heap_other (by omega)).trans hk)⟩
      · have hr := run_endLoop (P := P) hl (by rw [hrec]; simp)
        rw [hrec] at hr
        exact ⟨some c, _, hr, hstop _ c pre _ (Nat.le_refl _) hSp ((hIx c).putObj _ hi (by omega) hl rfl) ((World.putObj_heap_other (by omega)).trans hk)⟩
end Go.Proofs.YtjiokdkgbnakhaaDoor.Own
end TRange
section TParseP
set_option linter.unusedVariables false
set_option linter.unusedSimpArgs false
namespace Go.Proofs.YtjiokdkgbnakhaaDoor.Own
open Go.RowKit Go.Proofs.YtjiokdkgbnakhaaDoor Go.Proofs.YtjiokdkgbnakhaaDoorW.PrintWords Go.Proofs.YtjiokdkgbnakhaaDoorW.PrintLast Go.Proofs.YtjiokdkgbnakhaaDoorW.PrintMore
theorem strOf_eq {X Y : List Int} (hX : Byt X) (hY : Byt Y) : ((strOfNums X).toList == (strOfNums Y).toList) = decide (X = Y) := by
  by_cases e : X = Y
  · subst e; simp
  · rw [decide_eq_false e]
    refine beq_eq_false_iff_ne.2 fun hl => e ?_
    rw [← bytesOf_strOf hX, ← bytesOf_strOf hY]
    unfold bytesOf
    rw [ByteArray.toList_eq, ByteArray.toList_eq] at hl
    rw [hl]
theorem strOf_take (l : List Int) (n : Nat) : (strOfNums l).extract 0 n = strOfNums (l.take n) := by
  apply ByteArray.ext
  rw [ByteArray.data_extract]
  apply Array.toList_inj.1
  rw [Array.toList_extract]
  have h1 : ∀ X : List Int, (strOfNums X).data.toList = Lib.bytesOf X := fun X => by rw [← Lib.toList_data]; exact Lib.strOfNums_toList X
  rw [h1, h1]
  simp [Lib.bytesOf, List.map_take]
theorem is_f (l : List Int) (h : Byt l) : K.arparse_Is.f l = some (isV l) := by
  unfold K.arparse_Is.f K.strings_HasPrefix.f K.stringslite_HasPrefix.f isV
  have hs : ((⟨#[33, 60, 97, 114, 99, 104, 62, 10]⟩ : ByteArray).size : Int) = 8 := rfl
  rw [hs, strOfNums_size]
  by_cases h8 : 8 ≤ l.length
  · rw [if_pos (by omega), if_pos (by omega), if_pos (by omega)]
    simp only [Option.bind_some]
    have e8 : ((8 : Int) : Int).toNat = 8 := rfl
    rw [e8, strOf_take]
    have hm : ([33, 60, 97, 114, 99, 104, 62, 10] : List UInt8) = (strOfNums magicL).toList := by decide +kernel
    have hm2 : (⟨#[33, 60, 97, 114, 99, 104, 62, 10]⟩ : ByteArray).toList = (strOfNums magicL).toList := by decide +kernel
    rw [hm2, strOf_eq (h.take 8) (by unfold Byt magicL; decide)]
  · rw [if_neg (by omega)]
    simp only [Option.bind_some]
    rw [decide_eq_false]
    intro e
    have := congrArg List.length e
    rw [List.length_take] at this
    have h8' : magicL.length = 8 := rfl
    omega
theorem part_good {l : List Int} (hb : Byt l) : Byt (nextV l).data ∧ (nextV l).data.length ≤ l.length ∧ (nextV l).1.size ≤ 16 := by
  unfold nextV
  split
  · exact ⟨(fun x hx => absurd hx (by simp [PartR.data])), Nat.zero_le _, by show (0 : Nat) ≤ 16; omega⟩
  · rename_i h0
    split
    · exact ⟨(fun x hx => absurd hx (by simp [PartR.data])), Nat.zero_le _, by show (0 : Nat) ≤ 16; omega⟩
    · split
      · exact ⟨(fun x hx => absurd hx (by simp [PartR.data])), Nat.zero_le _, by show (0 : Nat) ≤ 16; omega⟩
      · have hg := decodeV_good (by simpa using h0)
        refine ⟨(hb.drop 60).take _, ?_, ?_⟩
        · simp only [PartR.data, List.length_take, List.length_drop]; omega
        · have := hg.fit
          unfold fitsV at this
          simp only [Bool.and_eq_true, decide_eq_true_eq] at this
          exact this.1.1.2
def GoodPart (l : List Int) (p : Nat × PartR) : Prop := Byt p.2.data ∧ p.2.data.length ≤ l.length ∧ p.2.1.size ≤ 16
theorem partsF_good (l : List Int) (hb : Byt l) : ∀ (k a : Nat), ∀ p ∈ partsF k l a, GoodPart l p
  | 0, _, p, h => by cases h
  | k + 1, a, p, h => by
    have hg := part_good (hb.drop a)
    rw [List.length_drop] at hg
    have hg' : GoodPart l (a, nextV (l.drop a)) := ⟨hg.1, by have := hg.2.1; show (nextV (l.drop a)).data.length ≤ _; omega, hg.2.2⟩
    by_cases h1 : a < l.length
    · by_cases h2 : (nextV (l.drop a)).why = 0
      · rw [partsF_more k l a h1 h2] at h
        rcases List.mem_cons.1 h with rfl | h
        · exact hg'
        · exact partsF_good l hb k _ p h
      · rw [partsF_last k l a h1 h2] at h
        obtain rfl := List.mem_singleton.1 h
        exact hg'
    · rw [partsF_end _ l a h1] at h; cases h
theorem partsF_len (l : List Int) : ∀ (k a : Nat), (partsF k l a).length ≤ l.length - a
  | 0, _ => Nat.zero_le _
  | k + 1, a => by
    by_cases h1 : a < l.length
    · by_cases h2 : (nextV (l.drop a)).why = 0
      · have h3 := (nextV_len h2).1
        have := partsF_len l k (a + (nextV (l.drop a)).len.toNat)
        rw [partsF_more k l a h1 h2, List.length_cons]
        omega
      · rw [partsF_last k l a h1 h2]; simp; omega
    · rw [partsF_end _ l a h1]; simp
theorem stOf_names {l : List Int} : ∀ (st : PSt) (ps : List (Nat × PartR)), (∀ p ∈ ps, GoodPart l p) → Byt st.names → st.names.length ≤ l.length → Byt (stOf st ps).names ∧ (stOf st ps).names.length ≤ l.length
  | _, [], _, h1, h2 => ⟨h1, h2⟩
  | st, (a, r) :: ps, h, h1, h2 => by
    have hr := h (a, r) List.mem_cons_self
    refine stOf_names (addV st a r).1 ps (fun p hp => h p (List.mem_cons_of_mem _ hp)) ?_ ?_
    · unfold addV
      repeat' split
      all_goals first | exact h1 | exact hr.1
    · unfold addV
      repeat' split
      all_goals first | exact h2 | exact hr.2.1
structure Behind (l : List Int) (ps : List (Nat × PartR)) : Prop where
  names : Byt (stOf PSt.zero ps).names
  short : (stOf PSt.zero ps).names.length ≤ l.length
  ms : (stOf PSt.zero ps).ms.length ≤ l.length
  os : (stOf PSt.zero ps).os.length ≤ l.length
theorem behind {l : List Int} (hb : Byt l) {ps : List (Nat × PartR)} (hp : ps <+: partsOf l) : Behind l ps := by
  have hg : ∀ p ∈ ps, GoodPart l p := fun p h => partsF_good l hb _ _ p (hp.subset h)
  have h1 := stOf_names (l := l) PSt.zero ps hg (by intro x hx; cases hx) (Nat.zero_le _)
  have h2 := stOf_len PSt.zero ps
  have h3 := hp.length_le
  have h4 := partsF_len l (l.length + 1) 8
  have h5 : (partsOf l).length = (partsF (l.length + 1) l 8).length := rfl
  have h6 : PSt.zero.ms.length = 0 := rfl
  have h7 : PSt.zero.os.length = 0 := rfl
  exact ⟨h1.1, h1.2, by omega, by omega⟩
theorem R_noncell {α : Type} {d : Kd α} {e base : Nat} {W W' : World} {ok : Nat → Prop} {v : Value} {xs : List α} (h : d.R e W base ok v xs) {row : Option Nat} (hg : W.grownBy W' row) (hr : ∀ r, row = some r → ∃ o : Obj, W.heap[r]? = some o ∧ o.isCells = false) : d.R e W' base ok v xs :=
  Kd.R_mono (Kd.R_move (Kd.R_bound h) fun k hk => hg.block k hk.2.2.1 fun e' => by
    obtain ⟨q, _, cells, hc⟩ := hk.2.2.2
    obtain ⟨o, ho, hn⟩ := hr k e'.symm
    rw [hc] at ho
    cases ho
    cases hn) fun _ hk => hk.1
theorem S_noncell {α : Type} {d : Kd α} {e base : Nat} {W W' : World} {ok : Nat → Prop} {v : Value} {xs : List α} (h : Kd.S d e W base ok v xs) {row : Option Nat} (hg : W.grownBy W' row) (hr : ∀ r, row = some r → ∃ o : Obj, W.heap[r]? = some o ∧ o.isCells = false) : Kd.S d e W' base ok v xs :=
  Kd.S_mono (Kd.S_move (Kd.S_bound h) fun k hk => hg.block k hk.2.2.1 fun e' => by
    obtain ⟨q, _, cells, hc⟩ := hk.2.2.2
    obtain ⟨o, ho, hn⟩ := hr k e'.symm
    rw [hc] at ho
    cases ho
    cases hn) fun _ hk => hk.1
theorem blk_noncell {W W' : World} {i t : Nat} {cs : Array Value} {fr : Nat × Nat} (h : W.heap[i]? = some (.cells cs t fr)) {row : Option Nat} (hg : W.grownBy W' row) (hr : ∀ r, row = some r → ∃ o : Obj, W.heap[r]? = some o ∧ o.isCells = false) : W'.heap[i]? = some (.cells cs t fr) :=
  (hg.block i (Array.getElem?_eq_some_iff.1 h).1 fun e' => by
    obtain ⟨o, ho, hn⟩ := hr i e'.symm
    rw [h] at ho
    cases ho
    cases hn).trans h
theorem PInv.noncell {B X : Nat} {ok : Nat → Prop} {W W' : World} {st : PSt} (h : PInv B X ok W st) {row : Option Nat} (hg : W.grownBy W' row) (hr : ∀ r, row = some r → ∃ o : Obj, W.heap[r]? = some o ∧ o.isCells = false) : PInv B X ok W' st := by
  obtain ⟨A1, A2, A3, A4, c1, c2, c3, c4, h0, h1, h2, h3, h4⟩ := h
  exact ⟨A1, A2, A3, A4, c1, c2, c3, c4, blk_noncell h0 hg hr, R_noncell h1 hg hr, S_noncell h2 hg hr, R_noncell h3 hg hr, R_noncell h4 hg hr⟩
end Go.Proofs.YtjiokdkgbnakhaaDoor.Own
end TParseP
section TParse
set_option linter.unusedVariables false
set_option linter.unusedSimpArgs false
namespace Go.Proofs.YtjiokdkgbnakhaaDoor.Own
open Go.RowKit Go.Shelf Go.Proofs.YtjiokdkgbnakhaaDoor Go.Proofs.YtjiokdkgbnakhaaDoorW.PrintWords Go.Proofs.YtjiokdkgbnakhaaDoorW.PrintLast Go.Proofs.YtjiokdkgbnakhaaDoorW.PrintMore
attribute [local go_sem] Oper.semAt_some
def ParseSays (w : World) (r : ArcR) (e : Ending) (w' : World) : Prop := ∃ v1_ v2_ v3_ : Value, e = .returned (.tuple #[.agg #[.bool r.1, v1_, v2_, v3_], .int .i64 r.2.2.2.2.1, .int .i64 r.2.2.2.2.2]) ∧ Kd.R (Kd.int .u8) 5 w' w.heap.size (fun _ => True) v1_ r.2.1 ∧ Kd.S K.k57 57 w' w.heap.size (fun k_ => some k_ ≠ (v1_ : Value).ownBlock) v2_ r.2.2.1 ∧ Kd.R (Kd.int .i64) 3 w' w.heap.size (fun _ => True) v3_ r.2.2.2.1 ∧ Below w.heap.size w w'
set_option maxRecDepth 100000 in
set_option maxHeartbeats 4000000 in
theorem parse_short (A : Option Addr) (c : Nat) (l : List Int) (w : World) (h : l.length < 8) :
    Calls Tryd.prog 25 #[.slice A l.length c] w (ParseSays w (badR 0 2)) := by
  have d1 : decide ((l.length : Int) < 8) = true := decide_eq_true (by omega)
  clear h
  go_enter Tryd.func25, Tryd.ntmps25
  go_wp2
  refine bodyPost_ret (v := .tuple #[.agg #[.bool false, .slice none 0 0, .slice none 0 0, .slice none 0 0], .int .i64 0, .int .i64 2]) ?_ rfl ⟨_, _, _, rfl, Kd.R_nil _ _ _ _ _, Kd.S_nil _ _ _ _ _, Kd.R_nil _ _ _ _ _, ?_⟩
  · simp [results, Tryd.f25, go_sem]
  · exact below_alloc (below_alloc (below_alloc (Below.refl _ _) _) _) _
def retW (Z : World) (R : Nat) (a z : Int) : World := (((((Z.setCell ⟨R, 0, none⟩ (.bool false)).setCell ⟨R, 1, none⟩ (.slice none 0 0)).setCell ⟨R, 2, none⟩ (.slice none 0 0)).setCell ⟨R, 3, none⟩ (.slice none 0 0)).setCell ⟨R + 1, 0, none⟩ (.int .i64 a)).setCell ⟨R + 2, 0, none⟩ (.int .i64 z)
structure Outs (Z : World) (R : Nat) (a z : Int) : Prop where
  b2 : Z.heap[R]? = some (.cells #[.bool false, .slice none 0 0, .slice none 0 0, .slice none 0 0] 48 (0, 0))
  b3 : Z.heap[R + 1]? = some (.cells #[.int .i64 a] 3 (0, 0))
  b4 : Z.heap[R + 2]? = some (.cells #[.int .i64 z] 25 (0, 0))
theorem Outs.go {Z Z' : World} {R : Nat} {a z : Int} (h : Outs Z R a z) (hb : Below Z.heap.size Z Z') : Outs Z' R a z :=
  ⟨(hb.block _ (blk_lt h.b2)).trans h.b2, (hb.block _ (blk_lt h.b3)).trans h.b3, (hb.block _ (blk_lt h.b4)).trans h.b4⟩
theorem Outs.noncell {Z Z' : World} {R : Nat} {a z : Int} (h : Outs Z R a z) {row : Option Nat} (hg : Z.grownBy Z' row) (hr : ∀ r, row = some r → ∃ o : Obj, Z.heap[r]? = some o ∧ o.isCells = false) : Outs Z' R a z :=
  ⟨blk_noncell h.b2 hg hr, blk_noncell h.b3 hg hr, blk_noncell h.b4 hg hr⟩
theorem Outs.ret {Z : World} {R : Nat} {a0 z0 : Int} (h : Outs Z R a0 z0) (a z : Int) : Outs (retW Z R a z) R a z := by
  unfold retW
  have n1 : R + 1 ≠ R := by omega
  have n2 : R + 2 ≠ R := by omega
  have n3 : R + 2 ≠ R + 1 := by omega
  refine ⟨?_, ?_, ?_⟩
  · exact blk_far (blk_far (blk_set (blk_set (blk_set (blk_set h.b2 0 _) 1 _) 2 _) 3 _) n1.symm _) n2.symm _
  · exact blk_far (blk_set (blk_far (blk_far (blk_far (blk_far h.b3 n1 _) n1 _) n1 _) n1 _) 0 _) n3.symm _
  · exact blk_set (blk_far (blk_far (blk_far (blk_far (blk_far h.b4 n2 _) n2 _) n2 _) n2 _) n3 _) 0 _
theorem retW_below {Z : World} {R B : Nat} (hB : B ≤ R) (a z : Int) : Below B Z (retW Z R a z) := by
  unfold retW
  exact ((((((Below.refl B Z).setCell (p := ⟨R, 0, none⟩) hB _).setCell (p := ⟨R, 1, none⟩) hB _).setCell (p := ⟨R, 2, none⟩) hB _).setCell (p := ⟨R, 3, none⟩) hB _).setCell (p := ⟨R + 1, 0, none⟩) (Nat.le_succ_of_le hB) _).setCell (p := ⟨R + 2, 0, none⟩) (by show B ≤ R + 2; omega) _
theorem retW_keeps (Z : World) (R B : Nat) (a z : Int) : KeepsFrom B Z (retW Z R a z) := by
  unfold retW
  exact ((((((KeepsOthers.setCell _ _ _).trans (KeepsOthers.setCell _ _ _)).trans (KeepsOthers.setCell _ _ _)).trans (KeepsOthers.setCell _ _ _)).trans (KeepsOthers.setCell _ _ _)).trans (KeepsOthers.setCell _ _ _)).from _
def okW (Z : World) (R : Nat) (hm : Bool) (v1 v2 v3 : Value) : World := (((((Z.setCell ⟨R, 0, none⟩ (.bool hm)).setCell ⟨R, 1, none⟩ v1).setCell ⟨R, 2, none⟩ v2).setCell ⟨R, 3, none⟩ v3).setCell ⟨R + 1, 0, none⟩ (.int .i64 0)).setCell ⟨R + 2, 0, none⟩ (.int .i64 0)
structure OutsOk (Z : World) (R : Nat) (hm : Bool) (v1 v2 v3 : Value) : Prop where
  b2 : Z.heap[R]? = some (.cells #[.bool hm, v1, v2, v3] 48 (0, 0))
  b3 : Z.heap[R + 1]? = some (.cells #[.int .i64 0] 3 (0, 0))
  b4 : Z.heap[R + 2]? = some (.cells #[.int .i64 0] 25 (0, 0))
theorem Outs.ok {Z : World} {R : Nat} {a0 z0 : Int} (h : Outs Z R a0 z0) (hm : Bool) (v1 v2 v3 : Value) : OutsOk (okW Z R hm v1 v2 v3) R hm v1 v2 v3 := by
  unfold okW
  have n1 : R + 1 ≠ R := by omega
  have n2 : R + 2 ≠ R := by omega
  have n3 : R + 2 ≠ R + 1 := by omega
  refine ⟨?_, ?_, ?_⟩
  · exact blk_far (blk_far (blk_set (blk_set (blk_set (blk_set h.b2 0 _) 1 _) 2 _) 3 _) n1.symm _) n2.symm _
  · exact blk_far (blk_set (blk_far (blk_far (blk_far (blk_far h.b3 n1 _) n1 _) n1 _) n1 _) 0 _) n3.symm _
  · exact blk_set (blk_far (blk_far (blk_far (blk_far (blk_far h.b4 n2 _) n2 _) n2 _) n2 _) n3 _) 0 _
theorem okW_below {Z : World} {R B : Nat} (hB : B ≤ R) (hm : Bool) (v1 v2 v3 : Value) : Below B Z (okW Z R hm v1 v2 v3) := by
  unfold okW
  exact ((((((Below.refl B Z).setCell (p := ⟨R, 0, none⟩) hB _).setCell (p := ⟨R, 1, none⟩) hB _).setCell (p := ⟨R, 2, none⟩) hB _).setCell (p := ⟨R, 3, none⟩) hB _).setCell (p := ⟨R + 1, 0, none⟩) (Nat.le_succ_of_le hB) _).setCell (p := ⟨R + 2, 0, none⟩) (by show B ≤ R + 2; omega) _
theorem R_low {α : Type} {d : Kd α} {e base : Nat} {W : World} {ok : Nat → Prop} {v : Value} {xs : List α} (h : d.R e W base ok v xs) {p : Addr} (hp : p.block < base) (u : Value) : d.R e (W.setCell p u) base ok v xs :=
  Kd.R_mono (Kd.R_far (Kd.R_bound h) (fun k hk => by have := hk.2.1; omega) u) (fun _ hk => hk.1)
theorem S_low {α : Type} {d : Kd α} {e base : Nat} {W : World} {ok : Nat → Prop} {v : Value} {xs : List α} (h : Kd.S d e W base ok v xs) {p : Addr} (hp : p.block < base) (u : Value) : Kd.S d e (W.setCell p u) base ok v xs :=
  Kd.S_mono (Kd.S_far (Kd.S_bound h) (fun k hk => by have := hk.2.1; omega) u) (fun _ hk => hk.1)
theorem R_okW {α : Type} {d : Kd α} {e base : Nat} {W : World} {ok : Nat → Prop} {v : Value} {xs : List α} (h : d.R e W base ok v xs) {R : Nat} (hp : R + 2 < base) (hm : Bool) (v1 v2 v3 : Value) : d.R e (okW W R hm v1 v2 v3) base ok v xs := by
  unfold okW
  exact R_low (R_low (R_low (R_low (R_low (R_low h (by show R < base; omega) _) (by show R < base; omega) _) (by show R < base; omega) _) (by show R < base; omega) _) (by show R + 1 < base; omega) _) hp _
theorem S_okW {α : Type} {d : Kd α} {e base : Nat} {W : World} {ok : Nat → Prop} {v : Value} {xs : List α} (h : Kd.S d e W base ok v xs) {R : Nat} (hp : R + 2 < base) (hm : Bool) (v1 v2 v3 : Value) : Kd.S d e (okW W R hm v1 v2 v3) base ok v xs := by
  unfold okW
  exact S_low (S_low (S_low (S_low (S_low (S_low h (by show R < base; omega) _) (by show R < base; omega) _) (by show R < base; omega) _) (by show R < base; omega) _) (by show R + 1 < base; omega) _) hp _
theorem okW_noncell {Z : World} {R D : Nat} {o : Obj} (h : Z.heap[D]? = some o) (ho : o.isCells = false) (hm : Bool) (v1 v2 v3 : Value) : (okW Z R hm v1 v2 v3).heap[D]? = some o := by
  unfold okW
  exact ((((((KeepsOthers.setCell _ _ _).trans (KeepsOthers.setCell _ _ _)).trans (KeepsOthers.setCell _ _ _)).trans (KeepsOthers.setCell _ _ _)).trans (KeepsOthers.setCell _ _ _)).trans (KeepsOthers.setCell _ _ _)).same D _ h ho
theorem Outs.cells {Z : World} {R : Nat} {a z : Int} (h : Outs Z R a z) : Z.cell? ⟨R, 0, none⟩ = some (.bool false) ∧ Z.cell? ⟨R, 1, none⟩ = some (.slice none 0 0) ∧ Z.cell? ⟨R, 2, none⟩ = some (.slice none 0 0) ∧ Z.cell? ⟨R, 3, none⟩ = some (.slice none 0 0) ∧ Z.cell? ⟨R + 1, 0, none⟩ = some (.int .i64 a) ∧ Z.cell? ⟨R + 2, 0, none⟩ = some (.int .i64 z) :=
  ⟨cell_of_row Z R 0 _ _ _ h.b2, cell_of_row Z R 1 _ _ _ h.b2, cell_of_row Z R 2 _ _ _ h.b2, cell_of_row Z R 3 _ _ _ h.b2, cell_of_row Z (R + 1) 0 _ _ _ h.b3, cell_of_row Z (R + 2) 0 _ _ _ h.b4⟩
theorem Outs.frozen {Z : World} {R : Nat} {a z : Int} (h : Outs Z R a z) : (Z.frozen? ⟨R, 0, none⟩ = false ∧ Z.frozen? ⟨R, 1, none⟩ = false ∧ Z.frozen? ⟨R, 2, none⟩ = false ∧ Z.frozen? ⟨R, 3, none⟩ = false) ∧ Z.frozen? ⟨R + 1, 0, none⟩ = false ∧ Z.frozen? ⟨R + 2, 0, none⟩ = false :=
  ⟨⟨blk_frozen h.b2 0, blk_frozen h.b2 1, blk_frozen h.b2 2, blk_frozen h.b2 3⟩, blk_frozen h.b3 0, blk_frozen h.b4 0⟩
theorem Outs.new (w : World) : Outs (((w.alloc (.cells #[.bool false, .slice none 0 0, .slice none 0 0, .slice none 0 0] 48)).alloc (.cells #[.int .i64 0] 3)).alloc (.cells #[.int .i64 0] 25)) w.heap.size 0 0 := by
  have h2 := World.alloc_heap_new w (.cells #[.bool false, .slice none 0 0, .slice none 0 0, .slice none 0 0] 48)
  have h3 := World.alloc_heap_new (w.alloc (.cells #[.bool false, .slice none 0 0, .slice none 0 0, .slice none 0 0] 48)) (.cells #[.int .i64 0] 3)
  have h4 := World.alloc_heap_new ((w.alloc (.cells #[.bool false, .slice none 0 0, .slice none 0 0, .slice none 0 0] 48)).alloc (.cells #[.int .i64 0] 3)) (.cells #[.int .i64 0] 25)
  rw [World.size_alloc] at h3
  rw [World.size_alloc, World.size_alloc] at h4
  exact ⟨blk_alloc (blk_alloc h2 _) _, blk_alloc h3 _, h4⟩
set_option maxRecDepth 100000 in
set_option maxHeartbeats 4000000 in
theorem parse_magic (A : Option Addr) (c : Nat) (l : List Int) (w : World) (hr : (Kd.int .u8).C w A l.length l) (hc : l.length ≤ c) (hby : Byt l) (h : ¬ l.length < 8) (hi : isV l = false) :
    Calls Tryd.prog 25 #[.slice A l.length c] w (ParseSays w (badR 0 1)) := by
  have d1 : decide ((l.length : Int) < 8) = false := decide_eq_false (by omega)
  have hisf := is_f l hby
  rw [hi] at hisf
  have hout := Outs.new w
  have hbel := below_alloc (below_alloc (below_alloc (Below.refl w.heap.size w) (.cells #[.bool false, .slice none 0 0, .slice none 0 0, .slice none 0 0] 48)) (.cells #[.int .i64 0] 3)) (.cells #[.int .i64 0] 25)
  obtain ⟨Z0, hZ⟩ : ∃ Z0, (((w.alloc (.cells #[.bool false, .slice none 0 0, .slice none 0 0, .slice none 0 0] 48)).alloc (.cells #[.int .i64 0] 3)).alloc (.cells #[.int .i64 0] 25)) = Z0 := ⟨_, rfl⟩
  rw [hZ] at hout hbel
  have his : Calls Tryd.prog 29 #[.slice A l.length c] (((w.alloc (.cells #[.bool false, .slice none 0 0, .slice none 0 0, .slice none 0 0] 48)).alloc (.cells #[.int .i64 0] 3)).alloc (.cells #[.int .i64 0] 25)) fun e w' => e = .returned (.bool false) ∧ (Outs w' w.heap.size 0 0 ∧ Below w.heap.size w w') := by
    rw [hZ]
    refine (K.arparse_Is.calls A c l false Z0 (Kd.C_below hr hbel) hc hisf).mono ?_
    rintro e w' ⟨rfl, hd⟩
    exact ⟨rfl, hout.go hd.below, below_step hbel hd.below⟩
  have HIS := Lib.hid his
  clear h hi hr hc hby hisf his hZ hout hbel
  go_enter Tryd.func25, Tryd.ntmps25
  go_wp2_with (go_at_call 29; refine HIS.out.mono ?_; rintro e Z ⟨rfl, hO, hB⟩; obtain ⟨s0, s1, s2, s3, s4, s5⟩ := hO.cells; obtain ⟨⟨f0, f1, f2, f3⟩, f4, f5⟩ := hO.frozen; have HO := Lib.hid hO; have HB := Lib.hid hB; clear hO hB)
  have HR := HO.out.ret 0 1
  have HRB := Lib.hid (below_then HB.out HB.out.size ((Below.refl _ _)) |>.trans (retW_below (Z := Z) (Nat.le_refl w.heap.size) 0 1))
  unfold retW at HR HRB
  obtain ⟨c0, c1, c2, c3, c4, c5⟩ := HR.cells
  clear s0 s1 s2 s3 s4 s5 f0 f1 f2 f3 f4 f5 HR
  generalize (((((Z.setCell ⟨w.heap.size, 0, none⟩ (.bool false)).setCell ⟨w.heap.size, 1, none⟩ (.slice none 0 0)).setCell ⟨w.heap.size, 2, none⟩ (.slice none 0 0)).setCell ⟨w.heap.size, 3, none⟩ (.slice none 0 0)).setCell ⟨w.heap.size + 1, 0, none⟩ (.int .i64 0)).setCell ⟨w.heap.size + 2, 0, none⟩ (.int .i64 1) = V at *
  refine bodyPost_ret (v := .tuple #[.agg #[.bool false, .slice none 0 0, .slice none 0 0, .slice none 0 0], .int .i64 0, .int .i64 1]) ?_ rfl ⟨_, _, _, rfl, Kd.R_nil _ _ _ _ _, Kd.S_nil _ _ _ _ _, Kd.R_nil _ _ _ _ _, HRB.out⟩
  simp [results, Tryd.f25, go_sem, c0, c1, c2, c3, c4, c5]
end Go.Proofs.YtjiokdkgbnakhaaDoor.Own
end TParse
section TParseL
set_option linter.unusedVariables false
set_option linter.unusedSimpArgs false
namespace Go.Proofs.YtjiokdkgbnakhaaDoor.Own
open Go.RowKit Go.Shelf Go.Proofs.YtjiokdkgbnakhaaDoor Go.Proofs.YtjiokdkgbnakhaaDoorW.PrintWords Go.Proofs.YtjiokdkgbnakhaaDoorW.PrintLast Go.Proofs.YtjiokdkgbnakhaaDoorW.PrintMore
attribute [local go_sem] Oper.semAt_some
structure PI (w : World) (X : Nat) (ok : Nat → Prop) (ps : List (Nat × PartR)) (W : World) : Prop where
  good : goodP PSt.zero ps = true
  inv : PInv (X + 2) X ok W (stOf PSt.zero ps)
  out : Outs W w.heap.size 0 0
  below : Below w.heap.size w W
  size : X + 2 ≤ W.heap.size
theorem PI.noncell {w : World} {X : Nat} {ok : Nat → Prop} {ps : List (Nat × PartR)} {W W' : World} (h : PI w X ok ps W) {row : Option Nat} (hg : W.grownBy W' row) (hB : ∀ r, row = some r → w.heap.size ≤ r) (hr : ∀ r, row = some r → ∃ o : Obj, W.heap[r]? = some o ∧ o.isCells = false) : PI w X ok ps W' :=
  ⟨h.good, h.inv.noncell hg hr, h.out.noncell hg hr, h.below.trans ((Below.refl _ W).grown hg h.below.size (fun k e => hB k e)), Nat.le_trans h.size hg.size⟩
theorem PI.go {w : World} {X : Nat} {ok : Nat → Prop} {ps : List (Nat × PartR)} {W W' : World} (h : PI w X ok ps W) (hb : Below W.heap.size W W') : PI w X ok ps W' :=
  ⟨h.good, h.inv.go hb, h.out.go hb, below_step h.below hb, Nat.le_trans h.size hb.size⟩
def PY (w : World) (X : Nat) (l : List Int) (pre : List PartY) (x : PartY) (W : World) : Prop :=
  PI w X (fun k => some k ≠ x.2.2.ownBlock) (pre.map bareP) W ∧ (Kd.int .u8).R 5 W (X + 2) (fun _ => True) x.2.2 x.2.1.data ∧ (pre ++ [x]).map bareP <+: partsOf l
def PX (w : World) (cd : Code) (pre : List PartY) (W : World) : Prop :=
  cd = .ret ∧ ∃ (a : Nat) (z : Int), (∀ qs, foldP PSt.zero (pre.map bareP ++ qs) = badR a z) ∧ Outs W w.heap.size (a : Int) z ∧ Below w.heap.size w W
def PA (w : World) (X : Nat) (A : Option Addr) (c : Nat) (l : List Int) (x : PartY) (a' : Act) (W : World) : Prop :=
  ∃ Pb, a' = { tmps := #[.slice A l.length c, undef, .pointer (some ⟨w.heap.size, 0, none⟩), .pointer (some ⟨w.heap.size + 1, 0, none⟩), .pointer (some ⟨w.heap.size + 1 + 1, 0, none⟩), .pointer (some ⟨X, 0, none⟩), .int .i64 (x.1 : Int), .pointer (some ⟨Pb, 0, none⟩), undef, .bool false,
      .slice A l.length c, .int .i64 (l.length : Int), .bool false, undef, .bool false, .slice A l.length c, .bool true, .bool false, undef, .slice A l.length c, .func (.func 64) #[] #[.pointer (some ⟨X + 1, 0, none⟩)], .int .i64 (x.1 : Int), argP x.2.1 x.2.2,
      undef, undef, undef, undef, undef, undef, undef, undef, undef, undef, undef, undef, undef, undef], defers := [] } ∧
    W.heap[Pb]? = some (.cells (cellsP x.2.1 x.2.2) 86 (0, 0))
theorem PI.own (w : World) (X B : Nat) (ok : Nat → Prop) {β : Type} (f : β → List (Nat × PartR)) (hB : w.heap.size ≤ B) : OwnFrom B (fun (s : β) W => PI w X ok (f s) W) :=
  fun s W W' row hs hg hr => hs.noncell hg (fun r e => Nat.le_trans hB (hr r e).1) (fun r e => (hr r e).2)
theorem PY.own (w : World) (X B : Nat) (l : List Int) (pre : List PartY) (x : PartY) (hB : w.heap.size ≤ B) : OwnFrom B (fun (_ : Unit) W => PY w X l pre x W) :=
  fun _ W W' row hs hg hr => ⟨hs.1.noncell hg (fun r e => Nat.le_trans hB (hr r e).1) (fun r e => (hr r e).2), R_noncell hs.2.1 hg (fun r e => (hr r e).2), hs.2.2⟩
theorem PX.own (w : World) (B : Nat) (cd : Code) (hB : w.heap.size ≤ B) : OwnFrom B (PX w cd) :=
  fun s W W' row hs hg hr => by
    obtain ⟨e, a, z, h1, h2, h3⟩ := hs
    exact ⟨e, a, z, h1, h2.noncell hg (fun r e => (hr r e).2), h3.trans ((Below.refl _ W).grown hg h3.size (fun k e => Nat.le_trans hB (hr k e).1))⟩
theorem PA.own (w : World) (X B : Nat) (A : Option Addr) (c : Nat) (l : List Int) (x : PartY) (a' : Act) : OwnFrom B (fun (_ : Unit) W => PA w X A c l x a' W) :=
  fun _ W W' row hs hg hr => by
    obtain ⟨Pb, e, h⟩ := hs
    exact ⟨Pb, e, blk_noncell h hg (fun r e => (hr r e).2)⟩
set_option maxRecDepth 100000 in
set_option maxHeartbeats 4000000 in
theorem parse_loop (A : Option Addr) (c : Nat) (l : List Int) (w : World) (hr : (Kd.int .u8).C w A l.length l) (hc : l.length ≤ c) (hby : Byt l) (h : ¬ l.length < 8) (hi : isV l = true) (hx4 : l.length < 4294967281) (hG : Gmaxlen w) :
    CallsIn Fence.wide 4 Tryd.prog 25 #[.slice A l.length c] w (ParseSays w (foldP PSt.zero (partsOf l))) := by
  have d1 : decide ((l.length : Int) < 8) = false := decide_eq_false (by omega)
  have hisf := is_f l hby
  rw [hi] at hisf
  have hout := Outs.new w
  have hbel := below_alloc (below_alloc (below_alloc (Below.refl w.heap.size w) (.cells #[.bool false, .slice none 0 0, .slice none 0 0, .slice none 0 0] 48)) (.cells #[.int .i64 0] 3)) (.cells #[.int .i64 0] 25)
  obtain ⟨Z0, hZ⟩ : ∃ Z0, (((w.alloc (.cells #[.bool false, .slice none 0 0, .slice none 0 0, .slice none 0 0] 48)).alloc (.cells #[.int .i64 0] 3)).alloc (.cells #[.int .i64 0] 25)) = Z0 := ⟨_, rfl⟩
  rw [hZ] at hout hbel
  have his : Calls Tryd.prog 29 #[.slice A l.length c] (((w.alloc (.cells #[.bool false, .slice none 0 0, .slice none 0 0, .slice none 0 0] 48)).alloc (.cells #[.int .i64 0] 3)).alloc (.cells #[.int .i64 0] 25)) fun e w' => e = .returned (.bool true) ∧ (Outs w' w.heap.size 0 0 ∧ Below w.heap.size w w') := by
    rw [hZ]
    refine (K.arparse_Is.calls A c l true Z0 (Kd.C_below hr hbel) hc hisf).mono ?_
    rintro e w' ⟨rfl, hd⟩
    exact ⟨rfl, hout.go hd.below, below_step hbel hd.below⟩
  have HIS := Lib.hid his
  have HR := Lib.hid hr
  have HBY := Lib.hid hby
  have HG := Lib.hid hG
  clear h hi hr hby hisf his hZ hout hbel hG
  refine callsIn_of_wp_marks Tryd.func25 rfl trivial ?_ rfl
  simp only [Tryd.ntmps25, List.size_toArray, List.length_cons, List.length_nil, Nat.reduceAdd, Nat.reduceSub, Array.replicate_succ, Array.replicate_zero, List.push_toArray, List.append_toArray, List.nil_append, List.cons_append]
  gi_wp2_with (first
    | (refine ⟨trivial, ?_⟩; gi_at_call 29; refine (callsIn_wide.2 HIS.out).mono ?_; rintro e Z ⟨rfl, hO, hB⟩; have HO := Lib.hid hO; have HB := Lib.hid hB; clear hO hB)
    | (refine ⟨trivial, ?_⟩; gi_at_call 46; refine (callsIn_wide.2 (parts_in _ _ _ _)).mono ?_; rintro e w' ⟨rfl, rfl⟩))
  obtain ⟨X, hX⟩ : ∃ X, Z.heap.size = X := ⟨_, rfl⟩
  obtain ⟨W0, hW0⟩ : ∃ W0, (Z.alloc (.cells #[.bool false, .slice none 0 0, .slice none 0 0, .slice none 0 0, .slice none 0 0, .bool false] 80)).alloc (.cells #[.slice A l.length c] 22) = W0 := ⟨_, rfl⟩
  have hs0 : W0.heap.size = X + 2 := by rw [← hW0]; simp; omega
  have hbZ : Below Z.heap.size Z W0 := by rw [← hW0]; exact below_alloc (below_alloc (Below.refl _ _) _) _
  have hXb : W0.heap[X]? = some (.cells #[.bool false, .slice none 0 0, .slice none 0 0, .slice none 0 0, .slice none 0 0, .bool false] 80 (0, 0)) := by
    rw [← hW0, ← hX]
    exact blk_alloc (World.alloc_heap_new _ _) _
  have hBs : W0.heap[X + 1]? = some (.cells #[.slice A l.length c] 22 (0, 0)) := by
    have := World.alloc_heap_new (Z.alloc (.cells #[.bool false, .slice none 0 0, .slice none 0 0, .slice none 0 0, .slice none 0 0, .bool false] 80)) (.cells #[.slice A l.length c] 22)
    rw [World.size_alloc, hX] at this
    rw [← hW0]; exact this
  have hRX : w.heap.size + 2 < X := by rw [← hX]; exact blk_lt HO.out.b4
  have hO0 := HO.out.go hbZ
  have hB0 := below_step HB.out hbZ
  rw [hW0, hX]
  clear hW0 hbZ HIS d1
  have HS0 := Lib.hid hs0
  clear hX
  refine wpIn_rangeFunc_yields rfl (by omega) (gf := 64) (lb := #[.pointer (some ⟨X + 1, 0, none⟩)]) rfl trivial (enters_of Tryd.func64 (by kernel_rfl) rfl)
    (encs := encP) (Kp := KpP w.heap.size) (Fr := fun Wa x Wb => (Kd.int .u8).R 5 Wb Wa.heap.size (fun _ => True) x.2.2 x.2.1.data) (Pf := fun ys => ys.map bareP <+: partsOf l) (S := fun ys => ys.map bareP = partsOf l) (Sp := fun ys => ys.map bareP <+: partsOf l) (w0 := W0)
    ?seq KpP_t (KpP_b (by omega)) (Below.refl _ _) (fun _ => rfl)
    (fun pre W => PI w X (fun _ => True) (pre.map bareP) W) (PX w) (PY w X l)
    (PI.own w X _ _ _ (by omega)) (fun cd => PX.own w _ cd (by omega)) (fun pre x => PY.own w X _ l pre x (by omega))
    ⟨rfl, PInv.zero hXb, hO0, hB0, by omega⟩ ?hY (PA w X A c l) (fun x a' => PA.own w X _ A c l x a') ?assign ?body ?done ?stop
  case seq =>
    intro lp J Jx W hbW hJ h0
    refine parts1_in lp (X + 1) w.heap.size A c l hc (by omega) HBY.out J Jx (fun pre x Wa Wb h1 h2 _ h4 h5 => hJ pre x Wa Wb h1 h2 h4 h5) W (by have := hB0.size; have := hbW.size; omega) ((hbW.block _ (by omega)).trans hBs) (fun W' hb => Kd.C_below HR.out (hB0.trans ((hbW.mono (by have := hB0.size; omega)).trans hb))) h0
  case hY =>
    intro pre x Wa Wb hi hb hfr hpf
    exact ⟨⟨hi.good, hi.inv.elder hb (fun k hk => Kd.R_base hfr k hk), hi.out.go hb, below_step hi.below hb, Nat.le_trans hi.size hb.size⟩, Kd.R_lower hfr hi.size, hpf⟩
  case assign =>
    rintro lp pre ⟨a, r, v⟩ W K hY hK
    obtain ⟨A7, c7, e7⟩ := Kd.R_slice hY.2.1
    obtain rfl : v = .slice A7 r.data.length c7 := e7
    have HYY := Lib.hid hY
    obtain ⟨r1, r2, r3, r4, r5, r6, r7, r8, r9⟩ := r
    simp only [encP, PartR.data] at HYY hK ⊢
    clear hY hs0 hXb hBs hO0 hB0
    gi_wp2
    refine hK _ _ (keepsFrom_below (below_alloc (Below.refl _ _) _)) (KpP_below HYY.out.1.below.size (below_alloc (Below.refl _ _) _)) ⟨HYY.out.1.go (below_alloc (Below.refl _ _) _), Kd.R_alloc HYY.out.2.1 _, HYY.out.2.2⟩ ⟨W.heap.size, rfl, World.alloc_heap_new _ _⟩
  case body =>
    rintro lp pre ⟨a, r, v⟩ a' W hY ⟨Pb, rfl, hPb⟩
    obtain ⟨A7, c7, e7⟩ := Kd.R_slice hY.2.1
    obtain rfl : v = .slice A7 r.data.length c7 := e7
    have hbh := behind HBY.out (hY.2.2.trans (List.prefix_refl _) |> fun h => (List.prefix_append (pre.map bareP) [(a, r)]).trans (by simpa [bareP] using h))
    have hgp := partsF_good l HBY.out _ _ (a, r) (hY.2.2.subset (by simp [bareP]))
    have hadd := add_in (X + 2) X W (stOf PSt.zero (pre.map bareP)) a r A7 c7 hY.1.inv hY.2.1 hY.1.size ⟨by have := hbh.ms; omega, by have := hbh.os; omega⟩ (HG.out.below hY.1.below) hbh.names (by have := hbh.short; omega) hgp.1 (by have := hgp.2.1; simp only at this; omega) (by have := hgp.2.2; simp only at this; omega)
    have HADD := Lib.hid hadd
    have HYY := Lib.hid hY
    have HPB := Lib.hid hPb
    have k7 : W.cell? ⟨Pb, 7, none⟩ = some (.int .i64 r.why) := (blk_cell hPb 7).trans rfl
    have k0 : W.cell? ⟨Pb, 0, none⟩ = some (.string r.1) := (blk_cell hPb 0).trans rfl
    have k1 : W.cell? ⟨Pb, 1, none⟩ = some (.int .i64 r.2.1) := (blk_cell hPb 1).trans rfl
    have k2 : W.cell? ⟨Pb, 2, none⟩ = some (.int .i64 r.2.2.1) := (blk_cell hPb 2).trans rfl
    have k3 : W.cell? ⟨Pb, 3, none⟩ = some (.int .i64 r.2.2.2.1) := (blk_cell hPb 3).trans rfl
    have k4 : W.cell? ⟨Pb, 4, none⟩ = some (.int .i64 r.2.2.2.2.1) := (blk_cell hPb 4).trans rfl
    have k5 : W.cell? ⟨Pb, 5, none⟩ = some (.int .i64 r.2.2.2.2.2.1) := (blk_cell hPb 5).trans rfl
    have k6 : W.cell? ⟨Pb, 6, none⟩ = some (.slice A7 r.data.length c7) := (blk_cell hPb 6).trans rfl
    obtain ⟨s0, s1, s2, s3, s4, s5⟩ := hY.1.out.cells
    obtain ⟨⟨f0, f1, f2, f3⟩, f4, f5⟩ := hY.1.out.frozen
    clear hbh hgp hadd hY hPb hs0 hXb hBs hO0 hB0
    by_cases hw : r.why = 0
    · obtain ⟨r1, r2, r3, r4, r5, r6, r7, r8, r9⟩ := r
      obtain rfl : r8 = 0 := hw
      simp only [PartR.why, PartR.data, argP, cellsP] at *
      by_cases hz : (addV (stOf PSt.zero (pre.map bareP)) a (r1, r2, r3, r4, r5, r6, r7, 0, r9)).2 = 0
      · have hadd : Calls Tryd.prog 47 #[.pointer (some ⟨X, 0, none⟩), .int .i64 (a : Int), .agg #[.string r1, .int .i64 r2, .int .i64 r3, .int .i64 r4, .int .i64 r5, .int .i64 r6, .slice A7 r7.length c7, .int .i64 0]] W (fun e W' => e = .returned (.int .i64 0) ∧ Hid (AddSays (X + 2) X W (stOf PSt.zero (pre.map bareP)) a (r1, r2, r3, r4, r5, r6, r7, 0, r9) (.returned (.int .i64 0)) W')) := by
          refine HADD.out.mono ?_
          rintro e W' hs
          have he := hs.1
          rw [hz] at he
          subst he
          exact ⟨rfl, Lib.hid hs⟩
        have HA := Lib.hid hadd
        have HZ := Lib.hid hz
        clear hadd HADD hz s0 s1 s2 s3 s4 s5 f0 f1 f2 f3 f4 f5
        gi_wp2_with (refine ⟨trivial, ?_⟩; gi_at_call 47; refine (CallsIn.inRound lp (callsIn_wide.2 HA.out)).mono ?_; rintro e W1 ⟨rfl, HS⟩)
        have hs := HS.out
        have hinv := hs.2.1 HZ.out
        have hk := hs.2.2
        obtain ⟨hYI, hYR, hYP⟩ := HYY.out
        obtain ⟨B1, B2, B3, B4, d1, d2, d3, d4, hXW, _⟩ := hYI.inv
        have hRX' : w.heap.size + 2 < X := hRX
        refine ⟨⟨hk.size, fun i o _ hi ho => hk.other hi ⟨_, _, _, hXW⟩ ho⟩, ⟨hk.below (by omega) (by omega) (by have := hYI.below.size; omega), fun i t cs ht e => hk.blk e ?_ (.inr ?_)⟩, ?_, ?_, ?_, ?_, ?_⟩
        · rintro rfl
          rw [e] at hXW
          cases hXW
          rcases ht with h | h <;> cases h
        · rcases ht with rfl | rfl <;> exact ⟨by decide, by decide⟩
        · rw [List.map_append]
          have := goodP_snoc PSt.zero (pre.map bareP) a (r1, r2, r3, r4, r5, r6, r7, 0, r9)
          show goodP PSt.zero (pre.map bareP ++ [(a, (r1, r2, r3, r4, r5, r6, r7, 0, r9))]) = true
          rw [this, hYI.good, HZ.out]
          rfl
        · rw [List.map_append]
          show PInv (X + 2) X (fun _ => True) W1 (stOf PSt.zero (pre.map bareP ++ [(a, (r1, r2, r3, r4, r5, r6, r7, 0, r9))]))
          rw [stOf_snoc]
          exact hinv
        · exact ⟨hk.blk hYI.out.b2 (by omega) (.inl (by omega)), hk.blk hYI.out.b3 (by omega) (.inl (by omega)), hk.blk hYI.out.b4 (by omega) (.inl (by omega))⟩
        · exact hYI.below.trans (hk.below (by omega) (by omega) (by have := hYI.below.size; omega))
        · exact Nat.le_trans hYI.size hk.size
      · obtain ⟨z, hzz⟩ : ∃ z, (addV (stOf PSt.zero (pre.map bareP)) a (r1, r2, r3, r4, r5, r6, r7, 0, r9)).2 = z := ⟨_, rfl⟩
        have hadd : Calls Tryd.prog 47 #[.pointer (some ⟨X, 0, none⟩), .int .i64 (a : Int), .agg #[.string r1, .int .i64 r2, .int .i64 r3, .int .i64 r4, .int .i64 r5, .int .i64 r6, .slice A7 r7.length c7, .int .i64 0]] W (fun e W' => e = .returned (.int .i64 z) ∧ Hid (KeepP (X + 2) X W W')) := by
          refine HADD.out.mono ?_
          rintro e W' hs
          have he := hs.1
          rw [hzz] at he
          exact ⟨he, Lib.hid hs.2.2⟩
        rw [hzz] at hz
        have hzb : (z == 0) = false := by simpa using hz
        have hzn : (z != 0) = true := by simpa using hz
        have HA := Lib.hid hadd
        have HZ := Lib.hid hzz
        have HZN := Lib.hid hz
        clear hadd HADD hz hzz s0 s1 s2 s3 s4 s5 f0 f1 f2 f3 f4 f5
        gi_wp2_with (refine ⟨trivial, ?_⟩; gi_at_call 47; refine (CallsIn.inRound lp (callsIn_wide.2 HA.out)).mono ?_; rintro e W1 ⟨rfl, HK⟩; have hO1 : Outs W1 w.heap.size 0 0 := ⟨HK.out.blk HYY.out.1.out.b2 (by omega) (.inl (by omega)), HK.out.blk HYY.out.1.out.b3 (by omega) (.inl (by omega)), HK.out.blk HYY.out.1.out.b4 (by omega) (.inl (by omega))⟩; obtain ⟨s0, s1, s2, s3, s4, s5⟩ := hO1.cells; obtain ⟨⟨f0, f1, f2, f3⟩, f4, f5⟩ := hO1.frozen; have HO1 := Lib.hid hO1; clear hO1)
        obtain ⟨hYI, hYR, hYP⟩ := HYY.out
        obtain ⟨B1, B2, B3, B4, d1, d2, d3, d4, hXW, _⟩ := hYI.inv
        have hk := HK.out
        refine ⟨KeepsFrom.trans ⟨hk.size, fun i o _ hi ho => hk.other hi ⟨_, _, _, hXW⟩ ho⟩ (retW_keeps W1 w.heap.size _ a z), rfl, a, z, ?_, HO1.out.ret a z, ?_⟩
        · intro qs
          rw [List.map_append, List.append_assoc]
          show foldP PSt.zero (pre.map bareP ++ (a, (r1, r2, r3, r4, r5, r6, r7, 0, r9)) :: qs) = badR a z
          rw [foldP_bad _ _ _ _ _ hYI.good, if_neg (fun h => h rfl), HZ.out, if_pos HZN.out]
        · exact (hYI.below.trans (hk.below (by omega) (by omega) (by have := hYI.below.size; omega))).trans (retW_below (Nat.le_refl _) a z)
    · have hwb : (r.why == 0) = false := by simpa using hw
      have hwn : (r.why != 0) = true := by simpa using hw
      have HW := Lib.hid hw
      clear k0 k1 k2 k3 k4 k5 k6 HADD hw
      gi_wp2
      obtain ⟨hYI, hYR, hYP⟩ := HYY.out
      refine ⟨retW_keeps W w.heap.size _ a r.why, rfl, a, r.why, ?_, hYI.out.ret a r.why, hYI.below.trans (retW_below (Nat.le_refl _) a r.why)⟩
      intro qs
      rw [List.map_append, List.append_assoc]
      show foldP PSt.zero (pre.map bareP ++ (a, r) :: qs) = badR a r.why
      rw [foldP_bad _ _ _ _ _ hYI.good, if_pos HW.out]
  case done =>
    rintro D ys W hD hS hI hK
    have hfold : foldP PSt.zero (partsOf l) = ((stOf PSt.zero (ys.map bareP)).hm, (stOf PSt.zero (ys.map bareP)).map, (stOf PSt.zero (ys.map bareP)).ms, (stOf PSt.zero (ys.map bareP)).os, 0, 0) := by
      rw [← hS]
      exact foldP_good _ _ hI.good
    have hinv := hI.inv
    generalize stOf PSt.zero (ys.map bareP) = st at *
    obtain ⟨B1, B2, B3, B4, d1, d2, d3, d4, hXW, h1, h2, h3, h4⟩ := hinv
    obtain ⟨s0, s1, s2, s3, s4, s5⟩ := hI.out.cells
    obtain ⟨⟨f0, f1, f2, f3⟩, f4, f5⟩ := hI.out.frozen
    have x0 : W.cell? ⟨X, 0, none⟩ = some (.bool st.hm) := (blk_cell hXW 0).trans rfl
    have x1 : W.cell? ⟨X, 1, none⟩ = some (.slice B1 st.map.length d1) := (blk_cell hXW 1).trans rfl
    have x2 : W.cell? ⟨X, 2, none⟩ = some (.slice B2 st.ms.length d2) := (blk_cell hXW 2).trans rfl
    have x3 : W.cell? ⟨X, 3, none⟩ = some (.slice B3 st.os.length d3) := (blk_cell hXW 3).trans rfl
    have HO2 := Lib.hid (hI.out.ok st.hm (.slice B1 st.map.length d1) (.slice B2 st.ms.length d2) (.slice B3 st.os.length d3))
    have HKD := Lib.hid (okW_noncell (R := w.heap.size) hK rfl st.hm (.slice B1 st.map.length d1) (.slice B2 st.ms.length d2) (.slice B3 st.os.length d3))
    have HR1 := Lib.hid (R_okW h1 (by omega : w.heap.size + 2 < X + 2) st.hm (.slice B1 st.map.length d1) (.slice B2 st.ms.length d2) (.slice B3 st.os.length d3))
    have HR2 := Lib.hid (S_okW h2 (by omega : w.heap.size + 2 < X + 2) st.hm (.slice B1 st.map.length d1) (.slice B2 st.ms.length d2) (.slice B3 st.os.length d3))
    have HR3 := Lib.hid (R_okW h3 (by omega : w.heap.size + 2 < X + 2) st.hm (.slice B1 st.map.length d1) (.slice B2 st.ms.length d2) (.slice B3 st.os.length d3))
    have HBL := Lib.hid (hI.below.trans (okW_below (Z := W) (Nat.le_refl w.heap.size) st.hm (.slice B1 st.map.length d1) (.slice B2 st.ms.length d2) (.slice B3 st.os.length d3)))
    have hXR : w.heap.size < X := by omega
    have HF := Lib.hid hfold
    clear hI hXW h1 h2 h3 h4 hfold hS hK hs0 hXb hBs hO0 hB0
    gi_wp2
    obtain ⟨V, hV⟩ : ∃ V, okW W w.heap.size st.hm (.slice B1 st.map.length d1) (.slice B2 st.ms.length d2) (.slice B3 st.os.length d3) = V := ⟨_, rfl⟩
    rw [hV] at HO2 HKD HR1 HR2 HR3 HBL
    unfold okW at hV
    have e2 : w.heap.size + 1 + 1 = w.heap.size + 2 := rfl
    first | rw [hV] | (rw [e2, hV])
    clear hV
    refine ⟨by simp, .inl ⟨_, _, rfl, run_takeDeferred HKD.out, ?_⟩⟩
    have hnon : ∀ {i t : Nat} {cs : Array Value} {fr : Nat × Nat}, V.heap[i]? = some (.cells cs t fr) → (V.putObj D (.deferred none)).heap[i]? = some (.cells cs t fr) := fun h => blk_noncell h (grownBy_putObj' V D _) (fun r e => by cases e; exact ⟨_, HKD.out, rfl⟩)
    have y0 := fun i => cell_of_row _ w.heap.size i _ _ _ (hnon HO2.out.b2)
    have y1 := fun i => cell_of_row _ (w.heap.size + 1) i _ _ _ (hnon HO2.out.b3)
    have y2 := fun i => cell_of_row _ (w.heap.size + 2) i _ _ _ (hnon HO2.out.b4)
    have c0 : (V.putObj D (.deferred none)).cell? ⟨w.heap.size, 0, none⟩ = some (.bool st.hm) := y0 0
    have c1 : (V.putObj D (.deferred none)).cell? ⟨w.heap.size, 1, none⟩ = some (.slice B1 st.map.length d1) := y0 1
    have c2 : (V.putObj D (.deferred none)).cell? ⟨w.heap.size, 2, none⟩ = some (.slice B2 st.ms.length d2) := y0 2
    have c3 : (V.putObj D (.deferred none)).cell? ⟨w.heap.size, 3, none⟩ = some (.slice B3 st.os.length d3) := y0 3
    have c4 : (V.putObj D (.deferred none)).cell? ⟨w.heap.size + 1, 0, none⟩ = some (.int .i64 0) := y1 0
    have c5 : (V.putObj D (.deferred none)).cell? ⟨w.heap.size + 2, 0, none⟩ = some (.int .i64 0) := y2 0
    have hg := grownBy_putObj' V D (.deferred none)
    have hnr : ∀ r, some D = some r → ∃ o : Obj, V.heap[r]? = some o ∧ o.isCells = false := fun r e => by cases e; exact ⟨_, HKD.out, rfl⟩
    have hR1 := R_noncell HR1.out hg hnr
    have hR2 := S_noncell HR2.out hg hnr
    have hR3 := R_noncell HR3.out hg hnr
    have hD' : w.heap.size ≤ D := by have := HS0.out; omega
    have hBF : Below w.heap.size w (V.putObj D (.deferred none)) := HBL.out.trans ((Below.refl _ V).grown hg HBL.out.size (fun k e => by cases e; exact hD'))
    generalize V.putObj D (.deferred none) = U at *
    rw [HF.out]
    refine ⟨.tuple #[.agg #[.bool st.hm, .slice B1 st.map.length d1, .slice B2 st.ms.length d2, .slice B3 st.os.length d3], .int .i64 0, .int .i64 0], ?_, _, _, _, rfl, Kd.R_lower hR1 (by omega), Kd.S_mono (Kd.S_lower hR2 (by omega)) (fun k hk => hk.2), Kd.R_lower hR3 (by omega), hBF⟩
    simp [results, Tryd.f25, go_sem, c0, c1, c2, c3, c4, c5]
  case stop =>
    rintro D cd pre W hD hpre ⟨rfl, a, z, hfold, hO, hBW⟩ hK
    have hf2 : foldP PSt.zero (partsOf l) = badR a z := by
      obtain ⟨qs, hq⟩ := hpre
      rw [← hq]
      exact hfold qs
    have HF := Lib.hid hf2
    have HO2 := Lib.hid hO
    have HKD := Lib.hid hK
    have HBL := Lib.hid hBW
    clear hfold hO hBW hK hf2 hs0 hXb hBs hO0 hB0
    gi_wp2
    refine ⟨by simp, .inl ⟨_, _, rfl, run_takeDeferred HKD.out, ?_⟩⟩
    obtain ⟨c0, c1, c2, c3, c4, c5⟩ := (HO2.out.noncell (grownBy_putObj' W D (.deferred none)) (fun r e => by cases e; exact ⟨_, HKD.out, rfl⟩)).cells
    have hD' : w.heap.size ≤ D := by have := HS0.out; omega
    have hBF : Below w.heap.size w (W.putObj D (.deferred none)) := HBL.out.trans ((Below.refl _ W).grown (grownBy_putObj' W D (.deferred none)) HBL.out.size (fun k e => by cases e; exact hD'))
    generalize W.putObj D (.deferred none) = U at *
    rw [HF.out]
    refine ⟨.tuple #[.agg #[.bool false, .slice none 0 0, .slice none 0 0, .slice none 0 0], .int .i64 (a : Int), .int .i64 z], ?_, _, _, _, rfl, Kd.R_nil _ _ _ _ _, Kd.S_nil _ _ _ _ _, Kd.R_nil _ _ _ _ _, hBF⟩
    simp [results, Tryd.f25, go_sem, c0, c1, c2, c3, c4, c5]
def arparse_Parse.f (l : List Int) : Option ArcR := if isBytes l = true ∧ l.length < 4294967281 then some (parseA l) else none
theorem arparse_Parse.calls (A0 : Option Addr) (c0 : Nat) (l0 : List Int) (r1 : Bool) (r2 : List Int) (r3 : List K.S57) (r4 : List Int) (r5 : Int) (r6 : Int) (w : World) (hr0 : Kd.C (Kd.int .u8) w A0 l0.length l0) (hc0 : l0.length ≤ c0) (hGmaxlen : Gmaxlen w) (h : arparse_Parse.f l0 = some (r1, r2, r3, r4, r5, r6)) :
    Calls Tryd.prog 25 #[.slice A0 l0.length c0] w fun e w' => ∃ v1_ v2_ v3_ : Value, e = .returned (.tuple #[.agg #[.bool r1, v1_, v2_, v3_], .int .i64 r5, .int .i64 r6]) ∧ Kd.R (Kd.int .u8) 5 w' w.heap.size (fun _ => True) v1_ r2 ∧ Kd.S K.k57 57 w' w.heap.size (fun k_ => some k_ ≠ (v1_ : Value).ownBlock) v2_ r3 ∧ Kd.R (Kd.int .i64) 3 w' w.heap.size (fun _ => True) v3_ r4 ∧ Below w.heap.size w w' := by
  unfold arparse_Parse.f at h
  split at h
  · rename_i hb
    have hby := Byt.of hb.1
    have e := Option.some.inj h
    have hp : Calls Tryd.prog 25 #[.slice A0 l0.length c0] w (ParseSays w (parseA l0)) := by
      unfold parseA
      by_cases h8 : l0.length < 8
      · rw [if_pos h8]
        exact parse_short A0 c0 l0 w h8
      · rw [if_neg h8]
        cases hi : isV l0 with
        | false => rw [if_pos rfl]; exact parse_magic A0 c0 l0 w hr0 hc0 hby h8 hi
        | true => rw [if_neg (by simp)]; exact callsIn_wide.1 (parse_loop A0 c0 l0 w hr0 hc0 hby h8 hi hb.2 hGmaxlen)
    rw [e] at hp
    exact hp
  · cases h
#print axioms arparse_Parse.calls
end Go.Proofs.YtjiokdkgbnakhaaDoor.Own
end TParseL
section TKx14
namespace Go.Proofs.YtjiokdkgbnakhaaDoor.Own
end Go.Proofs.YtjiokdkgbnakhaaDoor.Own
namespace Go.Proofs.YtjiokdkgbnakhaaDoor.K
open Go.RowKit Go.Proofs.YtjiokdkgbnakhaaDoorW.PrintWords Go.Proofs.YtjiokdkgbnakhaaDoorW.PrintLast Go.Proofs.YtjiokdkgbnakhaaDoorW.PrintMore Go.Proofs.YtjiokdkgbnakhaaDoor.Own
attribute [local go_sem] max2_int min2_int max_two min_two max_three min_three max_four min_four
set_option linter.unusedVariables false
set_option linter.unusedSimpArgs false
end Go.Proofs.YtjiokdkgbnakhaaDoor.K
end TKx14
section TKx15
namespace Go.Proofs.YtjiokdkgbnakhaaDoor.Own
end Go.Proofs.YtjiokdkgbnakhaaDoor.Own
namespace Go.Proofs.YtjiokdkgbnakhaaDoor.K
open Go.RowKit Go.Proofs.YtjiokdkgbnakhaaDoorW.PrintWords Go.Proofs.YtjiokdkgbnakhaaDoorW.PrintLast Go.Proofs.YtjiokdkgbnakhaaDoorW.PrintMore Go.Proofs.YtjiokdkgbnakhaaDoor.Own
attribute [local go_sem] max2_int min2_int max_two min_two max_three min_three max_four min_four
set_option linter.unusedVariables false
set_option linter.unusedSimpArgs false
end Go.Proofs.YtjiokdkgbnakhaaDoor.K
end TKx15
section TKx16
namespace Go.Proofs.YtjiokdkgbnakhaaDoor.Own
end Go.Proofs.YtjiokdkgbnakhaaDoor.Own
namespace Go.Proofs.YtjiokdkgbnakhaaDoor.K
open Go.RowKit Go.Proofs.YtjiokdkgbnakhaaDoorW.PrintWords Go.Proofs.YtjiokdkgbnakhaaDoorW.PrintLast Go.Proofs.YtjiokdkgbnakhaaDoorW.PrintMore Go.Proofs.YtjiokdkgbnakhaaDoor.Own
attribute [local go_sem] max2_int min2_int max_two min_two max_three min_three max_four min_four
set_option linter.unusedVariables false
set_option linter.unusedSimpArgs false
end Go.Proofs.YtjiokdkgbnakhaaDoor.K
end TKx16
section TRefA
set_option linter.unusedVariables false
set_option linter.unusedSimpArgs false
namespace Go.Proofs.YtjiokdkgbnakhaaDoor.Own
open Go.RowKit Go.Proofs.YtjiokdkgbnakhaaDoor Go.Proofs.YtjiokdkgbnakhaaDoorW.PrintWords Go.Proofs.YtjiokdkgbnakhaaDoorW.PrintLast Go.Proofs.YtjiokdkgbnakhaaDoorW.PrintMore
def okByte2 (c : Int) : Bool := !(decide (c = 10) || decide (c = 0))
theorem okByte2_eq (b : UInt8) : (!([10, 0] : List UInt8).contains b) = okByte2 (b.toNat : Int) := by
  have e : ∀ c : UInt8, (b == c) = decide ((b.toNat : Int) = (c.toNat : Int)) := fun c => by
    by_cases h : b = c
    · simp [h]
    · have : ¬ b.toNat = c.toNat := fun e => h (UInt8.toNat_inj.1 e)
      have h' : ¬ (b.toNat : Int) = (c.toNat : Int) := by omega
      rw [decide_eq_false h']
      simpa using h
  simp only [List.contains_cons, List.contains_nil, e, Bool.or_false]
  rfl
theorem fitsV_eq (s : ByteArray) : fitsV s = (decide (1 ≤ s.size) && decide (s.size ≤ 16) && (bytesOf s).all okByte2 && (bt s ((s.size : Int) - 1) != 32)) := by
  unfold fitsV
  congr 1
  congr 1
  rw [containsAny_any, bytesOf, List.all_map, List.not_any_eq_all_not]
  exact congrArg (fun f => s.data.toList.all f) (funext okByte2_eq)
theorem rfits_loop (s : ByteArray) (hs : s.size ≤ 255) : ∀ d i, s.size = i + d → Ev (fun k => K.arlinkref02_Fits.l0 k s (i : Int)) (((bytesOf s).drop i).all okByte2)
  | 0, i, h => by
    refine Ev.step (f := fun _ => some true) (fun k => ?_) ?_
    · rw [K.arlinkref02_Fits.l0, if_neg (by omega)]
    · rw [List.drop_eq_nil_of_le (by rw [bytesOf_length]; omega)]
      exact Ev.now _
  | d + 1, i, h => by
    have hi : i < (bytesOf s).length := by rw [bytesOf_length]; omega
    have ih := rfits_loop s hs d (i + 1) (by omega)
    have hb : bt s (i : Int) = (bytesOf s)[i] := by rw [← rd_bytesOf, rd_nat _ _ hi]
    rw [List.drop_eq_getElem_cons hi, List.all_cons]
    refine Ev.step (f := fun k => if okByte2 (bytesOf s)[i] = true then K.arlinkref02_Fits.l0 k s ((i + 1 : Nat) : Int) else some false) (fun k => ?_) ?_
    · rw [K.arlinkref02_Fits.l0, if_pos (by omega), if_pos (by omega), hb, wrap_up (by omega)]
      generalize (bytesOf s)[i] = c
      unfold okByte2
      by_cases h1 : c = 10
      · simp [h1]
      · by_cases h2 : c = 0
        · simp [h2]
        · simp [h1, h2]
    · by_cases ho : okByte2 (bytesOf s)[i] = true
      · simp only [ho, if_true, Bool.true_and]
        exact ih
      · simp only [Bool.not_eq_true] at ho
        simp only [ho, Bool.false_and, Bool.false_eq_true, if_false]
        exact Ev.now _
theorem rfits_ev (s : ByteArray) : Ev (fun k => K.arlinkref02_Fits.f k s) (fitsV s) := by
  rw [fitsV_eq]
  by_cases h0 : s.size = 0
  · refine Ev.step (f := fun _ => some false) (fun k => ?_) ?_
    · unfold K.arlinkref02_Fits.f
      rw [if_pos (by omega), K.arlinkref02_Fits.j0, if_pos rfl]
    · rw [decide_eq_false (by omega : ¬ 1 ≤ s.size)]
      exact Ev.now _
  · by_cases h2 : s.size ≤ 16
    · have hw : wrap64 ((s.size : Int) - 1) = (s.size : Int) - 1 := by unfold wrap64; omega
      by_cases h3 : bt s ((s.size : Int) - 1) = 32
      · refine Ev.step (f := fun _ => some false) (fun k => ?_) ?_
        · unfold K.arlinkref02_Fits.f
          rw [if_neg (by omega), if_neg (by omega), hw, if_pos (by omega), if_pos (by omega), h3, K.arlinkref02_Fits.j0]
          rfl
        · rw [h3]
          simp only [bne_self_eq_false, Bool.and_false]
          exact Ev.now _
      · refine Ev.step (f := fun k => K.arlinkref02_Fits.l0 k s ((0 : Nat) : Int)) (fun k => ?_) ?_
        · unfold K.arlinkref02_Fits.f
          rw [if_neg (by omega), if_neg (by omega), hw, if_pos (by omega), if_pos (by omega), K.arlinkref02_Fits.j0]
          rw [if_neg (by simpa using h3)]
          rfl
        · rw [decide_eq_true (by omega), decide_eq_true h2, bne_iff_ne.2 h3]
          simp only [Bool.true_and, Bool.and_true]
          exact rfits_loop s (by omega) s.size 0 (by omega)
    · refine Ev.step (f := fun _ => some false) (fun k => ?_) ?_
      · unfold K.arlinkref02_Fits.f
        rw [if_neg (by omega), if_pos (by omega), K.arlinkref02_Fits.j0, if_pos rfl]
      · rw [decide_eq_false h2]
        simp only [Bool.and_false, Bool.false_and]
        exact Ev.now _
theorem spaces_loop (n : Nat) (hn : n ≤ 1000) : ∀ d i, n = i + d → Ev (fun k => K.arlinkref02_spaces.l0 k (n : Int) (List.replicate i 32) (i : Int)) (List.replicate n 32)
  | 0, i, h => by
    refine Ev.step (f := fun _ => some (List.replicate n 32)) (fun k => ?_) (Ev.now _)
    rw [K.arlinkref02_spaces.l0, if_neg (by omega), h, Nat.add_zero]
  | d + 1, i, h => by
    have ih := spaces_loop n hn d (i + 1) (by omega)
    refine Ev.step (f := fun k => K.arlinkref02_spaces.l0 k (n : Int) (List.replicate (i + 1) 32) ((i + 1 : Nat) : Int)) (fun k => ?_) ih
    rw [K.arlinkref02_spaces.l0, if_pos (by omega), if_pos (by rw [List.length_replicate]; omega), wrap_up (by omega), List.replicate_succ']
theorem spaces_ev (n : Nat) (hn : n ≤ 1000) : Ev (fun k => K.arlinkref02_spaces.f k (n : Int)) (List.replicate n 32) := spaces_loop n hn n 0 (by omega)
section
variable (b : Nat) (hb : b = 8 ∨ b = 10)
include hb
omit hb in
end
end Go.Proofs.YtjiokdkgbnakhaaDoor.Own
end TRefA
section TEncP
set_option linter.unusedVariables false
set_option linter.unusedSimpArgs false
namespace Go.Proofs.YtjiokdkgbnakhaaDoor.Own
open Go.RowKit Go.Proofs.YtjiokdkgbnakhaaDoor Go.Proofs.YtjiokdkgbnakhaaDoorW.PrintWords Go.Proofs.YtjiokdkgbnakhaaDoorW.PrintLast Go.Proofs.YtjiokdkgbnakhaaDoorW.PrintMore
def fieldR (n base : Int) (width : Nat) (blank : Bool) : List Int × Bool := if blank = true then (List.replicate width 32, n == 0) else ((formatV n base (width : Int)).1, (formatV n base (width : Int)).2 == 0)
theorem Rw.of_R {w : World} {base : Nat} {ok : Nat → Prop} {v : Value} {xs : List Int} (h : (Kd.int .u8).R 5 w base ok v xs) : Rw w v xs := by
  obtain ⟨A, c, e, hc, hC⟩ := Kd.R_reads h
  exact ⟨A, c, e, hc, hC⟩
theorem Rw.go {w w' : World} {v : Value} {xs : List Int} (h : Rw w v xs) (hb : Below w.heap.size w w') : Rw w' v xs := by
  obtain ⟨A, c, e, hc, hC⟩ := h
  exact ⟨A, c, e, hc, Kd.C_below hC hb⟩
def FieldSays (w : World) (r : List Int × Bool) (e : Ending) (w' : World) : Prop := ∃ v, e = .returned (.tuple #[v, .bool r.2]) ∧ Rw w' v r.1 ∧ Below w.heap.size w w'
set_option maxRecDepth 100000 in
set_option maxHeartbeats 2000000 in
theorem field_in (n base : Int) (width : Nat) (blank : Bool) (w : World) (hn : n < 9223372036854775808) (hw : width ≤ 1000) :
    Calls Tryd.prog 53 #[.int .i64 n, .int .i64 base, .int .i64 (width : Int), .bool blank] w (FieldSays w (fieldR n base width blank)) := by
  cases blank with
  | true =>
    obtain ⟨k, hk⟩ := (spaces_ev width hw).rounds
    have HS := Lib.hid (fun W => K.arlinkref02_spaces.calls k (width : Int) (List.replicate width 32) W hk)
    obtain ⟨z, hz⟩ : ∃ z, (n == 0) = z := ⟨_, rfl⟩
    have e : fieldR n base width true = (List.replicate width 32, z) := by unfold fieldR; rw [if_pos rfl, hz]
    rw [e]
    clear e
    generalize List.replicate width (32 : Int) = R at *
    clear hk hn hw
    go_enter Tryd.func53, Tryd.ntmps53
    go_wp2_with (go_at_call 54; refine (HS.out _).mono ?_; rintro e w' ⟨v, rfl, hv, hb⟩; obtain ⟨A7, c7, rfl⟩ := Kd.R_slice hv; have HV := Lib.hid (And.intro (Rw.of_R hv) hb); clear hv hb)
    go_ret2
    exact ⟨_, rfl, HV.out.1, HV.out.2⟩
  | false =>
    have hf : arlinkref01_Format.f n base (width : Int) = some ((formatV n base (width : Int)).1, (formatV n base (width : Int)).2) := by unfold arlinkref01_Format.f; rw [if_pos hn]
    have HS := Lib.hid (fun W => arlinkref01_Format.calls n base (width : Int) _ _ W hf)
    have e : fieldR n base width false = ((formatV n base (width : Int)).1, (formatV n base (width : Int)).2 == 0) := by unfold fieldR; rw [if_neg (by simp)]
    rw [e]
    clear e hf hn hw
    generalize (formatV n base (width : Int)).1 = f1 at *
    generalize (formatV n base (width : Int)).2 = f2 at *
    go_enter Tryd.func53, Tryd.ntmps53
    go_wp2_with (go_at_call 68; refine (HS.out _).mono ?_; rintro e w' ⟨v, rfl, hv, hb⟩; obtain ⟨A7, c7, rfl⟩ := Rw.slice hv; have HV := Lib.hid (And.intro hv hb); clear hv hb)
    go_ret2
    exact ⟨_, rfl, HV.out.1, HV.out.2⟩
end Go.Proofs.YtjiokdkgbnakhaaDoor.Own
end TEncP
section TEncA
set_option linter.unusedVariables false
set_option linter.unusedSimpArgs false
namespace Go.Proofs.YtjiokdkgbnakhaaDoor.Own
open Go.RowKit Go.Proofs.YtjiokdkgbnakhaaDoor Go.Proofs.YtjiokdkgbnakhaaDoorW.PrintWords Go.Proofs.YtjiokdkgbnakhaaDoorW.PrintLast Go.Proofs.YtjiokdkgbnakhaaDoorW.PrintMore
def OwnB (W : World) (base : Nat) (v : Value) (xs : List Int) : Prop := OwnsM W base 5 v xs.length (xs.map (Value.int .u8))
theorem OwnB.go {W W' : World} {base : Nat} {v : Value} {xs : List Int} (h : OwnB W base v xs) (hb : Below W.heap.size W W') : OwnB W' base v xs := by
  refine OwnsM.kept h fun g hg => hb.block g ?_
  rcases h.2 with ⟨rfl, _⟩ | ⟨g', cap, cur, fz, rfl, _, hc, _⟩
  · simp [Value.ownBlock] at hg
  · have : g' = g := by simpa [Value.ownBlock] using hg
    subst this
    exact (Array.getElem?_eq_some_iff.1 hc).1
theorem OwnB.base_ {W : World} {base : Nat} {v : Value} {xs : List Int} (h : OwnB W base v xs) : ∀ k, v.ownBlock = some k → base ≤ k := by
  intro k hk
  rcases h.2 with ⟨rfl, _⟩ | ⟨g', cap, cur, fz, rfl, hb, _⟩
  · simp [Value.ownBlock] at hk
  · have : g' = k := by simpa [Value.ownBlock] using hk
    omega
theorem OwnB.rw {W : World} {base : Nat} {v : Value} {xs : List Int} (h : OwnB W base v xs) : Rw W v xs := OwnsM.reads h
theorem run_append_Rw {W : World} (base : Nat) (ty : TypeId) (v : Value) (xs : List Int) (hown : OwnB W base v xs) (A : Option Addr) (c : Nat) (ys : List Int) (hr : (Kd.int .u8).C W A ys.length ys) (hl : xs.length + ys.length ≤ 140737488355328) (hbase : base ≤ W.heap.size) :
    ∃ v' w', (Builtin.append_ #[22, 22] ty #[v, .slice A ys.length c]).run Tryd.prog W = .ok v' w' ∧ OwnB w' base v' (xs ++ ys) ∧ W.grownBy w' v.ownBlock := by
  obtain ⟨i, hi, hz, hsz, hby⟩ := info_parts K.info5
  obtain ⟨_, _, h3⟩ := Kd.reads_of_C (enc := Value.int .u8) (d := (0 : Int)) (h1 := fun _ => rfl) hr
  rcases A with _ | ad
  · have h0 : ys.length = 0 := by
      rcases Nat.eq_zero_or_pos ys.length with h0 | h0
      · exact h0
      · obtain ⟨ad, h, _⟩ := h3 h0
        cases h
    obtain rfl : ys = [] := List.eq_nil_of_length_eq_zero h0
    refine ⟨v, W, ?_, by rw [List.append_nil]; exact hown, World.grownBy.refl W _⟩
    rcases hown.2 with ⟨rfl, hn⟩ | ⟨g, cap, cur, fz, rfl, _, _, _, hnc, _⟩
    · simp [Builtin.append_, run_underlying Tryd.underlying22, sizeOf, typeInfo, hi, Builtin.lenOf, Builtin.firstCells]
    · simp [Builtin.append_, run_underlying Tryd.underlying22, sizeOf, typeInfo, hi, Builtin.lenOf, Builtin.firstCells, hnc, storeCells]
  · obtain ⟨v', w', hrun, h1, h2⟩ := run_append_M (P := Tryd.prog) W base 22 ty 5 i (.int .u8 0) 1 Tryd.underlying22 hi hz hsz hby rfl v xs.length (xs.map (Value.int .u8)) hown ad ys.length c (ys.map (Value.int .u8)) (by simp)
      (by
        intro j u hj
        rw [List.getElem?_map] at hj
        obtain ⟨y, hy, rfl⟩ := Option.map_eq_some_iff.1 hj
        obtain ⟨hlt, hyy⟩ := List.getElem?_eq_some_iff.1 hy
        obtain ⟨ad', e1, hc⟩ := h3 (by omega)
        cases e1
        rw [hc j hlt, List.getD_eq_getElem?_getD, hy]
        rfl)
      (by
        intro u hu
        obtain ⟨y, _, rfl⟩ := List.mem_map.1 hu
        rfl) (by unfold maxLen; omega) (by omega) hbase
    refine ⟨v', w', hrun, ?_, h2⟩
    unfold OwnB
    rw [List.length_append, List.map_append]
    exact h1
theorem step_append_Rw {W : World} {ops : Array Oper} {o : Oper} {a : Act} {Q : Exit → Act → World → Prop} {Kc : Act → World → Prop} (hw : Region.wanted o (yielded ops a.tmps) = true) (s x : Operand)
    (ho : o.op = .call { callee := .builtin .append, args := #[s, x], argTypes := #[22, 22] })
    (base : Nat) (v : Value) (xs : List Int) (hs : a.eval s = v) (hown : OwnB W base v xs) (A : Option Addr) (c : Nat) (ys : List Int) (hx : a.eval x = .slice A ys.length c) (hr : (Kd.int .u8).C W A ys.length ys) (hl : xs.length + ys.length ≤ 140737488355328) (hbase : base ≤ W.heap.size)
    (h : ∀ v' w', OwnB w' base v' (xs ++ ys) → W.grownBy w' v.ownBlock → Kc (a.put o.dst v') w') :
    if Region.wanted o (yielded ops a.tmps) = true then Oper.wp Tryd.prog o a W Kc Q else Kc (a.put o.dst undef) W := by
  rw [if_pos hw]
  obtain ⟨v', w', hrun, h2, h3⟩ := run_append_Rw base o.type v xs hown A c ys hr hl hbase
  unfold Oper.wp execOp
  simp only [ho, resolve, invoke, builtin, Sem.run_bind, Sem.run_pure, Result.andThen_ok, List.map_toArray, List.map_cons, List.map_nil, hs, hx, hrun]
  exact h v' w' h2 h3
theorem wpList_append_Rw {W : World} {ops : Array Oper} {rest : List Oper} {o : Oper} {a : Act} {Q : Exit → Act → World → Prop} (hgd : o.guard = none) (s x : Operand)
    (ho : o.op = .call { callee := .builtin .append, args := #[s, x], argTypes := #[22, 22] })
    (base : Nat) (v : Value) (xs : List Int) (hs : a.eval s = v) (hown : OwnB W base v xs) (A : Option Addr) (c : Nat) (ys : List Int) (hx : a.eval x = .slice A ys.length c) (hr : (Kd.int .u8).C W A ys.length ys) (hl : xs.length + ys.length ≤ 140737488355328) (hbase : base ≤ W.heap.size)
    (h : ∀ v' w', OwnB w' base v' (xs ++ ys) → W.grownBy w' v.ownBlock → wpList Tryd.prog ops Q rest (a.put o.dst v') w') : wpList Tryd.prog ops Q (o :: rest) a W := by
  refine wpList_plain hgd fun Kk hK => ?_
  obtain ⟨v', w', hrun, h2, h3⟩ := run_append_Rw base o.type v xs hown A c ys hr hl hbase
  unfold Oper.wp execOp
  simp only [ho, resolve, invoke, builtin, Sem.run_bind, Sem.run_pure, Result.andThen_ok, List.map_toArray, List.map_cons, List.map_nil, hs, hx, hrun]
  exact hK _ _ (h v' w' h2 h3)
theorem bytesW_B (W : World) (d : ByteArray) (hd : d.size ≤ 140737488355328) : OwnB (bytesW W d) W.heap.size (.slice (some ⟨W.heap.size, 0, none⟩) d.size (grownCap W d.size 0 5)) (bytesOf d) := by
  unfold OwnB
  rw [bytesOf_length]
  exact bytesW_owns W d hd
end Go.Proofs.YtjiokdkgbnakhaaDoor.Own
end TEncA
section TEnc
set_option linter.unusedVariables false
set_option linter.unusedSimpArgs false
namespace Go.Proofs.YtjiokdkgbnakhaaDoor.Own
open Go.RowKit Go.Proofs.YtjiokdkgbnakhaaDoor Go.Proofs.YtjiokdkgbnakhaaDoorW.PrintWords Go.Proofs.YtjiokdkgbnakhaaDoorW.PrintLast Go.Proofs.YtjiokdkgbnakhaaDoorW.PrintMore
def encodeV (S : ByteArray) (n0 n1 n2 n3 n4 : Int) : List Int × Int :=
  if fitsV S = false then ([], 6)
  else if ((fieldR n0 10 12 (isTable S)).2 && (fieldR n1 10 6 (isTable S)).2 && (fieldR n2 10 6 (isTable S)).2 && (fieldR n3 8 8 (isTable S)).2 && (fieldR n4 10 10 false).2) = false then ([], 9)
  else (bytesOf S ++ List.replicate (16 - S.size) 32 ++ (fieldR n0 10 12 (isTable S)).1 ++ (fieldR n1 10 6 (isTable S)).1 ++ (fieldR n2 10 6 (isTable S)).1 ++ (fieldR n3 8 8 (isTable S)).1 ++ (fieldR n4 10 10 false).1 ++ [96, 10], 0)
def EncSays (w : World) (r : List Int × Int) (e : Ending) (w' : World) : Prop := ∃ v, e = .returned (.tuple #[v, .int .i64 r.2]) ∧ Rw w' v r.1 ∧ Below w.heap.size w w'
theorem fits_rcalls (S : ByteArray) (W : World) : Calls Tryd.prog 51 #[.string S] W fun e w' => e = .returned (.bool (fitsV S)) ∧ Below W.heap.size W w' := by
  obtain ⟨k, hk⟩ := (rfits_ev S).rounds
  exact (K.arlinkref02_Fits.calls k S (fitsV S) W hk).mono fun _ _ ⟨he, hd⟩ => ⟨he, hd.below⟩
def argH (S : ByteArray) (n0 n1 n2 n3 n4 : Int) : Value := .agg #[.string S, .int .i64 n0, .int .i64 n1, .int .i64 n2, .int .i64 n3, .int .i64 n4]
theorem fieldR_len (n base : Int) (width : Nat) (blank : Bool) (h : (fieldR n base width blank).2 = true) : (fieldR n base width blank).1.length = width := by
  unfold fieldR at h ⊢
  split
  · simp
  · rename_i hb
    rw [if_neg hb] at h
    simp only [beq_iff_eq] at h
    unfold formatV at h ⊢
    split
    · rename_i h1; rw [if_pos h1] at h; exact absurd h (by decide)
    · rename_i h1
      rw [if_neg h1] at h
      split
      · rename_i h2; rw [if_pos h2] at h; exact absurd h (by decide)
      · rename_i h2
        simp only [not_or] at h2
        rw [List.length_append, List.length_replicate, bytesOf_length]
        omega
theorem Rw.row {w : World} {A : Option Addr} {c : Nat} {xs : List Int} (h : Rw w (.slice A xs.length c) xs) : (Kd.int .u8).C w A xs.length xs := by
  obtain ⟨q, d, e, -, hx⟩ := h
  cases e
  exact hx
theorem two_row (W : World) : (Kd.int .u8).C (W.alloc (.cells #[.int .u8 96, .int .u8 10] 5)) (some ⟨W.heap.size, 0, none⟩) 2 [96, 10] := by
  refine Kd.C_of_reads (enc := Value.int .u8) (d := (0 : Int)) (h1 := fun _ => rfl) ⟨rfl, by decide, fun _ => ⟨_, rfl, fun j hj => ?_⟩⟩
  unfold World.cell?
  rw [add_plain]
  simp only [World.alloc_heap_new]
  match j, hj with
  | 0, _ => rfl
  | 1, _ => rfl
def EncSt (u y : World) (B : Nat) (v : Value) (xs : List Int) : Prop := Below u.heap.size u y ∧ u.heap.size ≤ B ∧ B ≤ y.heap.size ∧ OwnB y B v xs
theorem EncSt.step {u y y' : World} {B : Nat} {v v' : Value} {xs ys : List Int} (h : EncSt u y B v xs) (ho : OwnB y' B v' ys) (hg : y.grownBy y' v.ownBlock) : EncSt u y' B v' ys := by
  obtain ⟨h1, h2, h3, h4⟩ := h
  exact ⟨h1.grown hg h1.size (fun k hk => Nat.le_trans h2 (h4.base_ k hk)), h2, Nat.le_trans h3 hg.size, ho⟩
theorem EncSt.below {u y y' : World} {B : Nat} {v : Value} {xs : List Int} (h : EncSt u y B v xs) (hb : Below y.heap.size y y') : EncSt u y' B v xs :=
  ⟨below_step h.1 hb, h.2.1, Nat.le_trans h.2.2.1 hb.size, h.2.2.2.go hb⟩
theorem EncSt.first (u : World) (S : ByteArray) (hS : S.size ≤ 140737488355328) : EncSt u (bytesW u S) u.heap.size (.slice (some ⟨u.heap.size, 0, none⟩) S.size (grownCap u S.size 0 5)) (bytesOf S) :=
  ⟨bytesW_below u S, Nat.le_refl _, (bytesW_below u S).size, bytesW_B u S hS⟩
theorem EncSt.behind (u y : World) (S : ByteArray) (hS : S.size ≤ 140737488355328) (hb : Below u.heap.size u y) : EncSt u (bytesW y S) y.heap.size (.slice (some ⟨y.heap.size, 0, none⟩) S.size (grownCap y S.size 0 5)) (bytesOf S) :=
  ⟨below_step hb (bytesW_below y S), hb.size, (bytesW_below y S).size, bytesW_B y S hS⟩
set_option maxRecDepth 100000 in
set_option maxHeartbeats 4000000 in
theorem encode_name (S : ByteArray) (n0 n1 n2 n3 n4 : Int) (w : World) (hf : fitsV S = false) :
    Calls Tryd.prog 32 #[argH S n0 n1 n2 n3 n4] w (EncSays w ([], 6)) := by
  have hft := fun W => fits_rcalls S W
  rw [hf] at hft
  have HF := Lib.hid hft
  clear hft hf
  unfold argH
  go_enter Tryd.func32, Tryd.ntmps32
  go_wp2_with (go_at_call 51; refine (HF.out _).mono ?_; rintro e w1 ⟨rfl, hb⟩; have HB := Lib.hid hb; clear hb)
  go_ret2
  exact ⟨_, rfl, Rw.nil _, below_step (below_alloc (Below.refl _ _) _) HB.out⟩
set_option maxRecDepth 100000 in
set_option maxHeartbeats 8000000 in
theorem encode_fit (S : ByteArray) (n0 n1 n2 n3 n4 : Int) (w : World) (hf : fitsV S = true) (hn0 : n0 < 9223372036854775808) (hn1 : n1 < 9223372036854775808) (hn2 : n2 < 9223372036854775808) (hn3 : n3 < 9223372036854775808) (hn4 : n4 < 9223372036854775808)
    (hb : ((fieldR n0 10 12 (isTable S)).2 && (fieldR n1 10 6 (isTable S)).2 && (fieldR n2 10 6 (isTable S)).2 && (fieldR n3 8 8 (isTable S)).2 && (fieldR n4 10 10 false).2) = false) :
    Calls Tryd.prog 32 #[argH S n0 n1 n2 n3 n4] w (EncSays w ([], 9)) := by
  have hft := fun W => fits_rcalls S W
  rw [hf] at hft
  have HF := Lib.hid hft
  have q : (S.toList == [47, 47]) = isTable S := rfl
  generalize isTable S = T at *
  have hf0 := fun W => field_in n0 10 12 T W hn0 (by decide)
  generalize fieldR n0 10 12 T = F0 at *
  obtain ⟨L0, b0⟩ := F0
  have hf1 := fun W => field_in n1 10 6 T W hn1 (by decide)
  generalize fieldR n1 10 6 T = F1 at *
  obtain ⟨L1, b1⟩ := F1
  have hf2 := fun W => field_in n2 10 6 T W hn2 (by decide)
  generalize fieldR n2 10 6 T = F2 at *
  obtain ⟨L2, b2⟩ := F2
  have hf3 := fun W => field_in n3 8 8 T W hn3 (by decide)
  generalize fieldR n3 8 8 T = F3 at *
  obtain ⟨L3, b3⟩ := F3
  have hf4 := fun W => field_in n4 10 10 false W hn4 (by decide)
  generalize fieldR n4 10 10 false = F4 at *
  obtain ⟨L4, b4⟩ := F4
  have HF0 := Lib.hid hf0
  have HF1 := Lib.hid hf1
  have HF2 := Lib.hid hf2
  have HF3 := Lib.hid hf3
  have HF4 := Lib.hid hf4
  clear hft hf hf0 hf1 hf2 hf3 hf4 hn0 hn1 hn2 hn3 hn4
  simp only at hb HF0 HF1 HF2 HF3 HF4
  unfold argH
  go_enter Tryd.func32, Tryd.ntmps32
  go_wp2_with fail
  refine (HF.out _).mono ?_
  rintro e w0 ⟨rfl, hb⟩
  have hx := fun i => cell_of_row w0 w.heap.size i _ _ _ ((hb.block _ (by simp)).trans (World.alloc_heap_new w (.cells #[.string S, .int .i64 n0, .int .i64 n1, .int .i64 n2, .int .i64 n3, .int .i64 n4] 59)))
  have HB0 := Lib.hid (below_step (below_alloc (Below.refl _ _) _) hb)
  have a0 : w0.cell? ⟨w.heap.size, 0, none⟩ = some (.string S) := hx 0
  have a1 : w0.cell? ⟨w.heap.size, 1, none⟩ = some (.int .i64 n0) := hx 1
  have a2 : w0.cell? ⟨w.heap.size, 2, none⟩ = some (.int .i64 n1) := hx 2
  have a3 : w0.cell? ⟨w.heap.size, 3, none⟩ = some (.int .i64 n2) := hx 3
  have a4 : w0.cell? ⟨w.heap.size, 4, none⟩ = some (.int .i64 n3) := hx 4
  have a5 : w0.cell? ⟨w.heap.size, 5, none⟩ = some (.int .i64 n4) := hx 5
  clear hx hb
  go_wp2_with fail
  refine (HF0.out _).mono ?_
  rintro e w1 ⟨v0, rfl, hv, hb⟩
  obtain ⟨A0, c0, rfl⟩ := Rw.slice hv
  have HV0 := Lib.hid hv
  have HB1 := Lib.hid (below_step HB0.out hb)
  replace a0 := pw_cell_below hb a0
  replace a1 := pw_cell_below hb a1
  replace a2 := pw_cell_below hb a2
  replace a3 := pw_cell_below hb a3
  replace a4 := pw_cell_below hb a4
  replace a5 := pw_cell_below hb a5
  clear hv hb
  go_wp2_with fail
  refine (HF1.out _).mono ?_
  rintro e w2 ⟨v1, rfl, hv, hb⟩
  obtain ⟨A1, c1, rfl⟩ := Rw.slice hv
  have HV1 := Lib.hid hv
  have HB2 := Lib.hid (below_step HB1.out hb)
  replace HV0 := Lib.hid (HV0.out.go hb)
  replace a0 := pw_cell_below hb a0
  replace a1 := pw_cell_below hb a1
  replace a2 := pw_cell_below hb a2
  replace a3 := pw_cell_below hb a3
  replace a4 := pw_cell_below hb a4
  replace a5 := pw_cell_below hb a5
  clear hv hb
  go_wp2_with fail
  refine (HF2.out _).mono ?_
  rintro e w3 ⟨v2, rfl, hv, hb⟩
  obtain ⟨A2, c2, rfl⟩ := Rw.slice hv
  have HV2 := Lib.hid hv
  have HB3 := Lib.hid (below_step HB2.out hb)
  replace HV0 := Lib.hid (HV0.out.go hb)
  replace HV1 := Lib.hid (HV1.out.go hb)
  replace a0 := pw_cell_below hb a0
  replace a1 := pw_cell_below hb a1
  replace a2 := pw_cell_below hb a2
  replace a3 := pw_cell_below hb a3
  replace a4 := pw_cell_below hb a4
  replace a5 := pw_cell_below hb a5
  clear hv hb
  go_wp2_with fail
  refine (HF3.out _).mono ?_
  rintro e w4 ⟨v3, rfl, hv, hb⟩
  obtain ⟨A3, c3, rfl⟩ := Rw.slice hv
  have HV3 := Lib.hid hv
  have HB4 := Lib.hid (below_step HB3.out hb)
  replace HV0 := Lib.hid (HV0.out.go hb)
  replace HV1 := Lib.hid (HV1.out.go hb)
  replace HV2 := Lib.hid (HV2.out.go hb)
  replace a0 := pw_cell_below hb a0
  replace a1 := pw_cell_below hb a1
  replace a2 := pw_cell_below hb a2
  replace a3 := pw_cell_below hb a3
  replace a4 := pw_cell_below hb a4
  replace a5 := pw_cell_below hb a5
  clear hv hb
  go_wp2_with fail
  refine (HF4.out _).mono ?_
  rintro e w5 ⟨v4, rfl, hv, hb⟩
  obtain ⟨A4, c4, rfl⟩ := Rw.slice hv
  have HV4 := Lib.hid hv
  have HB5 := Lib.hid (below_step HB4.out hb)
  replace HV0 := Lib.hid (HV0.out.go hb)
  replace HV1 := Lib.hid (HV1.out.go hb)
  replace HV2 := Lib.hid (HV2.out.go hb)
  replace HV3 := Lib.hid (HV3.out.go hb)
  replace a0 := pw_cell_below hb a0
  replace a1 := pw_cell_below hb a1
  replace a2 := pw_cell_below hb a2
  replace a3 := pw_cell_below hb a3
  replace a4 := pw_cell_below hb a4
  replace a5 := pw_cell_below hb a5
  clear hv hb
  cases b0
  · go_wp2
    go_ret2
    exact ⟨_, rfl, Rw.nil _, HB5.out⟩
  · cases b1
    · go_wp2
      go_ret2
      exact ⟨_, rfl, Rw.nil _, HB5.out⟩
    · cases b2
      · go_wp2
        go_ret2
        exact ⟨_, rfl, Rw.nil _, HB5.out⟩
      · cases b3
        · go_wp2
          go_ret2
          exact ⟨_, rfl, Rw.nil _, HB5.out⟩
        · cases b4
          · go_wp2
            go_ret2
            exact ⟨_, rfl, Rw.nil _, HB5.out⟩
          · simp at hb
set_option maxRecDepth 100000 in
set_option maxHeartbeats 8000000 in
theorem encode_good (S : ByteArray) (n0 n1 n2 n3 n4 : Int) (w : World) (hf : fitsV S = true) (hn0 : n0 < 9223372036854775808) (hn1 : n1 < 9223372036854775808) (hn2 : n2 < 9223372036854775808) (hn3 : n3 < 9223372036854775808) (hn4 : n4 < 9223372036854775808)
    (hb : ((fieldR n0 10 12 (isTable S)).2 && (fieldR n1 10 6 (isTable S)).2 && (fieldR n2 10 6 (isTable S)).2 && (fieldR n3 8 8 (isTable S)).2 && (fieldR n4 10 10 false).2) = true) :
    Calls Tryd.prog 32 #[argH S n0 n1 n2 n3 n4] w (EncSays w (bytesOf S ++ List.replicate (16 - S.size) 32 ++ (fieldR n0 10 12 (isTable S)).1 ++ (fieldR n1 10 6 (isTable S)).1 ++ (fieldR n2 10 6 (isTable S)).1 ++ (fieldR n3 8 8 (isTable S)).1 ++ (fieldR n4 10 10 false).1 ++ [96, 10], 0)) := by
  have hsz : S.size ≤ 16 := by
    unfold fitsV at hf
    simp only [Bool.and_eq_true, decide_eq_true_eq] at hf
    exact hf.1.1.2
  obtain ⟨kk, hkk⟩ := (spaces_ev (16 - S.size) (by omega)).rounds
  have HSP := Lib.hid (fun W => K.arlinkref02_spaces.calls kk ((16 - S.size : Nat) : Int) (List.replicate (16 - S.size) 32) W hkk)
  have hw16 : wrap64 (16 - (S.size : Int)) = ((16 - S.size : Nat) : Int) := by unfold wrap64; omega
  clear hkk
  simp only [Bool.and_eq_true] at hb
  obtain ⟨⟨⟨⟨hb0, hb1⟩, hb2⟩, hb3⟩, hb4⟩ := hb
  have hl0 := fieldR_len _ _ _ _ hb0
  have hl1 := fieldR_len _ _ _ _ hb1
  have hl2 := fieldR_len _ _ _ _ hb2
  have hl3 := fieldR_len _ _ _ _ hb3
  have hl4 := fieldR_len _ _ _ _ hb4
  have hft := fun W => fits_rcalls S W
  rw [hf] at hft
  have HF := Lib.hid hft
  have q : (S.toList == [47, 47]) = isTable S := rfl
  generalize isTable S = T at *
  have hf0 := fun W => field_in n0 10 12 T W hn0 (by decide)
  generalize fieldR n0 10 12 T = F0 at *
  obtain ⟨L0, b0⟩ := F0
  have hf1 := fun W => field_in n1 10 6 T W hn1 (by decide)
  generalize fieldR n1 10 6 T = F1 at *
  obtain ⟨L1, b1⟩ := F1
  have hf2 := fun W => field_in n2 10 6 T W hn2 (by decide)
  generalize fieldR n2 10 6 T = F2 at *
  obtain ⟨L2, b2⟩ := F2
  have hf3 := fun W => field_in n3 8 8 T W hn3 (by decide)
  generalize fieldR n3 8 8 T = F3 at *
  obtain ⟨L3, b3⟩ := F3
  have hf4 := fun W => field_in n4 10 10 false W hn4 (by decide)
  generalize fieldR n4 10 10 false = F4 at *
  obtain ⟨L4, b4⟩ := F4
  try simp only at hb0 hb1 hb2 hb3 hb4 hl0 hl1 hl2 hl3 hl4
  try simp only at hf0 hf1 hf2 hf3 hf4
  subst hb0 hb1 hb2 hb3 hb4
  have HF0 := Lib.hid hf0
  have HF1 := Lib.hid hf1
  have HF2 := Lib.hid hf2
  have HF3 := Lib.hid hf3
  have HF4 := Lib.hid hf4
  have HL := Lib.hid (And.intro hl0 (And.intro hl1 (And.intro hl2 (And.intro hl3 hl4))))
  clear hft hf hf0 hf1 hf2 hf3 hf4 hn0 hn1 hn2 hn3 hn4 hl0 hl1 hl2 hl3 hl4
  unfold argH
  go_enter Tryd.func32, Tryd.ntmps32
  go_wp2_with fail
  refine (HF.out _).mono ?_
  rintro e w0 ⟨rfl, hb⟩
  have hx := fun i => cell_of_row w0 w.heap.size i _ _ _ ((hb.block _ (by simp)).trans (World.alloc_heap_new w (.cells #[.string S, .int .i64 n0, .int .i64 n1, .int .i64 n2, .int .i64 n3, .int .i64 n4] 59)))
  have HB0 := Lib.hid (below_step (below_alloc (Below.refl _ _) _) hb)
  have a0 : w0.cell? ⟨w.heap.size, 0, none⟩ = some (.string S) := hx 0
  have a1 : w0.cell? ⟨w.heap.size, 1, none⟩ = some (.int .i64 n0) := hx 1
  have a2 : w0.cell? ⟨w.heap.size, 2, none⟩ = some (.int .i64 n1) := hx 2
  have a3 : w0.cell? ⟨w.heap.size, 3, none⟩ = some (.int .i64 n2) := hx 3
  have a4 : w0.cell? ⟨w.heap.size, 4, none⟩ = some (.int .i64 n3) := hx 4
  have a5 : w0.cell? ⟨w.heap.size, 5, none⟩ = some (.int .i64 n4) := hx 5
  clear hx hb
  go_wp2_with fail
  refine (HF0.out _).mono ?_
  rintro e w1 ⟨v0, rfl, hv, hb⟩
  obtain ⟨A0, c0, rfl⟩ := Rw.slice hv
  have HV0 := Lib.hid hv
  have HB1 := Lib.hid (below_step HB0.out hb)
  replace a0 := pw_cell_below hb a0
  replace a1 := pw_cell_below hb a1
  replace a2 := pw_cell_below hb a2
  replace a3 := pw_cell_below hb a3
  replace a4 := pw_cell_below hb a4
  replace a5 := pw_cell_below hb a5
  clear hv hb
  go_wp2_with fail
  refine (HF1.out _).mono ?_
  rintro e w2 ⟨v1, rfl, hv, hb⟩
  obtain ⟨A1, c1, rfl⟩ := Rw.slice hv
  have HV1 := Lib.hid hv
  have HB2 := Lib.hid (below_step HB1.out hb)
  replace HV0 := Lib.hid (HV0.out.go hb)
  replace a0 := pw_cell_below hb a0
  replace a1 := pw_cell_below hb a1
  replace a2 := pw_cell_below hb a2
  replace a3 := pw_cell_below hb a3
  replace a4 := pw_cell_below hb a4
  replace a5 := pw_cell_below hb a5
  clear hv hb
  go_wp2_with fail
  refine (HF2.out _).mono ?_
  rintro e w3 ⟨v2, rfl, hv, hb⟩
  obtain ⟨A2, c2, rfl⟩ := Rw.slice hv
  have HV2 := Lib.hid hv
  have HB3 := Lib.hid (below_step HB2.out hb)
  replace HV0 := Lib.hid (HV0.out.go hb)
  replace HV1 := Lib.hid (HV1.out.go hb)
  replace a0 := pw_cell_below hb a0
  replace a1 := pw_cell_below hb a1
  replace a2 := pw_cell_below hb a2
  replace a3 := pw_cell_below hb a3
  replace a4 := pw_cell_below hb a4
  replace a5 := pw_cell_below hb a5
  clear hv hb
  go_wp2_with fail
  refine (HF3.out _).mono ?_
  rintro e w4 ⟨v3, rfl, hv, hb⟩
  obtain ⟨A3, c3, rfl⟩ := Rw.slice hv
  have HV3 := Lib.hid hv
  have HB4 := Lib.hid (below_step HB3.out hb)
  replace HV0 := Lib.hid (HV0.out.go hb)
  replace HV1 := Lib.hid (HV1.out.go hb)
  replace HV2 := Lib.hid (HV2.out.go hb)
  replace a0 := pw_cell_below hb a0
  replace a1 := pw_cell_below hb a1
  replace a2 := pw_cell_below hb a2
  replace a3 := pw_cell_below hb a3
  replace a4 := pw_cell_below hb a4
  replace a5 := pw_cell_below hb a5
  clear hv hb
  go_wp2_with fail
  refine (HF4.out _).mono ?_
  rintro e w5 ⟨v4, rfl, hv, hb⟩
  obtain ⟨A4, c4, rfl⟩ := Rw.slice hv
  have HV4 := Lib.hid hv
  have HB5 := Lib.hid (below_step HB4.out hb)
  replace HV0 := Lib.hid (HV0.out.go hb)
  replace HV1 := Lib.hid (HV1.out.go hb)
  replace HV2 := Lib.hid (HV2.out.go hb)
  replace HV3 := Lib.hid (HV3.out.go hb)
  replace a0 := pw_cell_below hb a0
  replace a1 := pw_cell_below hb a1
  replace a2 := pw_cell_below hb a2
  replace a3 := pw_cell_below hb a3
  replace a4 := pw_cell_below hb a4
  replace a5 := pw_cell_below hb a5
  clear hv hb
  go_wp2
  have s0 : w5.drew.cell? ⟨w.heap.size, 0, none⟩ = some (.string S) := a0
  have HB5d := Lib.hid (below_drew HB5.out)
  replace HV0 := Lib.hid (HV0.out.go (below_drew (Below.refl _ _)))
  replace HV1 := Lib.hid (HV1.out.go (below_drew (Below.refl _ _)))
  replace HV2 := Lib.hid (HV2.out.go (below_drew (Below.refl _ _)))
  replace HV3 := Lib.hid (HV3.out.go (below_drew (Below.refl _ _)))
  replace HV4 := Lib.hid (HV4.out.go (below_drew (Below.refl _ _)))
  clear a0 a1 a2 a3 a4 a5
  refine start_ (n := 10) (S := fun w' => w'.cell? ⟨w.heap.size, 0, none⟩ = some (.string S)) (ds := []) #[false, false, false, false, false, false, false, false, false, false] (by kernel_rfl) rfl rfl s0 (fun hHeld => ?_)
  generalize w5.drew = u at *
  refine pure_ (i := 0) (N := some 75) (v := ?_) (a' := ?_) #[true, false, false, false, false, false, false, false, false, false] rfl rfl (by kernel_rfl) (fun _ _ _ h => h) (Or.inl ⟨by rfl, ?_⟩) ?_ ?_
  rotate_left
  · intro w'
    go_simp
    with_reducible rfl
  rotate_left
  · simp only [Act.put, List.setIfInBounds_toArray, List.set_cons_zero, List.set_cons_succ, i64_w, i32_w]
    rfl
  refine pure_ (i := 3) (N := some 78) (v := ?_) (a' := ?_) #[true, false, false, true, false, false, false, false, false, false] rfl rfl (by kernel_rfl) (fun _ _ _ h => h) (Or.inl ⟨by rfl, ?_⟩) ?_ ?_
  rotate_left
  · intro w'
    go_simp
    with_reducible rfl
  rotate_left
  · simp only [Act.put, List.setIfInBounds_toArray, List.set_cons_zero, List.set_cons_succ, i64_w, i32_w]
    rfl
  refine take_ (i := 1) (N := some 76) (v := ?_) (a' := ?_) #[true, true, false, true, false, false, false, false, false, false] rfl rfl (by kernel_rfl) (fun _ _ _ h => h) (Or.inl ⟨by rfl, ?_⟩) hHeld ?_ ?_
  rotate_left
  · rintro w' s0
    go_simp
    with_reducible rfl
  rotate_left
  · simp only [Act.put, List.setIfInBounds_toArray, List.set_cons_zero, List.set_cons_succ, i64_w, i32_w]
    rfl
  refine take_ (i := 4) (N := some 79) (v := ?_) (a' := ?_) #[true, true, false, true, true, false, false, false, false, false] rfl rfl (by kernel_rfl) (fun _ _ _ h => h) (Or.inl ⟨by rfl, ?_⟩) hHeld ?_ ?_
  rotate_left
  · rintro w' s0
    go_simp
    with_reducible rfl
  rotate_left
  · simp only [Act.put, List.setIfInBounds_toArray, List.set_cons_zero, List.set_cons_succ, i64_w, i32_w]
    rfl
  refine pure_ (i := 5) (N := some 80) (v := ?_) (a' := ?_) #[true, true, false, true, true, true, false, false, false, false] rfl rfl (by kernel_rfl) (fun _ _ _ h => h) (Or.inl ⟨by rfl, ?_⟩) ?_ ?_
  rotate_left
  · intro w'
    go_simp
    with_reducible rfl
  rotate_left
  · simp only [Act.put, List.setIfInBounds_toArray, List.set_cons_zero, List.set_cons_succ, i64_w, i32_w]
    rfl
  refine pure_ (i := 6) (N := some 81) (v := ?_) (a' := ?_) #[true, true, false, true, true, true, true, false, false, false] rfl rfl (by kernel_rfl) (fun _ _ _ h => h) (Or.inl ⟨by rfl, ?_⟩) ?_ ?_
  rotate_left
  · intro w'
    go_simp
    with_reducible rfl
  rotate_left
  · simp only [Act.put, List.setIfInBounds_toArray, List.set_cons_zero, List.set_cons_succ, i64_w, i32_w, hw16]
    rfl
  refine two_ (i := 2) (j := 7) (Ni := some 77) (Nj := some 82) #[true, true, true, true, true, true, true, false, false, false] #[true, true, false, true, true, true, true, true, false, false] rfl rfl rfl rfl (by kernel_rfl) (by decide) (by decide) (fun Kk hK => ?_) (fun Kk hK => ?_)
  · refine value_ (w1 := bytesW u S) (v := .slice (some ⟨u.heap.size, 0, none⟩) S.size (grownCap u S.size 0 5)) (by rfl) rfl (by have kc := conv_bytes u S; first | (go_simp; done) | (go_simp; simp only [kc, Result.andThen_ok]; done) | (go_simp; simp only [kc, Result.andThen_ok]; rfl)) ?_
    have sA := pw_cell_below (bytesW_below u S) s0
    have hst := EncSt.first u S (by omega)
    refine hK _ _ sA (fun hHeld => ?_)
    clear hK Kk
    refine norm_ (a' := ?_) ?_ ?_
    rotate_left
    · show Act.put _ (some 77) _ = _
      simp only [Act.put, List.setIfInBounds_toArray, List.set_cons_zero, List.set_cons_succ, i64_w, i32_w]
      rfl
    refine one_ (i := 7) (N := some 82) #[true, true, true, true, true, true, true, true, false, false] rfl rfl (by kernel_rfl) (by decide) (fun Kk hK => ?_)
    refine goes_ Tryd.func54 (by kernel_rfl) rfl #[.int .i64 ((16 - S.size : Nat) : Int)] (by rfl) rfl rfl (by first | rfl | (simp only [List.map_toArray, List.map_cons, List.map_nil]; rfl)) ?_
    with_reducible refine (HSP.out _).mono ?_
    rintro e y ⟨v7, rfl, hv, hb⟩
    refine ⟨_, rfl, ?_⟩
    obtain ⟨A7, c7, rfl⟩ := Kd.R_slice hv
    have hst' := EncSt.below hst hb
    refine hK _ _ (pw_cell_below hst'.1 s0) (fun hHeld => ?_)
    have hc7 := Rw.row (Rw.of_R hv)
    have HCC := Lib.hid hc7
    have HST := Lib.hid hst'
    clear hK Kk hv hb hst hst' hc7
    generalize u.heap.size = B at HST ⊢
    refine norm_ (a' := ?_) ?_ ?_
    rotate_left
    · show Act.put _ (some 82) _ = _
      simp only [Act.put, List.setIfInBounds_toArray, List.set_cons_zero, List.set_cons_succ, i64_w, i32_w]
      rfl
    have hx := HCC.out
    obtain ⟨HU, HUB, HBS, HO⟩ := HST.out
    refine one_ (i := 8) (N := some 83) #[true, true, true, true, true, true, true, true, true, false] rfl rfl (by kernel_rfl) (by decide) (fun Kk hK => ?_)
    refine step_append_Rw (by rfl) (.tmp 77) (.tmp 82) rfl _ _ (bytesOf S) (by rfl) HO A7 c7 (List.replicate (16 - S.size) 32) (by rfl) hx (by rw [bytesOf_length, List.length_replicate]; have := hsz; omega) HBS ?_
    intro v8 u8 ho hg
    have hst8 := EncSt.step HST.out ho hg
    have s8 : u8.cell? ⟨w.heap.size, 0, none⟩ = some (.string S) := pw_cell_below hst8.1 s0
    replace HST := Lib.hid hst8
    refine hK _ _ s8 (fun hHeld => ?_)
    clear hK Kk hx ho hg hst8 HU HUB HBS HO
    refine norm_ (a' := ?_) ?_ ?_
    rotate_left
    · show Act.put _ (some 83) _ = _
      simp only [Act.put, List.setIfInBounds_toArray, List.set_cons_zero, List.set_cons_succ, i64_w, i32_w]
      rfl
    refine pure_ (i := 9) (N := some 15) (v := ?_) (a' := ?_) #[true, true, true, true, true, true, true, true, true, true] rfl rfl (by kernel_rfl) (fun _ _ _ h => h) (Or.inl ⟨by rfl, ?_⟩) ?_ ?_
    rotate_left
    · intro w'
      go_simp
      with_reducible rfl
    rotate_left
    · simp only [Act.put, List.setIfInBounds_toArray, List.set_cons_zero, List.set_cons_succ, i64_w, i32_w]
      rfl
    refine done_ (by kernel_rfl) ?_
    go_wp2_with (first
        | (at_builtin; have hx := Rw.row (HV0.out.go HST.out.1); refine wpList_append_Rw rfl _ _ rfl _ _ _ (by rfl) HST.out.2.2.2 A0 c0 L0 (by rfl) hx (by have := hsz; have := HL.out; simp only [List.length_append, bytesOf_length, List.length_replicate]; omega) HST.out.2.2.1 ?_; intro v9 u9 ho hg; replace HST := Lib.hid (EncSt.step HST.out ho hg); clear ho hg hx)
        | (at_builtin; have hx := Rw.row (HV1.out.go HST.out.1); refine wpList_append_Rw rfl _ _ rfl _ _ _ (by rfl) HST.out.2.2.2 A1 c1 L1 (by rfl) hx (by have := hsz; have := HL.out; simp only [List.length_append, bytesOf_length, List.length_replicate]; omega) HST.out.2.2.1 ?_; intro v10 u10 ho hg; replace HST := Lib.hid (EncSt.step HST.out ho hg); clear ho hg hx)
        | (at_builtin; have hx := Rw.row (HV2.out.go HST.out.1); refine wpList_append_Rw rfl _ _ rfl _ _ _ (by rfl) HST.out.2.2.2 A2 c2 L2 (by rfl) hx (by have := hsz; have := HL.out; simp only [List.length_append, bytesOf_length, List.length_replicate]; omega) HST.out.2.2.1 ?_; intro v11 u11 ho hg; replace HST := Lib.hid (EncSt.step HST.out ho hg); clear ho hg hx)
        | (at_builtin; have hx := Rw.row (HV3.out.go HST.out.1); refine wpList_append_Rw rfl _ _ rfl _ _ _ (by rfl) HST.out.2.2.2 A3 c3 L3 (by rfl) hx (by have := hsz; have := HL.out; simp only [List.length_append, bytesOf_length, List.length_replicate]; omega) HST.out.2.2.1 ?_; intro v12 u12 ho hg; replace HST := Lib.hid (EncSt.step HST.out ho hg); clear ho hg hx)
        | (at_builtin; have hx := Rw.row (HV4.out.go HST.out.1); refine wpList_append_Rw rfl _ _ rfl _ _ _ (by rfl) HST.out.2.2.2 A4 c4 L4 (by rfl) hx (by have := hsz; have := HL.out; simp only [List.length_append, bytesOf_length, List.length_replicate]; omega) HST.out.2.2.1 ?_; intro v13 u13 ho hg; replace HST := Lib.hid (EncSt.step HST.out ho hg); clear ho hg hx)
        | (at_builtin; refine Hid.out ?_))
    refine Lib.hid ?_
    have hst := EncSt.below HST.out (below_alloc (Below.refl _ _) (.cells #[.int .u8 96, .int .u8 10] 5))
    have hx := two_row u13
    refine wpList_append_Rw rfl _ _ rfl _ _ _ (by rfl) hst.2.2.2 _ _ [96, 10] (by rfl) hx (by have := hsz; have := HL.out; simp only [List.length_append, bytesOf_length, List.length_replicate]; simp only [List.length_cons, List.length_nil]; omega) hst.2.2.1 ?_
    intro v14 u14 ho hg
    replace HST := Lib.hid (EncSt.step hst ho hg)
    clear ho hg hst hx
    go_wp2
    go_ret2
    exact ⟨_, rfl, HST.out.2.2.2.rw, below_step HB5d.out HST.out.1⟩
  · refine goes_ Tryd.func54 (by kernel_rfl) rfl #[.int .i64 ((16 - S.size : Nat) : Int)] (by rfl) rfl rfl (by first | rfl | (simp only [List.map_toArray, List.map_cons, List.map_nil]; rfl)) ?_
    with_reducible refine (HSP.out _).mono ?_
    rintro e y ⟨v7, rfl, hv, hb⟩
    refine ⟨_, rfl, ?_⟩
    obtain ⟨A7, c7, rfl⟩ := Kd.R_slice hv
    have hv7 := Rw.go (Rw.of_R hv) (bytesW_below y S)
    refine hK _ _ (pw_cell_below hb s0) (fun hHeld => ?_)
    clear hK Kk
    refine norm_ (a' := ?_) ?_ ?_
    rotate_left
    · show Act.put _ (some 82) _ = _
      simp only [Act.put, List.setIfInBounds_toArray, List.set_cons_zero, List.set_cons_succ, i64_w, i32_w]
      rfl
    refine one_ (i := 2) (N := some 77) #[true, true, true, true, true, true, true, true, false, false] rfl rfl (by kernel_rfl) (by decide) (fun Kk hK => ?_)
    refine value_ (w1 := bytesW y S) (v := .slice (some ⟨y.heap.size, 0, none⟩) S.size (grownCap y S.size 0 5)) (by rfl) rfl (by have kc := conv_bytes y S; first | (go_simp; done) | (go_simp; simp only [kc, Result.andThen_ok]; done) | (go_simp; simp only [kc, Result.andThen_ok]; rfl)) ?_
    have hst := EncSt.behind u y S (by omega) hb
    refine hK _ _ (pw_cell_below hst.1 s0) (fun hHeld => ?_)
    have hc7 := Rw.row hv7
    have HCC := Lib.hid hc7
    have HST := Lib.hid hst
    clear hK Kk hv hb hst hc7
    generalize bytesW y S = z at HST HCC ⊢
    refine norm_ (a' := ?_) ?_ ?_
    rotate_left
    · show Act.put _ (some 77) _ = _
      simp only [Act.put, List.setIfInBounds_toArray, List.set_cons_zero, List.set_cons_succ, i64_w, i32_w]
      rfl
    have hx := HCC.out
    obtain ⟨HU, HUB, HBS, HO⟩ := HST.out
    refine one_ (i := 8) (N := some 83) #[true, true, true, true, true, true, true, true, true, false] rfl rfl (by kernel_rfl) (by decide) (fun Kk hK => ?_)
    refine step_append_Rw (by rfl) (.tmp 77) (.tmp 82) rfl _ _ (bytesOf S) (by rfl) HO A7 c7 (List.replicate (16 - S.size) 32) (by rfl) hx (by rw [bytesOf_length, List.length_replicate]; have := hsz; omega) HBS ?_
    intro v8 u8 ho hg
    have hst8 := EncSt.step HST.out ho hg
    have s8 : u8.cell? ⟨w.heap.size, 0, none⟩ = some (.string S) := pw_cell_below hst8.1 s0
    replace HST := Lib.hid hst8
    refine hK _ _ s8 (fun hHeld => ?_)
    clear hK Kk hx ho hg hst8 HU HUB HBS HO
    refine norm_ (a' := ?_) ?_ ?_
    rotate_left
    · show Act.put _ (some 83) _ = _
      simp only [Act.put, List.setIfInBounds_toArray, List.set_cons_zero, List.set_cons_succ, i64_w, i32_w]
      rfl
    refine pure_ (i := 9) (N := some 15) (v := ?_) (a' := ?_) #[true, true, true, true, true, true, true, true, true, true] rfl rfl (by kernel_rfl) (fun _ _ _ h => h) (Or.inl ⟨by rfl, ?_⟩) ?_ ?_
    rotate_left
    · intro w'
      go_simp
      with_reducible rfl
    rotate_left
    · simp only [Act.put, List.setIfInBounds_toArray, List.set_cons_zero, List.set_cons_succ, i64_w, i32_w]
      rfl
    refine done_ (by kernel_rfl) ?_
    go_wp2_with (first
        | (at_builtin; have hx := Rw.row (HV0.out.go HST.out.1); refine wpList_append_Rw rfl _ _ rfl _ _ _ (by rfl) HST.out.2.2.2 A0 c0 L0 (by rfl) hx (by have := hsz; have := HL.out; simp only [List.length_append, bytesOf_length, List.length_replicate]; omega) HST.out.2.2.1 ?_; intro v9 u9 ho hg; replace HST := Lib.hid (EncSt.step HST.out ho hg); clear ho hg hx)
        | (at_builtin; have hx := Rw.row (HV1.out.go HST.out.1); refine wpList_append_Rw rfl _ _ rfl _ _ _ (by rfl) HST.out.2.2.2 A1 c1 L1 (by rfl) hx (by have := hsz; have := HL.out; simp only [List.length_append, bytesOf_length, List.length_replicate]; omega) HST.out.2.2.1 ?_; intro v10 u10 ho hg; replace HST := Lib.hid (EncSt.step HST.out ho hg); clear ho hg hx)
        | (at_builtin; have hx := Rw.row (HV2.out.go HST.out.1); refine wpList_append_Rw rfl _ _ rfl _ _ _ (by rfl) HST.out.2.2.2 A2 c2 L2 (by rfl) hx (by have := hsz; have := HL.out; simp only [List.length_append, bytesOf_length, List.length_replicate]; omega) HST.out.2.2.1 ?_; intro v11 u11 ho hg; replace HST := Lib.hid (EncSt.step HST.out ho hg); clear ho hg hx)
        | (at_builtin; have hx := Rw.row (HV3.out.go HST.out.1); refine wpList_append_Rw rfl _ _ rfl _ _ _ (by rfl) HST.out.2.2.2 A3 c3 L3 (by rfl) hx (by have := hsz; have := HL.out; simp only [List.length_append, bytesOf_length, List.length_replicate]; omega) HST.out.2.2.1 ?_; intro v12 u12 ho hg; replace HST := Lib.hid (EncSt.step HST.out ho hg); clear ho hg hx)
        | (at_builtin; have hx := Rw.row (HV4.out.go HST.out.1); refine wpList_append_Rw rfl _ _ rfl _ _ _ (by rfl) HST.out.2.2.2 A4 c4 L4 (by rfl) hx (by have := hsz; have := HL.out; simp only [List.length_append, bytesOf_length, List.length_replicate]; omega) HST.out.2.2.1 ?_; intro v13 u13 ho hg; replace HST := Lib.hid (EncSt.step HST.out ho hg); clear ho hg hx)
        | (at_builtin; refine Hid.out ?_))
    refine Lib.hid ?_
    have hst := EncSt.below HST.out (below_alloc (Below.refl _ _) (.cells #[.int .u8 96, .int .u8 10] 5))
    have hx := two_row u13
    refine wpList_append_Rw rfl _ _ rfl _ _ _ (by rfl) hst.2.2.2 _ _ [96, 10] (by rfl) hx (by have := hsz; have := HL.out; simp only [List.length_append, bytesOf_length, List.length_replicate]; simp only [List.length_cons, List.length_nil]; omega) hst.2.2.1 ?_
    intro v14 u14 ho hg
    replace HST := Lib.hid (EncSt.step hst ho hg)
    clear ho hg hst hx
    go_wp2
    go_ret2
    exact ⟨_, rfl, HST.out.2.2.2.rw, below_step HB5d.out HST.out.1⟩
theorem encode_in (S : ByteArray) (n0 n1 n2 n3 n4 : Int) (w : World) (hn0 : n0 < 9223372036854775808) (hn1 : n1 < 9223372036854775808) (hn2 : n2 < 9223372036854775808) (hn3 : n3 < 9223372036854775808) (hn4 : n4 < 9223372036854775808) :
    Calls Tryd.prog 32 #[argH S n0 n1 n2 n3 n4] w (EncSays w (encodeV S n0 n1 n2 n3 n4)) := by
  unfold encodeV
  split
  · rename_i h; exact encode_name S n0 n1 n2 n3 n4 w h
  · rename_i h
    have h' : fitsV S = true := by simpa using h
    split
    · rename_i h2; exact encode_fit S n0 n1 n2 n3 n4 w h' hn0 hn1 hn2 hn3 hn4 h2
    · rename_i h2; exact encode_good S n0 n1 n2 n3 n4 w h' hn0 hn1 hn2 hn3 hn4 (by rw [Bool.not_eq_false] at h2; exact h2)
end Go.Proofs.YtjiokdkgbnakhaaDoor.Own
end TEnc
section TAwakeE
set_option linter.unusedVariables false
set_option linter.unusedSimpArgs false
namespace Go.Proofs.YtjiokdkgbnakhaaDoor.Own
open Go.RowKit Go.Proofs.YtjiokdkgbnakhaaDoor Go.Proofs.YtjiokdkgbnakhaaDoorW.PrintWords Go.Proofs.YtjiokdkgbnakhaaDoorW.PrintLast Go.Proofs.YtjiokdkgbnakhaaDoorW.PrintMore
def aS : ByteArray := ⟨#[97, 46, 111, 47]⟩
def aN : ByteArray := ⟨#[97, 46, 111]⟩
def aH : List Int := (encodeV aS 0 0 0 0 3).1
def aB : List Int := magicL ++ aH ++ [120, 121, 122, 10]
set_option maxRecDepth 100000
theorem aE : encodeV aS 0 0 0 0 3 = (aH, 0) := by decide +kernel
theorem aHl : aH.length = 60 := by decide +kernel
theorem aBl : aB.length = 72 := by decide +kernel
theorem aAdd : K.arlinkref01_Add.f magicL aH = some (magicL ++ aH) := by decide +kernel
theorem aP1 : parseA aB = (false, [], [⟨aN, 0, 0, 0, 0, [120, 121, 122]⟩], [8], 0, 0) := by kernel_rfl
theorem aP2 : parseA magicL = (false, [], [], [], 0, 0) := by kernel_rfl
theorem aP3 : parseA (magicL ++ [120]) = (false, [], [], [], 8, 2) := by kernel_rfl
theorem aP4 : parseA (aB.take 71) = (false, [], [], [], 8, 2) := by kernel_rfl
theorem aF2 : arparse_Parse.f magicL = some (false, [], [], [], 0, 0) := by unfold arparse_Parse.f; rw [if_pos ⟨by decide +kernel, by decide⟩, aP2]
theorem aF3 : arparse_Parse.f (magicL ++ [120]) = some (false, [], [], [], 8, 2) := by unfold arparse_Parse.f; rw [if_pos ⟨by decide +kernel, by decide⟩, aP3]
theorem aF4 : arparse_Parse.f (aB.take 71) = some (false, [], [], [], 8, 2) := by unfold arparse_Parse.f; rw [if_pos ⟨by decide +kernel, by rw [List.length_take, aBl]; decide⟩, aP4]
theorem aB1 : isBytes aB = true := by decide +kernel
theorem aSame : K.arlinkref04_SameMember.f 9 aN 0 0 0 0 [120, 121, 122] aN 0 0 0 0 [120, 121, 122] = some true := by decide +kernel
theorem aI1 : K.arparse_Is.f aB = some true := by decide +kernel
theorem aI2 : K.arparse_Is.f [] = some false := by decide +kernel
theorem aF1 : arparse_Parse.f aB = some (false, [], [⟨aN, 0, 0, 0, 0, [120, 121, 122]⟩], [8], 0, 0) := by unfold arparse_Parse.f; rw [if_pos ⟨aB1, by rw [aBl]; decide⟩, aP1]
end Go.Proofs.YtjiokdkgbnakhaaDoor.Own
end TAwakeE
