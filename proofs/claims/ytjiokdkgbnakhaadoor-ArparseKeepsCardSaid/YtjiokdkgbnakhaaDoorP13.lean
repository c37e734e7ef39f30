/- Packed by a program of our own: the texts that the card of this claim needs, part 4 of 7; conditions: those of each theorem. -/
import Derived.Test.YtjiokdkgbnakhaaDoorP12
section TKx27
namespace Go.Proofs.YtjiokdkgbnakhaaDoor.Own
end Go.Proofs.YtjiokdkgbnakhaaDoor.Own
namespace Go.Proofs.YtjiokdkgbnakhaaDoor.K
open Go.RowKit Go.Proofs.YtjiokdkgbnakhaaDoorW.PrintWords Go.Proofs.YtjiokdkgbnakhaaDoorW.PrintLast Go.Proofs.YtjiokdkgbnakhaaDoorW.PrintMore Go.Proofs.YtjiokdkgbnakhaaDoor.Own
attribute [local go_sem] max2_int min2_int max_two min_two max_three min_three max_four min_four
set_option linter.unusedVariables false
set_option linter.unusedSimpArgs false
def arparse_next.f (l0 : List Int) : Option (ByteArray × Int × Int × Int × Int × Int × List Int × Int × Int) := (header_Decode.f l0).bind fun bt658 => (if bt658.2.2.2.2.2.2 = 0 then (if (wrap64 ((wrap64 (60 + bt658.2.2.2.2.2.1)) + (Int.tmod bt658.2.2.2.2.2.1 2))) > (l0.length : Int) then (some ((⟨#[]⟩ : ByteArray), 0, 0, 0, 0, 0, ([] : List Int), 2, 0)) else (if (Int.tmod bt658.2.2.2.2.2.1 2) = 0 then (if 60 ≤ (wrap64 (60 + bt658.2.2.2.2.2.1)) then (if (wrap64 (60 + bt658.2.2.2.2.2.1)) ≤ (l0.length : Int) then ((slices_Clone_byte_byte.f ((l0.take ((wrap64 (60 + bt658.2.2.2.2.2.1)) : Int).toNat).drop 60)).bind fun t667 => (some (bt658.1, bt658.2.1, bt658.2.2.1, bt658.2.2.2.1, bt658.2.2.2.2.1, bt658.2.2.2.2.2.1, t667, 0, wrap64 ((wrap64 (60 + bt658.2.2.2.2.2.1)) + (Int.tmod bt658.2.2.2.2.2.1 2))))) else (none)) else (none)) else (if 0 ≤ (wrap64 (60 + bt658.2.2.2.2.2.1)) then (if (wrap64 (60 + bt658.2.2.2.2.2.1)) < (l0.length : Int) then (if (rd l0 (wrap64 (60 + bt658.2.2.2.2.2.1))) = 10 then (if 60 ≤ (wrap64 (60 + bt658.2.2.2.2.2.1)) then (if (wrap64 (60 + bt658.2.2.2.2.2.1)) ≤ (l0.length : Int) then ((slices_Clone_byte_byte.f ((l0.take ((wrap64 (60 + bt658.2.2.2.2.2.1)) : Int).toNat).drop 60)).bind fun t672 => (some (bt658.1, bt658.2.1, bt658.2.2.1, bt658.2.2.2.1, bt658.2.2.2.2.1, bt658.2.2.2.2.2.1, t672, 0, wrap64 ((wrap64 (60 + bt658.2.2.2.2.2.1)) + (Int.tmod bt658.2.2.2.2.2.1 2))))) else (none)) else (none)) else (some ((⟨#[]⟩ : ByteArray), 0, 0, 0, 0, 0, ([] : List Int), 5, 0))) else (none)) else (none)))) else (some ((⟨#[]⟩ : ByteArray), 0, 0, 0, 0, 0, ([] : List Int), bt658.2.2.2.2.2.2, 0)))
def arparse_next.T9 : Bool × List (List Nat × List Nat) := (true, [([], []), ([], []), ([], []), ([1, 2], [1, 2]), ([3], [3]), ([0, 4], [0, 4]), ([], []), ([], []), ([7], [7]), ([8], [8]), ([6, 9], [6, 9]), ([5, 4, 0, 1, 2, 3, 4, 5], [5]), ([10, 11, 0, 1, 2, 3, 4, 5, 6, 7, 8, 9, 10, 11], [10])])
def arparse_next.B9 : List Nat := [0, 0, 0, 6, 14, 31, 0, 0, 128, 384, 960, 63, 4095]
theorem arparse_next.tab9 : rtab .any (opsOf Tryd.f65 9) = arparse_next.T9 := by kernel_rfl
theorem arparse_next.bits9 : waitsOk arparse_next.T9.2 arparse_next.B9 = true := by kernel_rfl
set_option maxHeartbeats 8000000 in
set_option maxRecDepth 100000 in
theorem arparse_next.calls (A0 : Option Addr) (c0 : Nat) (l0 : List Int) (r1 : ByteArray) (r2 : Int) (r3 : Int) (r4 : Int) (r5 : Int) (r6 : Int) (r7 : List Int) (r8 : Int) (r9 : Int) (w : World) (hr0 : Kd.C (Kd.int .u8) w A0 l0.length l0) (hc0 : l0.length ≤ c0) (h : arparse_next.f l0 = some (r1, r2, r3, r4, r5, r6, r7, r8, r9)) :
    Calls Tryd.prog 65 #[.slice A0 l0.length c0] w fun e w' => ∃ v6_ : Value, e = .returned (.tuple #[.agg #[.string r1, .int .i64 r2, .int .i64 r3, .int .i64 r4, .int .i64 r5, .int .i64 r6, v6_, .int .i64 r8], .int .i64 r9]) ∧ Kd.R (Kd.int .u8) 5 w' w.heap.size (fun _ => True) v6_ r7 ∧ Below w.heap.size w w' := by
  have hu86 := Tryd.underlying86
  have hu84 := Tryd.underlying84
  have HR0 := Aside0.mk hr0
  have HC0 := Aside0.mk hc0
  clear hr0 hc0
  have HB := Aside0.mk (Below.refl w.heap.size w)
  have H : ((header_Decode.f l0).bind fun bt658 => (if bt658.2.2.2.2.2.2 = 0 then (if (wrap64 ((wrap64 (60 + bt658.2.2.2.2.2.1)) + (Int.tmod bt658.2.2.2.2.2.1 2))) > (l0.length : Int) then (some ((⟨#[]⟩ : ByteArray), 0, 0, 0, 0, 0, ([] : List Int), 2, 0)) else (if (Int.tmod bt658.2.2.2.2.2.1 2) = 0 then (if 60 ≤ (wrap64 (60 + bt658.2.2.2.2.2.1)) then (if (wrap64 (60 + bt658.2.2.2.2.2.1)) ≤ (l0.length : Int) then ((slices_Clone_byte_byte.f ((l0.take ((wrap64 (60 + bt658.2.2.2.2.2.1)) : Int).toNat).drop 60)).bind fun t667 => (some (bt658.1, bt658.2.1, bt658.2.2.1, bt658.2.2.2.1, bt658.2.2.2.2.1, bt658.2.2.2.2.2.1, t667, 0, wrap64 ((wrap64 (60 + bt658.2.2.2.2.2.1)) + (Int.tmod bt658.2.2.2.2.2.1 2))))) else (none)) else (none)) else (if 0 ≤ (wrap64 (60 + bt658.2.2.2.2.2.1)) then (if (wrap64 (60 + bt658.2.2.2.2.2.1)) < (l0.length : Int) then (if (rd l0 (wrap64 (60 + bt658.2.2.2.2.2.1))) = 10 then (if 60 ≤ (wrap64 (60 + bt658.2.2.2.2.2.1)) then (if (wrap64 (60 + bt658.2.2.2.2.2.1)) ≤ (l0.length : Int) then ((slices_Clone_byte_byte.f ((l0.take ((wrap64 (60 + bt658.2.2.2.2.2.1)) : Int).toNat).drop 60)).bind fun t672 => (some (bt658.1, bt658.2.1, bt658.2.2.1, bt658.2.2.2.1, bt658.2.2.2.2.1, bt658.2.2.2.2.2.1, t672, 0, wrap64 ((wrap64 (60 + bt658.2.2.2.2.2.1)) + (Int.tmod bt658.2.2.2.2.2.1 2))))) else (none)) else (none)) else (some ((⟨#[]⟩ : ByteArray), 0, 0, 0, 0, 0, ([] : List Int), 5, 0))) else (none)) else (none)))) else (some ((⟨#[]⟩ : ByteArray), 0, 0, 0, 0, 0, ([] : List Int), bt658.2.2.2.2.2.2, 0)))) = some (r1, r2, r3, r4, r5, r6, r7, r8, r9) := h
  clear h
  replace H := Option.bind_eq_some_iff.mp H
  obtain ⟨⟨t658, t659, t660, t661, t662, t663, t664⟩, A20, H⟩ := H
  replace H : (if t664 = 0 then (if (wrap64 ((wrap64 (60 + t663)) + (Int.tmod t663 2))) > (l0.length : Int) then (some ((⟨#[]⟩ : ByteArray), 0, 0, 0, 0, 0, ([] : List Int), 2, 0)) else (if (Int.tmod t663 2) = 0 then (if 60 ≤ (wrap64 (60 + t663)) then (if (wrap64 (60 + t663)) ≤ (l0.length : Int) then ((slices_Clone_byte_byte.f ((l0.take ((wrap64 (60 + t663)) : Int).toNat).drop 60)).bind fun t667 => (some (t658, t659, t660, t661, t662, t663, t667, 0, wrap64 ((wrap64 (60 + t663)) + (Int.tmod t663 2))))) else (none)) else (none)) else (if 0 ≤ (wrap64 (60 + t663)) then (if (wrap64 (60 + t663)) < (l0.length : Int) then (if (rd l0 (wrap64 (60 + t663))) = 10 then (if 60 ≤ (wrap64 (60 + t663)) then (if (wrap64 (60 + t663)) ≤ (l0.length : Int) then ((slices_Clone_byte_byte.f ((l0.take ((wrap64 (60 + t663)) : Int).toNat).drop 60)).bind fun t672 => (some (t658, t659, t660, t661, t662, t663, t672, 0, wrap64 ((wrap64 (60 + t663)) + (Int.tmod t663 2))))) else (none)) else (none)) else (some ((⟨#[]⟩ : ByteArray), 0, 0, 0, 0, 0, ([] : List Int), 5, 0))) else (none)) else (none)))) else (some ((⟨#[]⟩ : ByteArray), 0, 0, 0, 0, 0, ([] : List Int), t664, 0))) = some (r1, r2, r3, r4, r5, r6, r7, r8, r9) := H
  have A2 := Aside0.mk A20
  clear A20
  by_cases c3 : t664 = 0
  · rw [if_pos c3] at H
    have c3b0 : (t664 == 0) = true := beq_iff_eq.mpr c3
    have c3b1 : (t664 != 0) = false := bne_eq_false_iff_eq.mpr c3
    clear c3
    by_cases c4 : (wrap64 ((wrap64 (60 + t663)) + (Int.tmod t663 2))) > (l0.length : Int)
    · rw [if_pos c4] at H
      have c4b0 : decide ((l0.length : Int) < (wrap64 ((wrap64 (60 + t663)) + (Int.tmod t663 2)))) = true := decide_eq_true c4
      clear c4
      simp only [Option.some.injEq, Prod.mk.injEq] at H
      obtain ⟨rfl, rfl, rfl, rfl, rfl, rfl, rfl, rfl, rfl⟩ := H
      go_enter Tryd.func65, Tryd.ntmps65
      go_wp2_with (first | ((with_reducible refine gate_dst (N := 2) rfl ?_); refine box_event ?hg (N := 2) ?hd (cs := #[.string (⟨#[]⟩ : ByteArray), .int .i64 0, .int .i64 0, .int .i64 0, .int .i64 0, .int .i64 0, .slice none 0 0, .int .i64 0]) (t := 86) ?hr ?_; (case hd => rfl); (case hg => rfl); (case hr => first | (go_simp; done) | (go_simp; rfl)); intro gb657 hg w5 hbox hb; have n0_ := Aside0.mk (below_step (by repeat (first | (with_reducible first | exact HB.out | apply below_alloc | apply pw_below_drewN | apply below_drew1) | exact HB.out)) hb); have n1_ := Aside0.mk (hbox); have n2_ := Aside0.mk ((by rw [hg]; exact (below_size (by repeat (first | (with_reducible first | exact HB.out | apply below_alloc | apply pw_below_drewN | apply below_drew1) | exact HB.out))) : w.heap.size ≤ gb657)); have n3_ := Aside0.mk ((by rw [hg]; exact (below_size (by repeat (first | (with_reducible first | exact HB.out | apply below_alloc | apply pw_below_drewN | apply below_drew1) | exact HB.out))) : w.heap.size ≤ gb657)); clear HB; have HB := n0_; have BK657 := n1_; have GW657 := n2_; have GE657 := n3_; clear n0_ n1_ n2_ n3_; clear hb hbox hg) | ((with_reducible refine gate_callee (f := 78) rfl ?_); refine goesL_ (some 9) rfl rfl Tryd.func78 (by kernel_rfl) rfl #[.slice A0 l0.length c0] rfl (by (try simp only [List.map_toArray, List.map_cons, List.map_nil]); first | done | rfl | (simp only [List.length_drop, List.length_take]; rfl)) ?_; (with_reducible refine (header_Decode.calls _ _ l0 t658 t659 t660 t661 t662 t663 t664 _ ?side1 ?side2 A2.out).mono ?_); (case side1 => repeat (first | exact (Kd.C_below HR0.out HB.out) | (with_reducible refine Kd.C_alloc ?_ _) | (with_reducible refine Kd.C_drewN ?_ _) | (with_reducible refine Kd.C_drew ?_))); (case side2 => exact HC0.out); rintro e w6 ⟨rfl, hb⟩; refine ⟨_, rfl, ?_⟩; have n0_ := Aside0.mk (blk_below (g := gb657) (o := .cells #[.string (⟨#[]⟩ : ByteArray), .int .i64 0, .int .i64 0, .int .i64 0, .int .i64 0, .int .i64 0, .slice none 0 0, .int .i64 0] 86 (0, 0)) (by (with_reducible repeat (first | refine blk_drewN ?_ _ | refine blk_drew ?_ | refine blk_alloc ?_ _)); exact BK657.out) hb); have n1_ := Aside0.mk (below_step (by repeat (first | (with_reducible first | exact HB.out | apply below_alloc | apply pw_below_drewN | apply below_drew1 | refine below_set ?_ GE657.out) | exact HB.out)) hb); clear BK657; clear HB; have BK657 := n0_; have HB := n1_; clear n0_ n1_; (try clear hb); (try clear hb2); (try clear hk); (try clear hi)) | ((with_reducible refine gate_dst (N := 4) rfl ?_); refine box_event ?hg (N := 4) ?hd (cs := #[.string (⟨#[]⟩ : ByteArray), .int .i64 0, .int .i64 0, .int .i64 0, .int .i64 0, .int .i64 0]) (t := 84) ?hr ?_; (case hd => rfl); (case hg => rfl); (case hr => first | (go_simp; done) | (go_simp; rfl)); intro gb665 hg w7 hbox hb; have n0_ := Aside0.mk (blk_below (g := gb657) (o := .cells #[.string (⟨#[]⟩ : ByteArray), .int .i64 0, .int .i64 0, .int .i64 0, .int .i64 0, .int .i64 0, .slice none 0 0, .int .i64 0] 86 (0, 0)) (by (with_reducible repeat (first | refine blk_drewN ?_ _ | refine blk_drew ?_ | refine blk_alloc ?_ _)); exact BK657.out) hb); have n1_ := Aside0.mk (below_step (by repeat (first | (with_reducible first | exact HB.out | apply below_alloc | apply pw_below_drewN | apply below_drew1 | refine below_set ?_ GE657.out) | exact HB.out)) hb); have n2_ := Aside0.mk (hbox); have n3_ := Aside0.mk ((by rw [hg]; exact (below_size (by repeat (first | (with_reducible first | exact HB.out | apply below_alloc | apply pw_below_drewN | apply below_drew1 | refine below_set ?_ GE657.out) | exact HB.out))) : w.heap.size ≤ gb665)); have n4_ := Aside0.mk ((by rw [hg]; exact (below_size (by repeat (first | (with_reducible first | exact HB.out | apply below_alloc | apply pw_below_drewN | apply below_drew1 | refine below_set ?_ GE657.out) | exact HB.out))) : w.heap.size ≤ gb665)); have n5_ := Aside0.mk ((by rw [hg]; exact Nat.ne_of_lt (blk_lt (g := gb657) (o := .cells #[.string (⟨#[]⟩ : ByteArray), .int .i64 0, .int .i64 0, .int .i64 0, .int .i64 0, .int .i64 0, .slice none 0 0, .int .i64 0] 86 (0, 0)) (by (with_reducible repeat (first | refine blk_drewN ?_ _ | refine blk_drew ?_ | refine blk_alloc ?_ _)); exact BK657.out)) : gb657 ≠ gb665)); have n6_ := Aside0.mk ((by rw [hg]; exact Nat.ne_of_gt (blk_lt (g := gb657) (o := .cells #[.string (⟨#[]⟩ : ByteArray), .int .i64 0, .int .i64 0, .int .i64 0, .int .i64 0, .int .i64 0, .slice none 0 0, .int .i64 0] 86 (0, 0)) (by (with_reducible repeat (first | refine blk_drewN ?_ _ | refine blk_drew ?_ | refine blk_alloc ?_ _)); exact BK657.out)) : gb665 ≠ gb657)); clear BK657; clear HB; have BK657 := n0_; have HB := n1_; have BK665 := n2_; have GW665 := n3_; have GE665 := n4_; have NB657_665 := n5_; have NB665_657 := n6_; clear n0_ n1_ n2_ n3_ n4_ n5_ n6_; clear hb hbox hg; have hnb8 := NB665_657.out; have hnc8 := NB657_665.out; have hcz9_0 : w7.cell? ⟨gb665, 0, none⟩ = some (.string (⟨#[]⟩ : ByteArray)) := (blk_cell BK665.out 0).trans rfl; have hcz9_1 : w7.cell? ⟨gb665, 1, none⟩ = some (.int .i64 0) := (blk_cell BK665.out 1).trans rfl; have hcz9_2 : w7.cell? ⟨gb665, 2, none⟩ = some (.int .i64 0) := (blk_cell BK665.out 2).trans rfl; have hcz9_3 : w7.cell? ⟨gb665, 3, none⟩ = some (.int .i64 0) := (blk_cell BK665.out 3).trans rfl; have hcz9_4 : w7.cell? ⟨gb665, 4, none⟩ = some (.int .i64 0) := (blk_cell BK665.out 4).trans rfl; have hcz9_5 : w7.cell? ⟨gb665, 5, none⟩ = some (.int .i64 0) := (blk_cell BK665.out 5).trans rfl; have hfz9_0 := blk_frozen BK665.out 0; have hfz9_1 := blk_frozen BK665.out 1; have hfz9_2 := blk_frozen BK665.out 2; have hfz9_3 := blk_frozen BK665.out 3; have hfz9_4 := blk_frozen BK665.out 4; have hfz9_5 := blk_frozen BK665.out 5; have hcz10_0 : w7.cell? ⟨gb657, 0, none⟩ = some (.string (⟨#[]⟩ : ByteArray)) := (blk_cell BK657.out 0).trans rfl; have hcz10_1 : w7.cell? ⟨gb657, 1, none⟩ = some (.int .i64 0) := (blk_cell BK657.out 1).trans rfl; have hcz10_2 : w7.cell? ⟨gb657, 2, none⟩ = some (.int .i64 0) := (blk_cell BK657.out 2).trans rfl; have hcz10_3 : w7.cell? ⟨gb657, 3, none⟩ = some (.int .i64 0) := (blk_cell BK657.out 3).trans rfl; have hcz10_4 : w7.cell? ⟨gb657, 4, none⟩ = some (.int .i64 0) := (blk_cell BK657.out 4).trans rfl; have hcz10_5 : w7.cell? ⟨gb657, 5, none⟩ = some (.int .i64 0) := (blk_cell BK657.out 5).trans rfl; have hcz10_6 : w7.cell? ⟨gb657, 6, none⟩ = some (.slice none 0 0) := (blk_cell BK657.out 6).trans rfl; have hcz10_7 : w7.cell? ⟨gb657, 7, none⟩ = some (.int .i64 0) := (blk_cell BK657.out 7).trans rfl; have hfz10_0 := blk_frozen BK657.out 0; have hfz10_1 := blk_frozen BK657.out 1; have hfz10_2 := blk_frozen BK657.out 2; have hfz10_3 := blk_frozen BK657.out 3; have hfz10_4 := blk_frozen BK657.out 4; have hfz10_5 := blk_frozen BK657.out 5; have hfz10_6 := blk_frozen BK657.out 6; have hfz10_7 := blk_frozen BK657.out 7))
      refine bodyPost_ret (results_ct rfl _ _ gb657 86 #[.string (⟨#[]⟩ : ByteArray), .int .i64 0, .int .i64 0, .int .i64 0, .int .i64 0, .int .i64 0, .slice none 0 0, .int .i64 2] (0, 0) _ rfl (by (with_reducible repeat (first | refine blk_drewN ?_ _ | refine blk_drew ?_ | refine blk_alloc ?_ _)); refine blk_put (cs := #[.string (⟨#[]⟩ : ByteArray), .int .i64 0, .int .i64 0, .int .i64 0, .int .i64 0, .int .i64 0, .slice none 0 0, .int .i64 0]) ?_ 7 _ rfl; (with_reducible repeat (first | refine blk_drewN ?_ _ | refine blk_drew ?_ | refine blk_alloc ?_ _)); refine blk_put (cs := #[.string (⟨#[]⟩ : ByteArray), .int .i64 0, .int .i64 0, .int .i64 0, .int .i64 0, .int .i64 0, .slice none 0 0, .int .i64 0]) ?_ 6 _ rfl; (with_reducible repeat (first | refine blk_drewN ?_ _ | refine blk_drew ?_ | refine blk_alloc ?_ _)); refine blk_put (cs := #[.string (⟨#[]⟩ : ByteArray), .int .i64 0, .int .i64 0, .int .i64 0, .int .i64 0, .int .i64 0, .slice none 0 0, .int .i64 0]) ?_ 5 _ rfl; (with_reducible repeat (first | refine blk_drewN ?_ _ | refine blk_drew ?_ | refine blk_alloc ?_ _)); refine blk_put (cs := #[.string (⟨#[]⟩ : ByteArray), .int .i64 0, .int .i64 0, .int .i64 0, .int .i64 0, .int .i64 0, .slice none 0 0, .int .i64 0]) ?_ 4 _ rfl; (with_reducible repeat (first | refine blk_drewN ?_ _ | refine blk_drew ?_ | refine blk_alloc ?_ _)); refine blk_put (cs := #[.string (⟨#[]⟩ : ByteArray), .int .i64 0, .int .i64 0, .int .i64 0, .int .i64 0, .int .i64 0, .slice none 0 0, .int .i64 0]) ?_ 3 _ rfl; (with_reducible repeat (first | refine blk_drewN ?_ _ | refine blk_drew ?_ | refine blk_alloc ?_ _)); refine blk_put (cs := #[.string (⟨#[]⟩ : ByteArray), .int .i64 0, .int .i64 0, .int .i64 0, .int .i64 0, .int .i64 0, .slice none 0 0, .int .i64 0]) ?_ 2 _ rfl; (with_reducible repeat (first | refine blk_drewN ?_ _ | refine blk_drew ?_ | refine blk_alloc ?_ _)); refine blk_put (cs := #[.string (⟨#[]⟩ : ByteArray), .int .i64 0, .int .i64 0, .int .i64 0, .int .i64 0, .int .i64 0, .slice none 0 0, .int .i64 0]) ?_ 1 _ rfl; (with_reducible repeat (first | refine blk_drewN ?_ _ | refine blk_drew ?_ | refine blk_alloc ?_ _)); refine blk_put (cs := #[.string (⟨#[]⟩ : ByteArray), .int .i64 0, .int .i64 0, .int .i64 0, .int .i64 0, .int .i64 0, .slice none 0 0, .int .i64 0]) ?_ 0 _ rfl; (with_reducible repeat (first | refine blk_drewN ?_ _ | refine blk_drew ?_ | refine blk_alloc ?_ _)); refine blk_far ?_ NB657_665.out _; (with_reducible repeat (first | refine blk_drewN ?_ _ | refine blk_drew ?_ | refine blk_alloc ?_ _)); refine blk_far ?_ NB657_665.out _; (with_reducible repeat (first | refine blk_drewN ?_ _ | refine blk_drew ?_ | refine blk_alloc ?_ _)); refine blk_far ?_ NB657_665.out _; (with_reducible repeat (first | refine blk_drewN ?_ _ | refine blk_drew ?_ | refine blk_alloc ?_ _)); refine blk_far ?_ NB657_665.out _; (with_reducible repeat (first | refine blk_drewN ?_ _ | refine blk_drew ?_ | refine blk_alloc ?_ _)); refine blk_far ?_ NB657_665.out _; (with_reducible repeat (first | refine blk_drewN ?_ _ | refine blk_drew ?_ | refine blk_alloc ?_ _)); refine blk_far ?_ NB657_665.out _; (with_reducible repeat (first | refine blk_drewN ?_ _ | refine blk_drew ?_ | refine blk_alloc ?_ _)); exact BK657.out) Tryd.underlying86 rfl (by kernel_rfl)) rfl ?_
      exact ⟨_, by first | rfl | (simp [errW_none, errW_some] <;> rfl) | (simp [*, errW_none, errW_some] <;> rfl), by first | exact Kd.R_nil _ _ _ _ _ | exact Kd.N_nil _ _ _ _ _ | exact Kd.V_nil _ _ _ _ _ | exact Kd.Q_nil _ _ _ _ _ | exact Kd.S_nil _ _ _ _ _, by repeat (first | (with_reducible first | exact HB.out | apply below_alloc | apply pw_below_drewN | apply below_drew1 | refine below_set ?_ GE657.out | refine below_set ?_ GE665.out) | exact HB.out)⟩
    · rw [if_neg c4] at H
      have c4b0 : decide ((l0.length : Int) < (wrap64 ((wrap64 (60 + t663)) + (Int.tmod t663 2)))) = false := decide_eq_false c4
      clear c4
      by_cases c11 : (Int.tmod t663 2) = 0
      · rw [if_pos c11] at H
        have c11b0 : ((Int.tmod t663 2) == 0) = true := beq_iff_eq.mpr c11
        have c11b1 : ((Int.tmod t663 2) != 0) = false := bne_eq_false_iff_eq.mpr c11
        clear c11
        by_cases c12 : 60 ≤ (wrap64 (60 + t663))
        · rw [if_pos c12] at H
          have c12b0 := eq_true c12
          have c12b1 : decide (60 ≤ (wrap64 (60 + t663))) = true := decide_eq_true c12
          by_cases c13 : (wrap64 (60 + t663)) ≤ (l0.length : Int)
          · rw [if_pos c13] at H
            have c13b0 := eq_true c13
            have c13b1 : decide ((wrap64 (60 + t663)) ≤ (l0.length : Int)) = true := decide_eq_true c13
            replace H := Option.bind_eq_some_iff.mp H
            obtain ⟨t667, A140, H⟩ := H
            replace H : (some (t658, t659, t660, t661, t662, t663, t667, 0, wrap64 ((wrap64 (60 + t663)) + (Int.tmod t663 2)))) = some (r1, r2, r3, r4, r5, r6, r7, r8, r9) := H
            have A14 := Aside0.mk A140
            clear A140
            simp only [Option.some.injEq, Prod.mk.injEq] at H
            obtain ⟨rfl, rfl, rfl, rfl, rfl, rfl, rfl, rfl, rfl⟩ := H
            go_enter Tryd.func65, Tryd.ntmps65
            try go_wp2_with (first | ((with_reducible refine gate_dst (N := 2) rfl ?_); refine box_event ?hg (N := 2) ?hd (cs := #[.string (⟨#[]⟩ : ByteArray), .int .i64 0, .int .i64 0, .int .i64 0, .int .i64 0, .int .i64 0, .slice none 0 0, .int .i64 0]) (t := 86) ?hr ?_; (case hd => rfl); (case hg => rfl); (case hr => first | (go_simp; done) | (go_simp; rfl)); intro gb657 hg w15 hbox hb; have n0_ := Aside0.mk (below_step (by repeat (first | (with_reducible first | exact HB.out | apply below_alloc | apply pw_below_drewN | apply below_drew1) | exact HB.out)) hb); have n1_ := Aside0.mk (hbox); have n2_ := Aside0.mk ((by rw [hg]; exact (below_size (by repeat (first | (with_reducible first | exact HB.out | apply below_alloc | apply pw_below_drewN | apply below_drew1) | exact HB.out))) : w.heap.size ≤ gb657)); have n3_ := Aside0.mk ((by rw [hg]; exact (below_size (by repeat (first | (with_reducible first | exact HB.out | apply below_alloc | apply pw_below_drewN | apply below_drew1) | exact HB.out))) : w.heap.size ≤ gb657)); clear HB; have HB := n0_; have BK657 := n1_; have GW657 := n2_; have GE657 := n3_; clear n0_ n1_ n2_ n3_; clear hb hbox hg) | ((with_reducible refine gate_callee (f := 78) rfl ?_); refine goesL_ (some 9) rfl rfl Tryd.func78 (by kernel_rfl) rfl #[.slice A0 l0.length c0] rfl (by (try simp only [List.map_toArray, List.map_cons, List.map_nil]); first | done | rfl | (simp only [List.length_drop, List.length_take]; rfl)) ?_; (with_reducible refine (header_Decode.calls _ _ l0 t658 t659 t660 t661 t662 t663 t664 _ ?side1 ?side2 A2.out).mono ?_); (case side1 => repeat (first | exact (Kd.C_below HR0.out HB.out) | (with_reducible refine Kd.C_alloc ?_ _) | (with_reducible refine Kd.C_drewN ?_ _) | (with_reducible refine Kd.C_drew ?_))); (case side2 => exact HC0.out); rintro e w16 ⟨rfl, hb⟩; refine ⟨_, rfl, ?_⟩; have n0_ := Aside0.mk (blk_below (g := gb657) (o := .cells #[.string (⟨#[]⟩ : ByteArray), .int .i64 0, .int .i64 0, .int .i64 0, .int .i64 0, .int .i64 0, .slice none 0 0, .int .i64 0] 86 (0, 0)) (by (with_reducible repeat (first | refine blk_drewN ?_ _ | refine blk_drew ?_ | refine blk_alloc ?_ _)); exact BK657.out) hb); have n1_ := Aside0.mk (below_step (by repeat (first | (with_reducible first | exact HB.out | apply below_alloc | apply pw_below_drewN | apply below_drew1 | refine below_set ?_ GE657.out) | exact HB.out)) hb); clear BK657; clear HB; have BK657 := n0_; have HB := n1_; clear n0_ n1_; (try clear hb); (try clear hb2); (try clear hk); (try clear hi)) | ((with_reducible refine gate_dst (N := 4) rfl ?_); refine box_event ?hg (N := 4) ?hd (cs := #[.string (⟨#[]⟩ : ByteArray), .int .i64 0, .int .i64 0, .int .i64 0, .int .i64 0, .int .i64 0]) (t := 84) ?hr ?_; (case hd => rfl); (case hg => rfl); (case hr => first | (go_simp; done) | (go_simp; rfl)); intro gb665 hg w17 hbox hb; have n0_ := Aside0.mk (blk_below (g := gb657) (o := .cells #[.string (⟨#[]⟩ : ByteArray), .int .i64 0, .int .i64 0, .int .i64 0, .int .i64 0, .int .i64 0, .slice none 0 0, .int .i64 0] 86 (0, 0)) (by (with_reducible repeat (first | refine blk_drewN ?_ _ | refine blk_drew ?_ | refine blk_alloc ?_ _)); exact BK657.out) hb); have n1_ := Aside0.mk (below_step (by repeat (first | (with_reducible first | exact HB.out | apply below_alloc | apply pw_below_drewN | apply below_drew1 | refine below_set ?_ GE657.out) | exact HB.out)) hb); have n2_ := Aside0.mk (hbox); have n3_ := Aside0.mk ((by rw [hg]; exact (below_size (by repeat (first | (with_reducible first | exact HB.out | apply below_alloc | apply pw_below_drewN | apply below_drew1 | refine below_set ?_ GE657.out) | exact HB.out))) : w.heap.size ≤ gb665)); have n4_ := Aside0.mk ((by rw [hg]; exact (below_size (by repeat (first | (with_reducible first | exact HB.out | apply below_alloc | apply pw_below_drewN | apply below_drew1 | refine below_set ?_ GE657.out) | exact HB.out))) : w.heap.size ≤ gb665)); have n5_ := Aside0.mk ((by rw [hg]; exact Nat.ne_of_lt (blk_lt (g := gb657) (o := .cells #[.string (⟨#[]⟩ : ByteArray), .int .i64 0, .int .i64 0, .int .i64 0, .int .i64 0, .int .i64 0, .slice none 0 0, .int .i64 0] 86 (0, 0)) (by (with_reducible repeat (first | refine blk_drewN ?_ _ | refine blk_drew ?_ | refine blk_alloc ?_ _)); exact BK657.out)) : gb657 ≠ gb665)); have n6_ := Aside0.mk ((by rw [hg]; exact Nat.ne_of_gt (blk_lt (g := gb657) (o := .cells #[.string (⟨#[]⟩ : ByteArray), .int .i64 0, .int .i64 0, .int .i64 0, .int .i64 0, .int .i64 0, .slice none 0 0, .int .i64 0] 86 (0, 0)) (by (with_reducible repeat (first | refine blk_drewN ?_ _ | refine blk_drew ?_ | refine blk_alloc ?_ _)); exact BK657.out)) : gb665 ≠ gb657)); clear BK657; clear HB; have BK657 := n0_; have HB := n1_; have BK665 := n2_; have GW665 := n3_; have GE665 := n4_; have NB657_665 := n5_; have NB665_657 := n6_; clear n0_ n1_ n2_ n3_ n4_ n5_ n6_; clear hb hbox hg; have hnb18 := NB665_657.out; have hnc18 := NB657_665.out; have hcz19_0 : w17.cell? ⟨gb665, 0, none⟩ = some (.string (⟨#[]⟩ : ByteArray)) := (blk_cell BK665.out 0).trans rfl; have hcz19_1 : w17.cell? ⟨gb665, 1, none⟩ = some (.int .i64 0) := (blk_cell BK665.out 1).trans rfl; have hcz19_2 : w17.cell? ⟨gb665, 2, none⟩ = some (.int .i64 0) := (blk_cell BK665.out 2).trans rfl; have hcz19_3 : w17.cell? ⟨gb665, 3, none⟩ = some (.int .i64 0) := (blk_cell BK665.out 3).trans rfl; have hcz19_4 : w17.cell? ⟨gb665, 4, none⟩ = some (.int .i64 0) := (blk_cell BK665.out 4).trans rfl; have hcz19_5 : w17.cell? ⟨gb665, 5, none⟩ = some (.int .i64 0) := (blk_cell BK665.out 5).trans rfl; have hfz19_0 := blk_frozen BK665.out 0; have hfz19_1 := blk_frozen BK665.out 1; have hfz19_2 := blk_frozen BK665.out 2; have hfz19_3 := blk_frozen BK665.out 3; have hfz19_4 := blk_frozen BK665.out 4; have hfz19_5 := blk_frozen BK665.out 5))
            have n0_ : Aside0 (((((((w17.setCell ⟨gb665, 0, none⟩ (.string t658)).setCell ⟨gb665, 1, none⟩ (.int .i64 t659)).setCell ⟨gb665, 2, none⟩ (.int .i64 t660)).setCell ⟨gb665, 3, none⟩ (.int .i64 t661)).setCell ⟨gb665, 4, none⟩ (.int .i64 t662)).setCell ⟨gb665, 5, none⟩ (.int .i64 t663)).heap[gb657]? = some (.cells #[.string (⟨#[]⟩ : ByteArray), .int .i64 0, .int .i64 0, .int .i64 0, .int .i64 0, .int .i64 0, .slice none 0 0, .int .i64 0] 86 (0, 0))) := ⟨by (with_reducible repeat (first | refine blk_drewN ?_ _ | refine blk_drew ?_ | refine blk_alloc ?_ _)); refine blk_far ?_ NB657_665.out _; (with_reducible repeat (first | refine blk_drewN ?_ _ | refine blk_drew ?_ | refine blk_alloc ?_ _)); refine blk_far ?_ NB657_665.out _; (with_reducible repeat (first | refine blk_drewN ?_ _ | refine blk_drew ?_ | refine blk_alloc ?_ _)); refine blk_far ?_ NB657_665.out _; (with_reducible repeat (first | refine blk_drewN ?_ _ | refine blk_drew ?_ | refine blk_alloc ?_ _)); refine blk_far ?_ NB657_665.out _; (with_reducible repeat (first | refine blk_drewN ?_ _ | refine blk_drew ?_ | refine blk_alloc ?_ _)); refine blk_far ?_ NB657_665.out _; (with_reducible repeat (first | refine blk_drewN ?_ _ | refine blk_drew ?_ | refine blk_alloc ?_ _)); refine blk_far ?_ NB657_665.out _; (with_reducible repeat (first | refine blk_drewN ?_ _ | refine blk_drew ?_ | refine blk_alloc ?_ _)); exact BK657.out⟩
            have n1_ : Aside0 (((((((w17.setCell ⟨gb665, 0, none⟩ (.string t658)).setCell ⟨gb665, 1, none⟩ (.int .i64 t659)).setCell ⟨gb665, 2, none⟩ (.int .i64 t660)).setCell ⟨gb665, 3, none⟩ (.int .i64 t661)).setCell ⟨gb665, 4, none⟩ (.int .i64 t662)).setCell ⟨gb665, 5, none⟩ (.int .i64 t663)).heap[gb665]? = some (.cells #[.string t658, .int .i64 t659, .int .i64 t660, .int .i64 t661, .int .i64 t662, .int .i64 t663] 84 (0, 0))) := ⟨by (with_reducible repeat (first | refine blk_drewN ?_ _ | refine blk_drew ?_ | refine blk_alloc ?_ _)); refine blk_put (cs := #[.string t658, .int .i64 t659, .int .i64 t660, .int .i64 t661, .int .i64 t662, .int .i64 0]) ?_ 5 _ rfl; (with_reducible repeat (first | refine blk_drewN ?_ _ | refine blk_drew ?_ | refine blk_alloc ?_ _)); refine blk_put (cs := #[.string t658, .int .i64 t659, .int .i64 t660, .int .i64 t661, .int .i64 0, .int .i64 0]) ?_ 4 _ rfl; (with_reducible repeat (first | refine blk_drewN ?_ _ | refine blk_drew ?_ | refine blk_alloc ?_ _)); refine blk_put (cs := #[.string t658, .int .i64 t659, .int .i64 t660, .int .i64 0, .int .i64 0, .int .i64 0]) ?_ 3 _ rfl; (with_reducible repeat (first | refine blk_drewN ?_ _ | refine blk_drew ?_ | refine blk_alloc ?_ _)); refine blk_put (cs := #[.string t658, .int .i64 t659, .int .i64 0, .int .i64 0, .int .i64 0, .int .i64 0]) ?_ 2 _ rfl; (with_reducible repeat (first | refine blk_drewN ?_ _ | refine blk_drew ?_ | refine blk_alloc ?_ _)); refine blk_put (cs := #[.string t658, .int .i64 0, .int .i64 0, .int .i64 0, .int .i64 0, .int .i64 0]) ?_ 1 _ rfl; (with_reducible repeat (first | refine blk_drewN ?_ _ | refine blk_drew ?_ | refine blk_alloc ?_ _)); refine blk_put (cs := #[.string (⟨#[]⟩ : ByteArray), .int .i64 0, .int .i64 0, .int .i64 0, .int .i64 0, .int .i64 0]) ?_ 0 _ rfl; (with_reducible repeat (first | refine blk_drewN ?_ _ | refine blk_drew ?_ | refine blk_alloc ?_ _)); exact BK665.out⟩
            have n2_ : Aside0 (Below w.heap.size w ((((((w17.setCell ⟨gb665, 0, none⟩ (.string t658)).setCell ⟨gb665, 1, none⟩ (.int .i64 t659)).setCell ⟨gb665, 2, none⟩ (.int .i64 t660)).setCell ⟨gb665, 3, none⟩ (.int .i64 t661)).setCell ⟨gb665, 4, none⟩ (.int .i64 t662)).setCell ⟨gb665, 5, none⟩ (.int .i64 t663))) := ⟨by repeat (first | (with_reducible first | exact HB.out | apply below_alloc | apply pw_below_drewN | apply below_drew1 | refine below_set ?_ GE657.out | refine below_set ?_ GE665.out) | exact HB.out)⟩
            (try clear BK657)
            (try clear BK665)
            (try clear HB)
            generalize ((((((w17.setCell ⟨gb665, 0, none⟩ (.string t658)).setCell ⟨gb665, 1, none⟩ (.int .i64 t659)).setCell ⟨gb665, 2, none⟩ (.int .i64 t660)).setCell ⟨gb665, 3, none⟩ (.int .i64 t661)).setCell ⟨gb665, 4, none⟩ (.int .i64 t662)).setCell ⟨gb665, 5, none⟩ (.int .i64 t663)) = w20 at n0_ n1_ n2_ ⊢
            have BK657 := n0_
            have BK665 := n1_
            have HB := n2_
            clear n0_ n1_ n2_
            have n0_ := Aside0.mk (blk_drew BK657.out)
            have n1_ := Aside0.mk (blk_drew BK665.out)
            have n2_ := Aside0.mk (below_drew1 HB.out)
            clear BK657
            clear BK665
            clear HB
            have BK657 := n0_
            have BK665 := n1_
            have HB := n2_
            clear n0_ n1_ n2_
            obtain ⟨i022, hi022, _, hsz22, _⟩ := info_parts info5
            obtain ⟨A22, hcut22, hA22, hC22⟩ := print_mid_of (P := Tryd.prog) (Value.int .u8) 0 22 5 .i64 .i64 Tryd.underlying22 hi022 hsz22 A0 c0 l0 60 (wrap64 (60 + t663)) (by omega) (by first | omega | exact of_decide_eq_true (by first | (with_reducible assumption) | assumption)) (of_decide_eq_true (by first | (with_reducible assumption) | assumption)) HC0.out
            have HR666 := Aside0.mk (Kd.C_of_reads (h1 := fun _ => rfl) (hA22 _ (Kd.reads_of_C HR0.out)))
            have HC666 := Aside0.mk hC22
            clear hA22 hC22 hi022 hsz22
            refine start_ (n := 13) (S := fun w' => w'.cell? ⟨gb665, 0, none⟩ = some (.string t658) ∧ w'.cell? ⟨gb665, 1, none⟩ = some (.int .i64 t659) ∧ w'.cell? ⟨gb665, 2, none⟩ = some (.int .i64 t660) ∧ w'.cell? ⟨gb665, 3, none⟩ = some (.int .i64 t661) ∧ w'.cell? ⟨gb665, 4, none⟩ = some (.int .i64 t662) ∧ w'.cell? ⟨gb665, 5, none⟩ = some (.int .i64 t663)) (ds := []) #[false, false, false, false, false, false, false, false, false, false, false, false, false] (by kernel_rfl) rfl rfl ⟨(blk_cell BK665.out 0).trans rfl, (blk_cell BK665.out 1).trans rfl, (blk_cell BK665.out 2).trans rfl, (blk_cell BK665.out 3).trans rfl, (blk_cell BK665.out 4).trans rfl, (blk_cell BK665.out 5).trans rfl⟩ (fun hHeld => ?_); refine with_tabW arparse_next.tab9 arparse_next.bits9 (fun HT_ HW_ => ?_)
            generalize w20.drew = w21 at BK657 BK665 HB HR666 hHeld ⊢
            refine pure_ (i := 1) (N := some 41) (v := ?_) (a' := ?_) #[false, true, false, false, false, false, false, false, false, false, false, false, false] rfl rfl (any_of HT_.out (by kernel_rfl)) (fun _ _ _ h => h) (Or.inl ⟨by rfl, ?_⟩) ?_ ?_
            rotate_left
            · intro w'
              go_simp
              with_reducible rfl
            rotate_left
            · simp only [Act.put, List.setIfInBounds_toArray, List.set_cons_zero, List.set_cons_succ, i64_w, i32_w]
              rfl
            refine pure_ (i := 2) (N := some 42) (v := ?_) (a' := ?_) #[false, true, true, false, false, false, false, false, false, false, false, false, false] rfl rfl (any_of HT_.out (by kernel_rfl)) (fun _ _ _ h => h) (Or.inl ⟨by rfl, ?_⟩) ?_ ?_
            rotate_left
            · intro w'
              go_simp
              with_reducible rfl
            rotate_left
            · simp only [Act.put, List.setIfInBounds_toArray, List.set_cons_zero, List.set_cons_succ, i64_w, i32_w]
              rfl
            refine pure_ (i := 3) (N := some 43) (v := ?_) (a' := ?_) #[false, true, true, true, false, false, false, false, false, false, false, false, false] rfl rfl (any_of HT_.out (by kernel_rfl)) (fun _ _ _ h => h) (Or.inl ⟨by rfl, ?_⟩) ?_ ?_
            rotate_left
            · intro w'
              go_simp
              with_reducible rfl
            rotate_left
            · simp only [Act.put, List.setIfInBounds_toArray, List.set_cons_zero, List.set_cons_succ, i64_w, i32_w]
              rfl
            refine pure_ (i := 6) (N := some 46) (v := ?_) (a' := ?_) #[false, true, true, true, false, false, true, false, false, false, false, false, false] rfl rfl (any_of HT_.out (by kernel_rfl)) (fun _ _ _ h => h) (Or.inl ⟨by rfl, ?_⟩) ?_ ?_
            rotate_left
            · intro w'
              go_simp
              with_reducible rfl
            rotate_left
            · simp only [Act.put, List.setIfInBounds_toArray, List.set_cons_zero, List.set_cons_succ, i64_w, i32_w]
              rfl
            refine pure_ (i := 7) (N := some 47) (v := ?_) (a' := ?_) #[false, true, true, true, false, false, true, true, false, false, false, false, false] rfl rfl (any_of HT_.out (by kernel_rfl)) (fun _ _ _ h => h) (Or.inl ⟨by rfl, ?_⟩) ?_ ?_
            rotate_left
            · intro w'
              go_simp
              with_reducible rfl
            rotate_left
            · simp only [Act.put, List.setIfInBounds_toArray, List.set_cons_zero, List.set_cons_succ, i64_w, i32_w]
              rfl
            refine take_ (i := 0) (N := some 40) (v := ?_) (a' := ?_) #[true, true, true, true, false, false, true, true, false, false, false, false, false] rfl rfl (take_ofW HT_.out HW_.out (by kernel_rfl)) (fun _ _ _ h => h) (Or.inl ⟨by rfl, ?_⟩) hHeld ?_ ?_
            rotate_left
            · rintro w' ⟨s0, s1, s2, s3, s4, s5⟩
              go_simp
              with_reducible rfl
            rotate_left
            · simp only [Act.put, List.setIfInBounds_toArray, List.set_cons_zero, List.set_cons_succ, i64_w, i32_w]
              rfl
            refine take_ (i := 8) (N := some 48) (v := ?_) (a' := ?_) #[true, true, true, true, false, false, true, true, true, false, false, false, false] rfl rfl (take_ofW HT_.out HW_.out (by kernel_rfl)) (fun _ _ _ h => h) (Or.inl ⟨by rfl, ?_⟩) hHeld ?_ ?_
            rotate_left
            · rintro w' ⟨s0, s1, s2, s3, s4, s5⟩
              go_simp
              with_reducible rfl
            rotate_left
            · simp only [Act.put, List.setIfInBounds_toArray, List.set_cons_zero, List.set_cons_succ, i64_w, i32_w]
              rfl
            refine pure_ (i := 9) (N := some 49) (v := ?_) (a' := ?_) #[true, true, true, true, false, false, true, true, true, true, false, false, false] rfl rfl (any_of HT_.out (by kernel_rfl)) (fun _ _ _ h => h) (Or.inl ⟨by rfl, ?_⟩) ?_ ?_
            rotate_left
            · intro w'
              go_simp
              with_reducible rfl
            rotate_left
            · simp only [Act.put, List.setIfInBounds_toArray, List.set_cons_zero, List.set_cons_succ, i64_w, i32_w]
              rfl
            refine pure_ (i := 10) (N := some 50) (v := ?_) (a' := ?_) #[true, true, true, true, false, false, true, true, true, true, true, false, false] rfl rfl (any_of HT_.out (by kernel_rfl)) (fun _ _ _ h => h) (Or.inl ⟨by rfl, ?_⟩) ?_ ?_
            rotate_left
            · intro w'
              go_simp
              with_reducible rfl
            rotate_left
            · simp only [Act.put, List.setIfInBounds_toArray, List.set_cons_zero, List.set_cons_succ, i64_w, i32_w]
              rfl
            refine one_ (i := 4) (N := some 44) #[true, true, true, true, true, false, true, true, true, true, true, false, false] rfl rfl (one_of HT_.out (by kernel_rfl)) (by decide) (fun K hK => ?_)
            refine goes_ Tryd.func79 (by kernel_rfl) rfl #[.slice A22 ((l0.take ((wrap64 (60 + t663)) : Int).toNat).drop 60).length (c0 - 60)] (by rfl) rfl rfl (by (try simp only [List.map_toArray, List.map_cons, List.map_nil]); first | done | (rw [show ((l0.take ((wrap64 (60 + t663)) : Int).toNat).drop 60).length = ((wrap64 (60 + t663)).toNat - 60) from (by rw [List.length_drop, List.length_take]; have h_ : ((wrap64 (60 + t663)) : Int) ≤ (l0.length : Int) := of_decide_eq_true (by first | (with_reducible assumption) | assumption); omega)] <;> rfl) | rfl | (simp only [List.length_drop, List.length_take]; rfl)) ?_
            with_reducible refine (slices_Clone_byte_byte.calls _ _ ((l0.take ((wrap64 (60 + t663)) : Int).toNat).drop 60) t667 _ ?side1 ?side2 A14.out).mono ?_
            (case side1 => repeat (first | exact (Kd.C_below HR666.out HB.out) | (with_reducible refine Kd.C_alloc ?_ _) | (with_reducible refine Kd.C_drewN ?_ _) | (with_reducible refine Kd.C_drew ?_)))
            (case side2 => exact HC666.out)
            rintro e w23 ⟨v668, rfl, ho0, hb⟩
            refine ⟨_, rfl, ?_⟩
            have n0_ := Aside0.mk (Kd.R_lower ho0 (below_size (by repeat (first | (with_reducible first | exact HB.out | apply below_alloc | apply pw_below_drewN | apply below_drew1 | refine below_set ?_ GE657.out | refine below_set ?_ GE665.out) | exact HB.out))))
            have n1_ := Aside0.mk (blk_below (g := gb657) (o := .cells #[.string (⟨#[]⟩ : ByteArray), .int .i64 0, .int .i64 0, .int .i64 0, .int .i64 0, .int .i64 0, .slice none 0 0, .int .i64 0] 86 (0, 0)) (by (with_reducible repeat (first | refine blk_drewN ?_ _ | refine blk_drew ?_ | refine blk_alloc ?_ _)); exact BK657.out) hb)
            have n2_ := Aside0.mk (blk_below (g := gb665) (o := .cells #[.string t658, .int .i64 t659, .int .i64 t660, .int .i64 t661, .int .i64 t662, .int .i64 t663] 84 (0, 0)) (by (with_reducible repeat (first | refine blk_drewN ?_ _ | refine blk_drew ?_ | refine blk_alloc ?_ _)); exact BK665.out) hb)
            have n3_ := Aside0.mk (below_step (by repeat (first | (with_reducible first | exact HB.out | apply below_alloc | apply pw_below_drewN | apply below_drew1 | refine below_set ?_ GE657.out | refine below_set ?_ GE665.out) | exact HB.out)) hb)
            clear BK657
            clear BK665
            clear HB
            have HO669 := n0_
            have BK657 := n1_
            have BK665 := n2_
            have HB := n3_
            clear n0_ n1_ n2_ n3_
            (try clear hb)
            (try clear hb2)
            (try clear hk)
            (try clear hi)
            (try clear ho0)
            obtain ⟨Ao24, co24, eo24⟩ := Kd.R_slice HO669.out
            (first | subst eo24 | (injection eo24 with f1_ f2_ f3_; have f4_ := f1_.symm; have f5_ := f3_.symm; clear f1_ f2_ f3_; subst f4_; subst f5_))
            refine hK.out _ _ ⟨(blk_cell BK665.out 0).trans rfl, (blk_cell BK665.out 1).trans rfl, (blk_cell BK665.out 2).trans rfl, (blk_cell BK665.out 3).trans rfl, (blk_cell BK665.out 4).trans rfl, (blk_cell BK665.out 5).trans rfl⟩ (fun hHeld => ?_)
            clear hK K
            refine norm_ (a' := ?_) ?_ ?_
            rotate_left
            · show Act.put _ (some 44) _ = _
              simp only [Act.put, List.setIfInBounds_toArray, List.set_cons_zero, List.set_cons_succ, i64_w, i32_w]
              rfl
            refine pure_ (i := 5) (N := some 45) (v := ?_) (a' := ?_) #[true, true, true, true, true, true, true, true, true, true, true, false, false] rfl rfl (any_of HT_.out (by kernel_rfl)) (fun _ _ _ h => h) (Or.inl ⟨by rfl, ?_⟩) ?_ ?_
            rotate_left
            · intro w'
              go_simp
              with_reducible rfl
            rotate_left
            · simp only [Act.put, List.setIfInBounds_toArray, List.set_cons_zero, List.set_cons_succ, i64_w, i32_w]
              rfl
            refine one_ (i := 11) (N := none) #[true, true, true, true, true, true, true, true, true, true, true, true, false] rfl rfl (one_of HT_.out (by kernel_rfl)) (by decide) (fun K hK => ?_)
            have hs25 : w23.cell? ⟨gb657, 0, none⟩ = some (.string (⟨#[]⟩ : ByteArray)) := (blk_cell BK657.out 0).trans rfl
            have hfs25 := blk_frozen BK657.out 0
            have hns25_1 := NB665_657.out
            have hms25_1 := NB657_665.out
            have hs26 : w23.cell? ⟨gb657, 1, none⟩ = some (.int .i64 0) := (blk_cell BK657.out 1).trans rfl
            have hfs26 := blk_frozen BK657.out 1
            have hns26_1 := NB665_657.out
            have hms26_1 := NB657_665.out
            have hs27 : w23.cell? ⟨gb657, 2, none⟩ = some (.int .i64 0) := (blk_cell BK657.out 2).trans rfl
            have hfs27 := blk_frozen BK657.out 2
            have hns27_1 := NB665_657.out
            have hms27_1 := NB657_665.out
            have hs28 : w23.cell? ⟨gb657, 3, none⟩ = some (.int .i64 0) := (blk_cell BK657.out 3).trans rfl
            have hfs28 := blk_frozen BK657.out 3
            have hns28_1 := NB665_657.out
            have hms28_1 := NB657_665.out
            have hs29 : w23.cell? ⟨gb657, 4, none⟩ = some (.int .i64 0) := (blk_cell BK657.out 4).trans rfl
            have hfs29 := blk_frozen BK657.out 4
            have hns29_1 := NB665_657.out
            have hms29_1 := NB657_665.out
            have hs30 : w23.cell? ⟨gb657, 5, none⟩ = some (.int .i64 0) := (blk_cell BK657.out 5).trans rfl
            have hfs30 := blk_frozen BK657.out 5
            have hns30_1 := NB665_657.out
            have hms30_1 := NB657_665.out
            have hs31 : w23.cell? ⟨gb657, 6, none⟩ = some (.slice none 0 0) := (blk_cell BK657.out 6).trans rfl
            have hfs31 := blk_frozen BK657.out 6
            have hns31_1 := NB665_657.out
            have hms31_1 := NB657_665.out
            have hs32 : w23.cell? ⟨gb657, 7, none⟩ = some (.int .i64 0) := (blk_cell BK657.out 7).trans rfl
            have hfs32 := blk_frozen BK657.out 7
            have hns32_1 := NB665_657.out
            have hms32_1 := NB657_665.out
            refine skip_ (w1 := ?_) (by rfl) rfl ?_ ?_
            rotate_left
            · go_simp
              rfl
            refine hK.out _ _ ⟨((cell_far (p := ⟨gb657, _, none⟩) NB665_657.out _).trans (((cell_far (p := ⟨gb657, _, none⟩) NB665_657.out _).trans (((cell_far (p := ⟨gb657, _, none⟩) NB665_657.out _).trans (((cell_far (p := ⟨gb657, _, none⟩) NB665_657.out _).trans (((cell_far (p := ⟨gb657, _, none⟩) NB665_657.out _).trans (((cell_far (p := ⟨gb657, _, none⟩) NB665_657.out _).trans (((cell_far (p := ⟨gb657, _, none⟩) NB665_657.out _).trans (((cell_far (p := ⟨gb657, _, none⟩) NB665_657.out _).trans (hHeld.1)))))))))))))))), ((cell_far (p := ⟨gb657, _, none⟩) NB665_657.out _).trans (((cell_far (p := ⟨gb657, _, none⟩) NB665_657.out _).trans (((cell_far (p := ⟨gb657, _, none⟩) NB665_657.out _).trans (((cell_far (p := ⟨gb657, _, none⟩) NB665_657.out _).trans (((cell_far (p := ⟨gb657, _, none⟩) NB665_657.out _).trans (((cell_far (p := ⟨gb657, _, none⟩) NB665_657.out _).trans (((cell_far (p := ⟨gb657, _, none⟩) NB665_657.out _).trans (((cell_far (p := ⟨gb657, _, none⟩) NB665_657.out _).trans (hHeld.2.1)))))))))))))))), ((cell_far (p := ⟨gb657, _, none⟩) NB665_657.out _).trans (((cell_far (p := ⟨gb657, _, none⟩) NB665_657.out _).trans (((cell_far (p := ⟨gb657, _, none⟩) NB665_657.out _).trans (((cell_far (p := ⟨gb657, _, none⟩) NB665_657.out _).trans (((cell_far (p := ⟨gb657, _, none⟩) NB665_657.out _).trans (((cell_far (p := ⟨gb657, _, none⟩) NB665_657.out _).trans (((cell_far (p := ⟨gb657, _, none⟩) NB665_657.out _).trans (((cell_far (p := ⟨gb657, _, none⟩) NB665_657.out _).trans (hHeld.2.2.1)))))))))))))))), ((cell_far (p := ⟨gb657, _, none⟩) NB665_657.out _).trans (((cell_far (p := ⟨gb657, _, none⟩) NB665_657.out _).trans (((cell_far (p := ⟨gb657, _, none⟩) NB665_657.out _).trans (((cell_far (p := ⟨gb657, _, none⟩) NB665_657.out _).trans (((cell_far (p := ⟨gb657, _, none⟩) NB665_657.out _).trans (((cell_far (p := ⟨gb657, _, none⟩) NB665_657.out _).trans (((cell_far (p := ⟨gb657, _, none⟩) NB665_657.out _).trans (((cell_far (p := ⟨gb657, _, none⟩) NB665_657.out _).trans (hHeld.2.2.2.1)))))))))))))))), ((cell_far (p := ⟨gb657, _, none⟩) NB665_657.out _).trans (((cell_far (p := ⟨gb657, _, none⟩) NB665_657.out _).trans (((cell_far (p := ⟨gb657, _, none⟩) NB665_657.out _).trans (((cell_far (p := ⟨gb657, _, none⟩) NB665_657.out _).trans (((cell_far (p := ⟨gb657, _, none⟩) NB665_657.out _).trans (((cell_far (p := ⟨gb657, _, none⟩) NB665_657.out _).trans (((cell_far (p := ⟨gb657, _, none⟩) NB665_657.out _).trans (((cell_far (p := ⟨gb657, _, none⟩) NB665_657.out _).trans (hHeld.2.2.2.2.1)))))))))))))))), ((cell_far (p := ⟨gb657, _, none⟩) NB665_657.out _).trans (((cell_far (p := ⟨gb657, _, none⟩) NB665_657.out _).trans (((cell_far (p := ⟨gb657, _, none⟩) NB665_657.out _).trans (((cell_far (p := ⟨gb657, _, none⟩) NB665_657.out _).trans (((cell_far (p := ⟨gb657, _, none⟩) NB665_657.out _).trans (((cell_far (p := ⟨gb657, _, none⟩) NB665_657.out _).trans (((cell_far (p := ⟨gb657, _, none⟩) NB665_657.out _).trans (((cell_far (p := ⟨gb657, _, none⟩) NB665_657.out _).trans (hHeld.2.2.2.2.2))))))))))))))))⟩ (fun hHeld => ?_)
            clear hK K
            refine pure_ (i := 12) (N := some 3) (v := ?_) (a' := ?_) #[true, true, true, true, true, true, true, true, true, true, true, true, true] rfl rfl (any_of HT_.out (by kernel_rfl)) (fun _ _ _ h => h) (Or.inl ⟨by rfl, ?_⟩) ?_ ?_
            rotate_left
            · intro w'
              go_simp
              with_reducible rfl
            rotate_left
            · simp only [Act.put, List.setIfInBounds_toArray, List.set_cons_zero, List.set_cons_succ, i64_w, i32_w]
              rfl
            refine done_ (done_of HT_.out (by kernel_rfl)) ?_
            try go_wp2
            refine bodyPost_ret (results_ct rfl _ _ gb657 86 #[.string t658, .int .i64 t659, .int .i64 t660, .int .i64 t661, .int .i64 t662, .int .i64 t663, .slice Ao24 t667.length co24, .int .i64 0] (0, 0) _ rfl (by (with_reducible repeat (first | refine blk_drewN ?_ _ | refine blk_drew ?_ | refine blk_alloc ?_ _)); refine blk_put (cs := #[.string t658, .int .i64 t659, .int .i64 t660, .int .i64 t661, .int .i64 t662, .int .i64 t663, .slice Ao24 t667.length co24, .int .i64 0]) ?_ 7 _ rfl; (with_reducible repeat (first | refine blk_drewN ?_ _ | refine blk_drew ?_ | refine blk_alloc ?_ _)); refine blk_put (cs := #[.string t658, .int .i64 t659, .int .i64 t660, .int .i64 t661, .int .i64 t662, .int .i64 t663, .slice none 0 0, .int .i64 0]) ?_ 6 _ rfl; (with_reducible repeat (first | refine blk_drewN ?_ _ | refine blk_drew ?_ | refine blk_alloc ?_ _)); refine blk_put (cs := #[.string t658, .int .i64 t659, .int .i64 t660, .int .i64 t661, .int .i64 t662, .int .i64 0, .slice none 0 0, .int .i64 0]) ?_ 5 _ rfl; (with_reducible repeat (first | refine blk_drewN ?_ _ | refine blk_drew ?_ | refine blk_alloc ?_ _)); refine blk_put (cs := #[.string t658, .int .i64 t659, .int .i64 t660, .int .i64 t661, .int .i64 0, .int .i64 0, .slice none 0 0, .int .i64 0]) ?_ 4 _ rfl; (with_reducible repeat (first | refine blk_drewN ?_ _ | refine blk_drew ?_ | refine blk_alloc ?_ _)); refine blk_put (cs := #[.string t658, .int .i64 t659, .int .i64 t660, .int .i64 0, .int .i64 0, .int .i64 0, .slice none 0 0, .int .i64 0]) ?_ 3 _ rfl; (with_reducible repeat (first | refine blk_drewN ?_ _ | refine blk_drew ?_ | refine blk_alloc ?_ _)); refine blk_put (cs := #[.string t658, .int .i64 t659, .int .i64 0, .int .i64 0, .int .i64 0, .int .i64 0, .slice none 0 0, .int .i64 0]) ?_ 2 _ rfl; (with_reducible repeat (first | refine blk_drewN ?_ _ | refine blk_drew ?_ | refine blk_alloc ?_ _)); refine blk_put (cs := #[.string t658, .int .i64 0, .int .i64 0, .int .i64 0, .int .i64 0, .int .i64 0, .slice none 0 0, .int .i64 0]) ?_ 1 _ rfl; (with_reducible repeat (first | refine blk_drewN ?_ _ | refine blk_drew ?_ | refine blk_alloc ?_ _)); refine blk_put (cs := #[.string (⟨#[]⟩ : ByteArray), .int .i64 0, .int .i64 0, .int .i64 0, .int .i64 0, .int .i64 0, .slice none 0 0, .int .i64 0]) ?_ 0 _ rfl; (with_reducible repeat (first | refine blk_drewN ?_ _ | refine blk_drew ?_ | refine blk_alloc ?_ _)); exact BK657.out) Tryd.underlying86 rfl (by kernel_rfl)) rfl ?_
            exact ⟨_, by first | rfl | (simp [errW_none, errW_some] <;> rfl) | (simp [*, errW_none, errW_some] <;> rfl), by (with_reducible repeat (first | apply Kd.R_alloc | apply Kd.R_drewN | apply Kd.R_drew)); exact Kd.R_mono (Kd.R_far (p := ⟨gb657, 7, none⟩) (Kd.R_far (p := ⟨gb657, 6, none⟩) (Kd.R_far (p := ⟨gb657, 5, none⟩) (Kd.R_far (p := ⟨gb657, 4, none⟩) (Kd.R_far (p := ⟨gb657, 3, none⟩) (Kd.R_far (p := ⟨gb657, 2, none⟩) (Kd.R_far (p := ⟨gb657, 1, none⟩) (Kd.R_far (p := ⟨gb657, 0, none⟩) (Kd.R_types HO669.out BK657.out (by decide)) (fun _ hk => hk.2) (.string t658)) (fun _ hk => hk.2) (.int .i64 t659)) (fun _ hk => hk.2) (.int .i64 t660)) (fun _ hk => hk.2) (.int .i64 t661)) (fun _ hk => hk.2) (.int .i64 t662)) (fun _ hk => hk.2) (.int .i64 t663)) (fun _ hk => hk.2) (.slice Ao24 t667.length co24)) (fun _ hk => hk.2) (.int .i64 0)) (fun _ hk => trivial), by repeat (first | (with_reducible first | exact HB.out | apply below_alloc | apply pw_below_drewN | apply below_drew1 | refine below_set ?_ GE657.out | refine below_set ?_ GE665.out) | exact HB.out)⟩
          · rw [if_neg c13] at H
            exact absurd H (by simp)
        · rw [if_neg c12] at H
          exact absurd H (by simp)
      · rw [if_neg c11] at H
        have c11b0 : ((Int.tmod t663 2) == 0) = false := beq_eq_false_iff_ne.mpr c11
        have c11b1 : ((Int.tmod t663 2) != 0) = true := bne_iff_ne.mpr c11
        obtain ⟨ji33, hji33⟩ : ∃ j_ : Int, (wrap64 (60 + t663)) = j_ := ⟨_, rfl⟩
        replace H : (if 0 ≤ (ji33) then (if (ji33) < (l0.length : Int) then (if (rd l0 (ji33)) = 10 then (if 60 ≤ (ji33) then (if (ji33) ≤ (l0.length : Int) then ((slices_Clone_byte_byte.f ((l0.take ((ji33) : Int).toNat).drop 60)).bind fun t672 => (some (t658, t659, t660, t661, t662, t663, t672, 0, wrap64 ((ji33) + (Int.tmod t663 2))))) else (none)) else (none)) else (some ((⟨#[]⟩ : ByteArray), 0, 0, 0, 0, 0, ([] : List Int), 5, 0))) else (none)) else (none)) = some (r1, r2, r3, r4, r5, r6, r7, r8, r9) := by first | (rw [hji33] at H; exact H) | (simp only [hji33] at H ⊢; exact H)
        (try rw [hji33] at c4b0)
        (try rw [hji33] at A2)
        have hji33w : (IntKind.i64.wrap (60 + t663)) = ji33 := (i64_w _).trans hji33
        by_cases c34 : 0 ≤ (ji33)
        · rw [if_pos c34] at H
          have c34b0 : decide (0 ≤ (ji33)) = true := decide_eq_true c34
          clear c34
          by_cases c35 : (ji33) < (l0.length : Int)
          · rw [if_pos c35] at H
            have c35b0 : decide ((ji33) < (l0.length : Int)) = true := decide_eq_true c35
            clear c35
            by_cases c36 : (rd l0 (ji33)) = 10
            · rw [if_pos c36] at H
              have c36b0 : ((rd l0 (ji33)) == 10) = true := beq_iff_eq.mpr c36
              have c36b1 : ((rd l0 (ji33)) != 10) = false := bne_eq_false_iff_eq.mpr c36
              clear c36
              by_cases c37 : 60 ≤ (ji33)
              · rw [if_pos c37] at H
                have c37b0 := eq_true c37
                have c37b1 : decide (60 ≤ (ji33)) = true := decide_eq_true c37
                clear c37
                by_cases c38 : (ji33) ≤ (l0.length : Int)
                · rw [if_pos c38] at H
                  have c38b0 := eq_true c38
                  have c38b1 : decide ((ji33) ≤ (l0.length : Int)) = true := decide_eq_true c38
                  clear c38
                  replace H := Option.bind_eq_some_iff.mp H
                  obtain ⟨t672, A390, H⟩ := H
                  replace H : (some (t658, t659, t660, t661, t662, t663, t672, 0, wrap64 ((ji33) + (Int.tmod t663 2)))) = some (r1, r2, r3, r4, r5, r6, r7, r8, r9) := H
                  have A39 := Aside0.mk A390
                  clear A390
                  simp only [Option.some.injEq, Prod.mk.injEq] at H
                  obtain ⟨rfl, rfl, rfl, rfl, rfl, rfl, rfl, rfl, rfl⟩ := H
                  go_enter Tryd.func65, Tryd.ntmps65
                  try go_wp2_with (first | ((with_reducible refine gate_dst (N := 2) rfl ?_); refine box_event ?hg (N := 2) ?hd (cs := #[.string (⟨#[]⟩ : ByteArray), .int .i64 0, .int .i64 0, .int .i64 0, .int .i64 0, .int .i64 0, .slice none 0 0, .int .i64 0]) (t := 86) ?hr ?_; (case hd => rfl); (case hg => rfl); (case hr => first | (go_simp; done) | (go_simp; rfl)); intro gb657 hg w40 hbox hb; have n0_ := Aside0.mk (below_step (by repeat (first | (with_reducible first | exact HB.out | apply below_alloc | apply pw_below_drewN | apply below_drew1) | exact HB.out)) hb); have n1_ := Aside0.mk (hbox); have n2_ := Aside0.mk ((by rw [hg]; exact (below_size (by repeat (first | (with_reducible first | exact HB.out | apply below_alloc | apply pw_below_drewN | apply below_drew1) | exact HB.out))) : w.heap.size ≤ gb657)); have n3_ := Aside0.mk ((by rw [hg]; exact (below_size (by repeat (first | (with_reducible first | exact HB.out | apply below_alloc | apply pw_below_drewN | apply below_drew1) | exact HB.out))) : w.heap.size ≤ gb657)); clear HB; have HB := n0_; have BK657 := n1_; have GW657 := n2_; have GE657 := n3_; clear n0_ n1_ n2_ n3_; clear hb hbox hg) | ((with_reducible refine gate_callee (f := 78) rfl ?_); refine goesL_ (some 9) rfl rfl Tryd.func78 (by kernel_rfl) rfl #[.slice A0 l0.length c0] rfl (by (try simp only [List.map_toArray, List.map_cons, List.map_nil]); first | done | rfl | (simp only [List.length_drop, List.length_take]; rfl)) ?_; (with_reducible refine (header_Decode.calls _ _ l0 t658 t659 t660 t661 t662 t663 t664 _ ?side1 ?side2 A2.out).mono ?_); (case side1 => repeat (first | exact (Kd.C_below HR0.out HB.out) | (with_reducible refine Kd.C_alloc ?_ _) | (with_reducible refine Kd.C_drewN ?_ _) | (with_reducible refine Kd.C_drew ?_))); (case side2 => exact HC0.out); rintro e w41 ⟨rfl, hb⟩; refine ⟨_, rfl, ?_⟩; have n0_ := Aside0.mk (blk_below (g := gb657) (o := .cells #[.string (⟨#[]⟩ : ByteArray), .int .i64 0, .int .i64 0, .int .i64 0, .int .i64 0, .int .i64 0, .slice none 0 0, .int .i64 0] 86 (0, 0)) (by (with_reducible repeat (first | refine blk_drewN ?_ _ | refine blk_drew ?_ | refine blk_alloc ?_ _)); exact BK657.out) hb); have n1_ := Aside0.mk (below_step (by repeat (first | (with_reducible first | exact HB.out | apply below_alloc | apply pw_below_drewN | apply below_drew1 | refine below_set ?_ GE657.out) | exact HB.out)) hb); clear BK657; clear HB; have BK657 := n0_; have HB := n1_; clear n0_ n1_; (try clear hb); (try clear hb2); (try clear hk); (try clear hi)) | ((with_reducible refine gate_dst (N := 4) rfl ?_); refine box_event ?hg (N := 4) ?hd (cs := #[.string (⟨#[]⟩ : ByteArray), .int .i64 0, .int .i64 0, .int .i64 0, .int .i64 0, .int .i64 0]) (t := 84) ?hr ?_; (case hd => rfl); (case hg => rfl); (case hr => first | (go_simp; done) | (go_simp; rfl)); intro gb665 hg w42 hbox hb; have n0_ := Aside0.mk (blk_below (g := gb657) (o := .cells #[.string (⟨#[]⟩ : ByteArray), .int .i64 0, .int .i64 0, .int .i64 0, .int .i64 0, .int .i64 0, .slice none 0 0, .int .i64 0] 86 (0, 0)) (by (with_reducible repeat (first | refine blk_drewN ?_ _ | refine blk_drew ?_ | refine blk_alloc ?_ _)); exact BK657.out) hb); have n1_ := Aside0.mk (below_step (by repeat (first | (with_reducible first | exact HB.out | apply below_alloc | apply pw_below_drewN | apply below_drew1 | refine below_set ?_ GE657.out) | exact HB.out)) hb); have n2_ := Aside0.mk (hbox); have n3_ := Aside0.mk ((by rw [hg]; exact (below_size (by repeat (first | (with_reducible first | exact HB.out | apply below_alloc | apply pw_below_drewN | apply below_drew1 | refine below_set ?_ GE657.out) | exact HB.out))) : w.heap.size ≤ gb665)); have n4_ := Aside0.mk ((by rw [hg]; exact (below_size (by repeat (first | (with_reducible first | exact HB.out | apply below_alloc | apply pw_below_drewN | apply below_drew1 | refine below_set ?_ GE657.out) | exact HB.out))) : w.heap.size ≤ gb665)); have n5_ := Aside0.mk ((by rw [hg]; exact Nat.ne_of_lt (blk_lt (g := gb657) (o := .cells #[.string (⟨#[]⟩ : ByteArray), .int .i64 0, .int .i64 0, .int .i64 0, .int .i64 0, .int .i64 0, .slice none 0 0, .int .i64 0] 86 (0, 0)) (by (with_reducible repeat (first | refine blk_drewN ?_ _ | refine blk_drew ?_ | refine blk_alloc ?_ _)); exact BK657.out)) : gb657 ≠ gb665)); have n6_ := Aside0.mk ((by rw [hg]; exact Nat.ne_of_gt (blk_lt (g := gb657) (o := .cells #[.string (⟨#[]⟩ : ByteArray), .int .i64 0, .int .i64 0, .int .i64 0, .int .i64 0, .int .i64 0, .slice none 0 0, .int .i64 0] 86 (0, 0)) (by (with_reducible repeat (first | refine blk_drewN ?_ _ | refine blk_drew ?_ | refine blk_alloc ?_ _)); exact BK657.out)) : gb665 ≠ gb657)); clear BK657; clear HB; have BK657 := n0_; have HB := n1_; have BK665 := n2_; have GW665 := n3_; have GE665 := n4_; have NB657_665 := n5_; have NB665_657 := n6_; clear n0_ n1_ n2_ n3_ n4_ n5_ n6_; clear hb hbox hg; have hnb43 := NB665_657.out; have hnc43 := NB657_665.out; have hcz44_0 : w42.cell? ⟨gb665, 0, none⟩ = some (.string (⟨#[]⟩ : ByteArray)) := (blk_cell BK665.out 0).trans rfl; have hcz44_1 : w42.cell? ⟨gb665, 1, none⟩ = some (.int .i64 0) := (blk_cell BK665.out 1).trans rfl; have hcz44_2 : w42.cell? ⟨gb665, 2, none⟩ = some (.int .i64 0) := (blk_cell BK665.out 2).trans rfl; have hcz44_3 : w42.cell? ⟨gb665, 3, none⟩ = some (.int .i64 0) := (blk_cell BK665.out 3).trans rfl; have hcz44_4 : w42.cell? ⟨gb665, 4, none⟩ = some (.int .i64 0) := (blk_cell BK665.out 4).trans rfl; have hcz44_5 : w42.cell? ⟨gb665, 5, none⟩ = some (.int .i64 0) := (blk_cell BK665.out 5).trans rfl; have hfz44_0 := blk_frozen BK665.out 0; have hfz44_1 := blk_frozen BK665.out 1; have hfz44_2 := blk_frozen BK665.out 2; have hfz44_3 := blk_frozen BK665.out 3; have hfz44_4 := blk_frozen BK665.out 4; have hfz44_5 := blk_frozen BK665.out 5; have p670 : 0 ≤ ((ji33) : Int) := of_decide_eq_true (by first | (with_reducible assumption) | assumption); have q670 : (ji33) < (l0.length : Int) := of_decide_eq_true (by first | (with_reducible assumption) | assumption); obtain ⟨ad670, e670, hx670_0⟩ := Kd.at_int HR0.out (ji33) p670 q670; cases e670; have hn670_0 : ad670.block ≠ gb665 := Nat.ne_of_lt (Nat.lt_of_lt_of_le (by have := World.block_lt_of_cell? _ _ hx670_0; first | rwa [add_block] at this | exact this) GW665.out); have hn670_1 : ad670.block ≠ gb665 := Nat.ne_of_lt (Nat.lt_of_lt_of_le (by have := World.block_lt_of_cell? _ _ hx670_0; first | rwa [add_block] at this | exact this) GW665.out); have hn670_2 : ad670.block ≠ gb665 := Nat.ne_of_lt (Nat.lt_of_lt_of_le (by have := World.block_lt_of_cell? _ _ hx670_0; first | rwa [add_block] at this | exact this) GW665.out); have hn670_3 : ad670.block ≠ gb665 := Nat.ne_of_lt (Nat.lt_of_lt_of_le (by have := World.block_lt_of_cell? _ _ hx670_0; first | rwa [add_block] at this | exact this) GW665.out); have hn670_4 : ad670.block ≠ gb665 := Nat.ne_of_lt (Nat.lt_of_lt_of_le (by have := World.block_lt_of_cell? _ _ hx670_0; first | rwa [add_block] at this | exact this) GW665.out); have hn670_5 : ad670.block ≠ gb665 := Nat.ne_of_lt (Nat.lt_of_lt_of_le (by have := World.block_lt_of_cell? _ _ hx670_0; first | rwa [add_block] at this | exact this) GW665.out); replace hx670_0 := (HB.out.cell (World.block_lt_of_cell? w _ hx670_0)).trans hx670_0; replace hx670_0 := (cell_far (p := ⟨gb665, 0, none⟩) (by first | (rw [add_block]; exact hn670_0) | (show (Addr.add _ _).block ≠ _; rw [add_block]; exact hn670_0) | exact hn670_0) (.string t658)).trans hx670_0; replace hx670_0 := (cell_far (p := ⟨gb665, 1, none⟩) (by first | (rw [add_block]; exact hn670_1) | (show (Addr.add _ _).block ≠ _; rw [add_block]; exact hn670_1) | exact hn670_1) (.int .i64 t659)).trans hx670_0; replace hx670_0 := (cell_far (p := ⟨gb665, 2, none⟩) (by first | (rw [add_block]; exact hn670_2) | (show (Addr.add _ _).block ≠ _; rw [add_block]; exact hn670_2) | exact hn670_2) (.int .i64 t660)).trans hx670_0; replace hx670_0 := (cell_far (p := ⟨gb665, 3, none⟩) (by first | (rw [add_block]; exact hn670_3) | (show (Addr.add _ _).block ≠ _; rw [add_block]; exact hn670_3) | exact hn670_3) (.int .i64 t661)).trans hx670_0; replace hx670_0 := (cell_far (p := ⟨gb665, 4, none⟩) (by first | (rw [add_block]; exact hn670_4) | (show (Addr.add _ _).block ≠ _; rw [add_block]; exact hn670_4) | exact hn670_4) (.int .i64 t662)).trans hx670_0; replace hx670_0 := (cell_far (p := ⟨gb665, 5, none⟩) (by first | (rw [add_block]; exact hn670_5) | (show (Addr.add _ _).block ≠ _; rw [add_block]; exact hn670_5) | exact hn670_5) (.int .i64 t663)).trans hx670_0; clear hn670_0; clear hn670_1; clear hn670_2; clear hn670_3; clear hn670_4; clear hn670_5; replace p670 := eq_true p670; replace q670 := eq_true q670))
                  have n0_ : Aside0 (((((((w42.setCell ⟨gb665, 0, none⟩ (.string t658)).setCell ⟨gb665, 1, none⟩ (.int .i64 t659)).setCell ⟨gb665, 2, none⟩ (.int .i64 t660)).setCell ⟨gb665, 3, none⟩ (.int .i64 t661)).setCell ⟨gb665, 4, none⟩ (.int .i64 t662)).setCell ⟨gb665, 5, none⟩ (.int .i64 t663)).heap[gb657]? = some (.cells #[.string (⟨#[]⟩ : ByteArray), .int .i64 0, .int .i64 0, .int .i64 0, .int .i64 0, .int .i64 0, .slice none 0 0, .int .i64 0] 86 (0, 0))) := ⟨by (with_reducible repeat (first | refine blk_drewN ?_ _ | refine blk_drew ?_ | refine blk_alloc ?_ _)); refine blk_far ?_ NB657_665.out _; (with_reducible repeat (first | refine blk_drewN ?_ _ | refine blk_drew ?_ | refine blk_alloc ?_ _)); refine blk_far ?_ NB657_665.out _; (with_reducible repeat (first | refine blk_drewN ?_ _ | refine blk_drew ?_ | refine blk_alloc ?_ _)); refine blk_far ?_ NB657_665.out _; (with_reducible repeat (first | refine blk_drewN ?_ _ | refine blk_drew ?_ | refine blk_alloc ?_ _)); refine blk_far ?_ NB657_665.out _; (with_reducible repeat (first | refine blk_drewN ?_ _ | refine blk_drew ?_ | refine blk_alloc ?_ _)); refine blk_far ?_ NB657_665.out _; (with_reducible repeat (first | refine blk_drewN ?_ _ | refine blk_drew ?_ | refine blk_alloc ?_ _)); refine blk_far ?_ NB657_665.out _; (with_reducible repeat (first | refine blk_drewN ?_ _ | refine blk_drew ?_ | refine blk_alloc ?_ _)); exact BK657.out⟩
                  have n1_ : Aside0 (((((((w42.setCell ⟨gb665, 0, none⟩ (.string t658)).setCell ⟨gb665, 1, none⟩ (.int .i64 t659)).setCell ⟨gb665, 2, none⟩ (.int .i64 t660)).setCell ⟨gb665, 3, none⟩ (.int .i64 t661)).setCell ⟨gb665, 4, none⟩ (.int .i64 t662)).setCell ⟨gb665, 5, none⟩ (.int .i64 t663)).heap[gb665]? = some (.cells #[.string t658, .int .i64 t659, .int .i64 t660, .int .i64 t661, .int .i64 t662, .int .i64 t663] 84 (0, 0))) := ⟨by (with_reducible repeat (first | refine blk_drewN ?_ _ | refine blk_drew ?_ | refine blk_alloc ?_ _)); refine blk_put (cs := #[.string t658, .int .i64 t659, .int .i64 t660, .int .i64 t661, .int .i64 t662, .int .i64 0]) ?_ 5 _ rfl; (with_reducible repeat (first | refine blk_drewN ?_ _ | refine blk_drew ?_ | refine blk_alloc ?_ _)); refine blk_put (cs := #[.string t658, .int .i64 t659, .int .i64 t660, .int .i64 t661, .int .i64 0, .int .i64 0]) ?_ 4 _ rfl; (with_reducible repeat (first | refine blk_drewN ?_ _ | refine blk_drew ?_ | refine blk_alloc ?_ _)); refine blk_put (cs := #[.string t658, .int .i64 t659, .int .i64 t660, .int .i64 0, .int .i64 0, .int .i64 0]) ?_ 3 _ rfl; (with_reducible repeat (first | refine blk_drewN ?_ _ | refine blk_drew ?_ | refine blk_alloc ?_ _)); refine blk_put (cs := #[.string t658, .int .i64 t659, .int .i64 0, .int .i64 0, .int .i64 0, .int .i64 0]) ?_ 2 _ rfl; (with_reducible repeat (first | refine blk_drewN ?_ _ | refine blk_drew ?_ | refine blk_alloc ?_ _)); refine blk_put (cs := #[.string t658, .int .i64 0, .int .i64 0, .int .i64 0, .int .i64 0, .int .i64 0]) ?_ 1 _ rfl; (with_reducible repeat (first | refine blk_drewN ?_ _ | refine blk_drew ?_ | refine blk_alloc ?_ _)); refine blk_put (cs := #[.string (⟨#[]⟩ : ByteArray), .int .i64 0, .int .i64 0, .int .i64 0, .int .i64 0, .int .i64 0]) ?_ 0 _ rfl; (with_reducible repeat (first | refine blk_drewN ?_ _ | refine blk_drew ?_ | refine blk_alloc ?_ _)); exact BK665.out⟩
                  have n2_ : Aside0 (Below w.heap.size w ((((((w42.setCell ⟨gb665, 0, none⟩ (.string t658)).setCell ⟨gb665, 1, none⟩ (.int .i64 t659)).setCell ⟨gb665, 2, none⟩ (.int .i64 t660)).setCell ⟨gb665, 3, none⟩ (.int .i64 t661)).setCell ⟨gb665, 4, none⟩ (.int .i64 t662)).setCell ⟨gb665, 5, none⟩ (.int .i64 t663))) := ⟨by repeat (first | (with_reducible first | exact HB.out | apply below_alloc | apply pw_below_drewN | apply below_drew1 | refine below_set ?_ GE657.out | refine below_set ?_ GE665.out) | exact HB.out)⟩
                  (try clear BK657)
                  (try clear BK665)
                  (try clear HB)
                  generalize ((((((w42.setCell ⟨gb665, 0, none⟩ (.string t658)).setCell ⟨gb665, 1, none⟩ (.int .i64 t659)).setCell ⟨gb665, 2, none⟩ (.int .i64 t660)).setCell ⟨gb665, 3, none⟩ (.int .i64 t661)).setCell ⟨gb665, 4, none⟩ (.int .i64 t662)).setCell ⟨gb665, 5, none⟩ (.int .i64 t663)) = w45 at n0_ n1_ n2_ ⊢
                  have BK657 := n0_
                  have BK665 := n1_
                  have HB := n2_
                  clear n0_ n1_ n2_
                  have n0_ := Aside0.mk (blk_drew BK657.out)
                  have n1_ := Aside0.mk (blk_drew BK665.out)
                  have n2_ := Aside0.mk (below_drew1 HB.out)
                  clear BK657
                  clear BK665
                  clear HB
                  have BK657 := n0_
                  have BK665 := n1_
                  have HB := n2_
                  clear n0_ n1_ n2_
                  obtain ⟨i047, hi047, _, hsz47, _⟩ := info_parts info5
                  obtain ⟨A47, hcut47, hA47, hC47⟩ := print_mid_of (P := Tryd.prog) (Value.int .u8) 0 22 5 .i64 .i64 Tryd.underlying22 hi047 hsz47 (some ad670) c0 l0 60 (ji33) (by omega) (by first | omega | exact of_decide_eq_true (by first | (with_reducible assumption) | assumption)) (of_decide_eq_true (by first | (with_reducible assumption) | assumption)) HC0.out
                  have HR671 := Aside0.mk (Kd.C_of_reads (h1 := fun _ => rfl) (hA47 _ (Kd.reads_of_C HR0.out)))
                  have HC671 := Aside0.mk hC47
                  clear hA47 hC47 hi047 hsz47
                  refine start_ (n := 13) (S := fun w' => w'.cell? ⟨gb665, 0, none⟩ = some (.string t658) ∧ w'.cell? ⟨gb665, 1, none⟩ = some (.int .i64 t659) ∧ w'.cell? ⟨gb665, 2, none⟩ = some (.int .i64 t660) ∧ w'.cell? ⟨gb665, 3, none⟩ = some (.int .i64 t661) ∧ w'.cell? ⟨gb665, 4, none⟩ = some (.int .i64 t662) ∧ w'.cell? ⟨gb665, 5, none⟩ = some (.int .i64 t663)) (ds := []) #[false, false, false, false, false, false, false, false, false, false, false, false, false] (by kernel_rfl) rfl rfl ⟨(blk_cell BK665.out 0).trans rfl, (blk_cell BK665.out 1).trans rfl, (blk_cell BK665.out 2).trans rfl, (blk_cell BK665.out 3).trans rfl, (blk_cell BK665.out 4).trans rfl, (blk_cell BK665.out 5).trans rfl⟩ (fun hHeld => ?_); refine with_tabW arparse_next.tab9 arparse_next.bits9 (fun HT_ HW_ => ?_)
                  generalize w45.drew = w46 at BK657 BK665 HB HR671 hHeld ⊢
                  refine pure_ (i := 1) (N := some 41) (v := ?_) (a' := ?_) #[false, true, false, false, false, false, false, false, false, false, false, false, false] rfl rfl (any_of HT_.out (by kernel_rfl)) (fun _ _ _ h => h) (Or.inl ⟨by rfl, ?_⟩) ?_ ?_
                  rotate_left
                  · intro w'
                    go_simp
                    with_reducible rfl
                  rotate_left
                  · simp only [Act.put, List.setIfInBounds_toArray, List.set_cons_zero, List.set_cons_succ, i64_w, i32_w]
                    rfl
                  refine pure_ (i := 2) (N := some 42) (v := ?_) (a' := ?_) #[false, true, true, false, false, false, false, false, false, false, false, false, false] rfl rfl (any_of HT_.out (by kernel_rfl)) (fun _ _ _ h => h) (Or.inl ⟨by rfl, ?_⟩) ?_ ?_
                  rotate_left
                  · intro w'
                    go_simp
                    with_reducible rfl
                  rotate_left
                  · simp only [Act.put, List.setIfInBounds_toArray, List.set_cons_zero, List.set_cons_succ, i64_w, i32_w]
                    rfl
                  refine pure_ (i := 3) (N := some 43) (v := ?_) (a' := ?_) #[false, true, true, true, false, false, false, false, false, false, false, false, false] rfl rfl (any_of HT_.out (by kernel_rfl)) (fun _ _ _ h => h) (Or.inl ⟨by rfl, ?_⟩) ?_ ?_
                  rotate_left
                  · intro w'
                    go_simp
                    with_reducible rfl
                  rotate_left
                  · simp only [Act.put, List.setIfInBounds_toArray, List.set_cons_zero, List.set_cons_succ, i64_w, i32_w]
                    rfl
                  refine pure_ (i := 6) (N := some 46) (v := ?_) (a' := ?_) #[false, true, true, true, false, false, true, false, false, false, false, false, false] rfl rfl (any_of HT_.out (by kernel_rfl)) (fun _ _ _ h => h) (Or.inl ⟨by rfl, ?_⟩) ?_ ?_
                  rotate_left
                  · intro w'
                    go_simp
                    with_reducible rfl
                  rotate_left
                  · simp only [Act.put, List.setIfInBounds_toArray, List.set_cons_zero, List.set_cons_succ, i64_w, i32_w]
                    rfl
                  refine pure_ (i := 7) (N := some 47) (v := ?_) (a' := ?_) #[false, true, true, true, false, false, true, true, false, false, false, false, false] rfl rfl (any_of HT_.out (by kernel_rfl)) (fun _ _ _ h => h) (Or.inl ⟨by rfl, ?_⟩) ?_ ?_
                  rotate_left
                  · intro w'
                    go_simp
                    with_reducible rfl
                  rotate_left
                  · simp only [Act.put, List.setIfInBounds_toArray, List.set_cons_zero, List.set_cons_succ, i64_w, i32_w]
                    rfl
                  refine take_ (i := 0) (N := some 40) (v := ?_) (a' := ?_) #[true, true, true, true, false, false, true, true, false, false, false, false, false] rfl rfl (take_ofW HT_.out HW_.out (by kernel_rfl)) (fun _ _ _ h => h) (Or.inl ⟨by rfl, ?_⟩) hHeld ?_ ?_
                  rotate_left
                  · rintro w' ⟨s0, s1, s2, s3, s4, s5⟩
                    go_simp
                    with_reducible rfl
                  rotate_left
                  · simp only [Act.put, List.setIfInBounds_toArray, List.set_cons_zero, List.set_cons_succ, i64_w, i32_w]
                    rfl
                  refine take_ (i := 8) (N := some 48) (v := ?_) (a' := ?_) #[true, true, true, true, false, false, true, true, true, false, false, false, false] rfl rfl (take_ofW HT_.out HW_.out (by kernel_rfl)) (fun _ _ _ h => h) (Or.inl ⟨by rfl, ?_⟩) hHeld ?_ ?_
                  rotate_left
                  · rintro w' ⟨s0, s1, s2, s3, s4, s5⟩
                    go_simp
                    with_reducible rfl
                  rotate_left
                  · simp only [Act.put, List.setIfInBounds_toArray, List.set_cons_zero, List.set_cons_succ, i64_w, i32_w]
                    rfl
                  refine pure_ (i := 9) (N := some 49) (v := ?_) (a' := ?_) #[true, true, true, true, false, false, true, true, true, true, false, false, false] rfl rfl (any_of HT_.out (by kernel_rfl)) (fun _ _ _ h => h) (Or.inl ⟨by rfl, ?_⟩) ?_ ?_
                  rotate_left
                  · intro w'
                    go_simp
                    with_reducible rfl
                  rotate_left
                  · simp only [Act.put, List.setIfInBounds_toArray, List.set_cons_zero, List.set_cons_succ, i64_w, i32_w]
                    rfl
                  refine pure_ (i := 10) (N := some 50) (v := ?_) (a' := ?_) #[true, true, true, true, false, false, true, true, true, true, true, false, false] rfl rfl (any_of HT_.out (by kernel_rfl)) (fun _ _ _ h => h) (Or.inl ⟨by rfl, ?_⟩) ?_ ?_
                  rotate_left
                  · intro w'
                    go_simp
                    with_reducible rfl
                  rotate_left
                  · simp only [Act.put, List.setIfInBounds_toArray, List.set_cons_zero, List.set_cons_succ, i64_w, i32_w]
                    rfl
                  refine one_ (i := 4) (N := some 44) #[true, true, true, true, true, false, true, true, true, true, true, false, false] rfl rfl (one_of HT_.out (by kernel_rfl)) (by decide) (fun K hK => ?_)
                  refine goes_ Tryd.func79 (by kernel_rfl) rfl #[.slice A47 ((l0.take ((ji33) : Int).toNat).drop 60).length (c0 - 60)] (by rfl) rfl rfl (by (try simp only [List.map_toArray, List.map_cons, List.map_nil]); first | done | (rw [show ((l0.take ((ji33) : Int).toNat).drop 60).length = ((ji33).toNat - 60) from (by rw [List.length_drop, List.length_take]; have h_ : ((ji33) : Int) ≤ (l0.length : Int) := of_decide_eq_true (by first | (with_reducible assumption) | assumption); omega)] <;> rfl) | (simp only [hji33]; rfl) | rfl | (simp only [List.length_drop, List.length_take]; rfl)) ?_
                  with_reducible refine (slices_Clone_byte_byte.calls _ _ ((l0.take ((ji33) : Int).toNat).drop 60) t672 _ ?side1 ?side2 A39.out).mono ?_
                  (case side1 => repeat (first | exact (Kd.C_below HR671.out HB.out) | (with_reducible refine Kd.C_alloc ?_ _) | (with_reducible refine Kd.C_drewN ?_ _) | (with_reducible refine Kd.C_drew ?_)))
                  (case side2 => exact HC671.out)
                  rintro e w48 ⟨v673, rfl, ho0, hb⟩
                  refine ⟨_, rfl, ?_⟩
                  have n0_ := Aside0.mk (Kd.R_lower ho0 (below_size (by repeat (first | (with_reducible first | exact HB.out | apply below_alloc | apply pw_below_drewN | apply below_drew1 | refine below_set ?_ GE657.out | refine below_set ?_ GE665.out) | exact HB.out))))
                  have n1_ := Aside0.mk (blk_below (g := gb657) (o := .cells #[.string (⟨#[]⟩ : ByteArray), .int .i64 0, .int .i64 0, .int .i64 0, .int .i64 0, .int .i64 0, .slice none 0 0, .int .i64 0] 86 (0, 0)) (by (with_reducible repeat (first | refine blk_drewN ?_ _ | refine blk_drew ?_ | refine blk_alloc ?_ _)); exact BK657.out) hb)
                  have n2_ := Aside0.mk (blk_below (g := gb665) (o := .cells #[.string t658, .int .i64 t659, .int .i64 t660, .int .i64 t661, .int .i64 t662, .int .i64 t663] 84 (0, 0)) (by (with_reducible repeat (first | refine blk_drewN ?_ _ | refine blk_drew ?_ | refine blk_alloc ?_ _)); exact BK665.out) hb)
                  have n3_ := Aside0.mk (below_step (by repeat (first | (with_reducible first | exact HB.out | apply below_alloc | apply pw_below_drewN | apply below_drew1 | refine below_set ?_ GE657.out | refine below_set ?_ GE665.out) | exact HB.out)) hb)
                  clear BK657
                  clear BK665
                  clear HB
                  have HO674 := n0_
                  have BK657 := n1_
                  have BK665 := n2_
                  have HB := n3_
                  clear n0_ n1_ n2_ n3_
                  (try clear hb)
                  (try clear hb2)
                  (try clear hk)
                  (try clear hi)
                  (try clear ho0)
                  obtain ⟨Ao49, co49, eo49⟩ := Kd.R_slice HO674.out
                  (first | subst eo49 | (injection eo49 with f1_ f2_ f3_; have f4_ := f1_.symm; have f5_ := f3_.symm; clear f1_ f2_ f3_; subst f4_; subst f5_))
                  refine hK.out _ _ ⟨(blk_cell BK665.out 0).trans rfl, (blk_cell BK665.out 1).trans rfl, (blk_cell BK665.out 2).trans rfl, (blk_cell BK665.out 3).trans rfl, (blk_cell BK665.out 4).trans rfl, (blk_cell BK665.out 5).trans rfl⟩ (fun hHeld => ?_)
                  clear hK K
                  refine norm_ (a' := ?_) ?_ ?_
                  rotate_left
                  · show Act.put _ (some 44) _ = _
                    simp only [Act.put, List.setIfInBounds_toArray, List.set_cons_zero, List.set_cons_succ, i64_w, i32_w]
                    rfl
                  refine pure_ (i := 5) (N := some 45) (v := ?_) (a' := ?_) #[true, true, true, true, true, true, true, true, true, true, true, false, false] rfl rfl (any_of HT_.out (by kernel_rfl)) (fun _ _ _ h => h) (Or.inl ⟨by rfl, ?_⟩) ?_ ?_
                  rotate_left
                  · intro w'
                    go_simp
                    with_reducible rfl
                  rotate_left
                  · simp only [Act.put, List.setIfInBounds_toArray, List.set_cons_zero, List.set_cons_succ, i64_w, i32_w]
                    rfl
                  refine one_ (i := 11) (N := none) #[true, true, true, true, true, true, true, true, true, true, true, true, false] rfl rfl (one_of HT_.out (by kernel_rfl)) (by decide) (fun K hK => ?_)
                  have hs50 : w48.cell? ⟨gb657, 0, none⟩ = some (.string (⟨#[]⟩ : ByteArray)) := (blk_cell BK657.out 0).trans rfl
                  have hfs50 := blk_frozen BK657.out 0
                  have hns50_1 := NB665_657.out
                  have hms50_1 := NB657_665.out
                  have hs51 : w48.cell? ⟨gb657, 1, none⟩ = some (.int .i64 0) := (blk_cell BK657.out 1).trans rfl
                  have hfs51 := blk_frozen BK657.out 1
                  have hns51_1 := NB665_657.out
                  have hms51_1 := NB657_665.out
                  have hs52 : w48.cell? ⟨gb657, 2, none⟩ = some (.int .i64 0) := (blk_cell BK657.out 2).trans rfl
                  have hfs52 := blk_frozen BK657.out 2
                  have hns52_1 := NB665_657.out
                  have hms52_1 := NB657_665.out
                  have hs53 : w48.cell? ⟨gb657, 3, none⟩ = some (.int .i64 0) := (blk_cell BK657.out 3).trans rfl
                  have hfs53 := blk_frozen BK657.out 3
                  have hns53_1 := NB665_657.out
                  have hms53_1 := NB657_665.out
                  have hs54 : w48.cell? ⟨gb657, 4, none⟩ = some (.int .i64 0) := (blk_cell BK657.out 4).trans rfl
                  have hfs54 := blk_frozen BK657.out 4
                  have hns54_1 := NB665_657.out
                  have hms54_1 := NB657_665.out
                  have hs55 : w48.cell? ⟨gb657, 5, none⟩ = some (.int .i64 0) := (blk_cell BK657.out 5).trans rfl
                  have hfs55 := blk_frozen BK657.out 5
                  have hns55_1 := NB665_657.out
                  have hms55_1 := NB657_665.out
                  have hs56 : w48.cell? ⟨gb657, 6, none⟩ = some (.slice none 0 0) := (blk_cell BK657.out 6).trans rfl
                  have hfs56 := blk_frozen BK657.out 6
                  have hns56_1 := NB665_657.out
                  have hms56_1 := NB657_665.out
                  have hs57 : w48.cell? ⟨gb657, 7, none⟩ = some (.int .i64 0) := (blk_cell BK657.out 7).trans rfl
                  have hfs57 := blk_frozen BK657.out 7
                  have hns57_1 := NB665_657.out
                  have hms57_1 := NB657_665.out
                  refine skip_ (w1 := ?_) (by rfl) rfl ?_ ?_
                  rotate_left
                  · go_simp
                    rfl
                  refine hK.out _ _ ⟨((cell_far (p := ⟨gb657, _, none⟩) NB665_657.out _).trans (((cell_far (p := ⟨gb657, _, none⟩) NB665_657.out _).trans (((cell_far (p := ⟨gb657, _, none⟩) NB665_657.out _).trans (((cell_far (p := ⟨gb657, _, none⟩) NB665_657.out _).trans (((cell_far (p := ⟨gb657, _, none⟩) NB665_657.out _).trans (((cell_far (p := ⟨gb657, _, none⟩) NB665_657.out _).trans (((cell_far (p := ⟨gb657, _, none⟩) NB665_657.out _).trans (((cell_far (p := ⟨gb657, _, none⟩) NB665_657.out _).trans (hHeld.1)))))))))))))))), ((cell_far (p := ⟨gb657, _, none⟩) NB665_657.out _).trans (((cell_far (p := ⟨gb657, _, none⟩) NB665_657.out _).trans (((cell_far (p := ⟨gb657, _, none⟩) NB665_657.out _).trans (((cell_far (p := ⟨gb657, _, none⟩) NB665_657.out _).trans (((cell_far (p := ⟨gb657, _, none⟩) NB665_657.out _).trans (((cell_far (p := ⟨gb657, _, none⟩) NB665_657.out _).trans (((cell_far (p := ⟨gb657, _, none⟩) NB665_657.out _).trans (((cell_far (p := ⟨gb657, _, none⟩) NB665_657.out _).trans (hHeld.2.1)))))))))))))))), ((cell_far (p := ⟨gb657, _, none⟩) NB665_657.out _).trans (((cell_far (p := ⟨gb657, _, none⟩) NB665_657.out _).trans (((cell_far (p := ⟨gb657, _, none⟩) NB665_657.out _).trans (((cell_far (p := ⟨gb657, _, none⟩) NB665_657.out _).trans (((cell_far (p := ⟨gb657, _, none⟩) NB665_657.out _).trans (((cell_far (p := ⟨gb657, _, none⟩) NB665_657.out _).trans (((cell_far (p := ⟨gb657, _, none⟩) NB665_657.out _).trans (((cell_far (p := ⟨gb657, _, none⟩) NB665_657.out _).trans (hHeld.2.2.1)))))))))))))))), ((cell_far (p := ⟨gb657, _, none⟩) NB665_657.out _).trans (((cell_far (p := ⟨gb657, _, none⟩) NB665_657.out _).trans (((cell_far (p := ⟨gb657, _, none⟩) NB665_657.out _).trans (((cell_far (p := ⟨gb657, _, none⟩) NB665_657.out _).trans (((cell_far (p := ⟨gb657, _, none⟩) NB665_657.out _).trans (((cell_far (p := ⟨gb657, _, none⟩) NB665_657.out _).trans (((cell_far (p := ⟨gb657, _, none⟩) NB665_657.out _).trans (((cell_far (p := ⟨gb657, _, none⟩) NB665_657.out _).trans (hHeld.2.2.2.1)))))))))))))))), ((cell_far (p := ⟨gb657, _, none⟩) NB665_657.out _).trans (((cell_far (p := ⟨gb657, _, none⟩) NB665_657.out _).trans (((cell_far (p := ⟨gb657, _, none⟩) NB665_657.out _).trans (((cell_far (p := ⟨gb657, _, none⟩) NB665_657.out _).trans (((cell_far (p := ⟨gb657, _, none⟩) NB665_657.out _).trans (((cell_far (p := ⟨gb657, _, none⟩) NB665_657.out _).trans (((cell_far (p := ⟨gb657, _, none⟩) NB665_657.out _).trans (((cell_far (p := ⟨gb657, _, none⟩) NB665_657.out _).trans (hHeld.2.2.2.2.1)))))))))))))))), ((cell_far (p := ⟨gb657, _, none⟩) NB665_657.out _).trans (((cell_far (p := ⟨gb657, _, none⟩) NB665_657.out _).trans (((cell_far (p := ⟨gb657, _, none⟩) NB665_657.out _).trans (((cell_far (p := ⟨gb657, _, none⟩) NB665_657.out _).trans (((cell_far (p := ⟨gb657, _, none⟩) NB665_657.out _).trans (((cell_far (p := ⟨gb657, _, none⟩) NB665_657.out _).trans (((cell_far (p := ⟨gb657, _, none⟩) NB665_657.out _).trans (((cell_far (p := ⟨gb657, _, none⟩) NB665_657.out _).trans (hHeld.2.2.2.2.2))))))))))))))))⟩ (fun hHeld => ?_)
                  clear hK K
                  refine pure_ (i := 12) (N := some 3) (v := ?_) (a' := ?_) #[true, true, true, true, true, true, true, true, true, true, true, true, true] rfl rfl (any_of HT_.out (by kernel_rfl)) (fun _ _ _ h => h) (Or.inl ⟨by rfl, ?_⟩) ?_ ?_
                  rotate_left
                  · intro w'
                    go_simp
                    with_reducible rfl
                  rotate_left
                  · simp only [Act.put, List.setIfInBounds_toArray, List.set_cons_zero, List.set_cons_succ, i64_w, i32_w]
                    rfl
                  refine done_ (done_of HT_.out (by kernel_rfl)) ?_
                  try go_wp2
                  refine bodyPost_ret (results_ct rfl _ _ gb657 86 #[.string t658, .int .i64 t659, .int .i64 t660, .int .i64 t661, .int .i64 t662, .int .i64 t663, .slice Ao49 t672.length co49, .int .i64 0] (0, 0) _ rfl (by (with_reducible repeat (first | refine blk_drewN ?_ _ | refine blk_drew ?_ | refine blk_alloc ?_ _)); refine blk_put (cs := #[.string t658, .int .i64 t659, .int .i64 t660, .int .i64 t661, .int .i64 t662, .int .i64 t663, .slice Ao49 t672.length co49, .int .i64 0]) ?_ 7 _ rfl; (with_reducible repeat (first | refine blk_drewN ?_ _ | refine blk_drew ?_ | refine blk_alloc ?_ _)); refine blk_put (cs := #[.string t658, .int .i64 t659, .int .i64 t660, .int .i64 t661, .int .i64 t662, .int .i64 t663, .slice none 0 0, .int .i64 0]) ?_ 6 _ rfl; (with_reducible repeat (first | refine blk_drewN ?_ _ | refine blk_drew ?_ | refine blk_alloc ?_ _)); refine blk_put (cs := #[.string t658, .int .i64 t659, .int .i64 t660, .int .i64 t661, .int .i64 t662, .int .i64 0, .slice none 0 0, .int .i64 0]) ?_ 5 _ rfl; (with_reducible repeat (first | refine blk_drewN ?_ _ | refine blk_drew ?_ | refine blk_alloc ?_ _)); refine blk_put (cs := #[.string t658, .int .i64 t659, .int .i64 t660, .int .i64 t661, .int .i64 0, .int .i64 0, .slice none 0 0, .int .i64 0]) ?_ 4 _ rfl; (with_reducible repeat (first | refine blk_drewN ?_ _ | refine blk_drew ?_ | refine blk_alloc ?_ _)); refine blk_put (cs := #[.string t658, .int .i64 t659, .int .i64 t660, .int .i64 0, .int .i64 0, .int .i64 0, .slice none 0 0, .int .i64 0]) ?_ 3 _ rfl; (with_reducible repeat (first | refine blk_drewN ?_ _ | refine blk_drew ?_ | refine blk_alloc ?_ _)); refine blk_put (cs := #[.string t658, .int .i64 t659, .int .i64 0, .int .i64 0, .int .i64 0, .int .i64 0, .slice none 0 0, .int .i64 0]) ?_ 2 _ rfl; (with_reducible repeat (first | refine blk_drewN ?_ _ | refine blk_drew ?_ | refine blk_alloc ?_ _)); refine blk_put (cs := #[.string t658, .int .i64 0, .int .i64 0, .int .i64 0, .int .i64 0, .int .i64 0, .slice none 0 0, .int .i64 0]) ?_ 1 _ rfl; (with_reducible repeat (first | refine blk_drewN ?_ _ | refine blk_drew ?_ | refine blk_alloc ?_ _)); refine blk_put (cs := #[.string (⟨#[]⟩ : ByteArray), .int .i64 0, .int .i64 0, .int .i64 0, .int .i64 0, .int .i64 0, .slice none 0 0, .int .i64 0]) ?_ 0 _ rfl; (with_reducible repeat (first | refine blk_drewN ?_ _ | refine blk_drew ?_ | refine blk_alloc ?_ _)); exact BK657.out) Tryd.underlying86 rfl (by kernel_rfl)) rfl ?_
                  exact ⟨_, by first | rfl | (simp [errW_none, errW_some] <;> rfl) | (simp only [← hji33]; first | rfl | (simp [errW_none, errW_some] <;> rfl)) | (simp [*, errW_none, errW_some] <;> rfl), by (with_reducible repeat (first | apply Kd.R_alloc | apply Kd.R_drewN | apply Kd.R_drew)); exact Kd.R_mono (Kd.R_far (p := ⟨gb657, 7, none⟩) (Kd.R_far (p := ⟨gb657, 6, none⟩) (Kd.R_far (p := ⟨gb657, 5, none⟩) (Kd.R_far (p := ⟨gb657, 4, none⟩) (Kd.R_far (p := ⟨gb657, 3, none⟩) (Kd.R_far (p := ⟨gb657, 2, none⟩) (Kd.R_far (p := ⟨gb657, 1, none⟩) (Kd.R_far (p := ⟨gb657, 0, none⟩) (Kd.R_types HO674.out BK657.out (by decide)) (fun _ hk => hk.2) (.string t658)) (fun _ hk => hk.2) (.int .i64 t659)) (fun _ hk => hk.2) (.int .i64 t660)) (fun _ hk => hk.2) (.int .i64 t661)) (fun _ hk => hk.2) (.int .i64 t662)) (fun _ hk => hk.2) (.int .i64 t663)) (fun _ hk => hk.2) (.slice Ao49 t672.length co49)) (fun _ hk => hk.2) (.int .i64 0)) (fun _ hk => trivial), by repeat (first | (with_reducible first | exact HB.out | apply below_alloc | apply pw_below_drewN | apply below_drew1 | refine below_set ?_ GE657.out | refine below_set ?_ GE665.out) | exact HB.out)⟩
                · rw [if_neg c38] at H
                  exact absurd H (by simp)
              · rw [if_neg c37] at H
                exact absurd H (by simp)
            · rw [if_neg c36] at H
              have c36b0 : ((rd l0 (ji33)) == 10) = false := beq_eq_false_iff_ne.mpr c36
              have c36b1 : ((rd l0 (ji33)) != 10) = true := bne_iff_ne.mpr c36
              simp only [Option.some.injEq, Prod.mk.injEq] at H
              obtain ⟨rfl, rfl, rfl, rfl, rfl, rfl, rfl, rfl, rfl⟩ := H
              go_enter Tryd.func65, Tryd.ntmps65
              go_wp2_with (first | ((with_reducible refine gate_dst (N := 2) rfl ?_); refine box_event ?hg (N := 2) ?hd (cs := #[.string (⟨#[]⟩ : ByteArray), .int .i64 0, .int .i64 0, .int .i64 0, .int .i64 0, .int .i64 0, .slice none 0 0, .int .i64 0]) (t := 86) ?hr ?_; (case hd => rfl); (case hg => rfl); (case hr => first | (go_simp; done) | (go_simp; rfl)); intro gb657 hg w58 hbox hb; have n0_ := Aside0.mk (below_step (by repeat (first | (with_reducible first | exact HB.out | apply below_alloc | apply pw_below_drewN | apply below_drew1) | exact HB.out)) hb); have n1_ := Aside0.mk (hbox); have n2_ := Aside0.mk ((by rw [hg]; exact (below_size (by repeat (first | (with_reducible first | exact HB.out | apply below_alloc | apply pw_below_drewN | apply below_drew1) | exact HB.out))) : w.heap.size ≤ gb657)); have n3_ := Aside0.mk ((by rw [hg]; exact (below_size (by repeat (first | (with_reducible first | exact HB.out | apply below_alloc | apply pw_below_drewN | apply below_drew1) | exact HB.out))) : w.heap.size ≤ gb657)); clear HB; have HB := n0_; have BK657 := n1_; have GW657 := n2_; have GE657 := n3_; clear n0_ n1_ n2_ n3_; clear hb hbox hg) | ((with_reducible refine gate_callee (f := 78) rfl ?_); refine goesL_ (some 9) rfl rfl Tryd.func78 (by kernel_rfl) rfl #[.slice A0 l0.length c0] rfl (by (try simp only [List.map_toArray, List.map_cons, List.map_nil]); first | done | rfl | (simp only [List.length_drop, List.length_take]; rfl)) ?_; (with_reducible refine (header_Decode.calls _ _ l0 t658 t659 t660 t661 t662 t663 t664 _ ?side1 ?side2 A2.out).mono ?_); (case side1 => repeat (first | exact (Kd.C_below HR0.out HB.out) | (with_reducible refine Kd.C_alloc ?_ _) | (with_reducible refine Kd.C_drewN ?_ _) | (with_reducible refine Kd.C_drew ?_))); (case side2 => exact HC0.out); rintro e w59 ⟨rfl, hb⟩; refine ⟨_, rfl, ?_⟩; have n0_ := Aside0.mk (blk_below (g := gb657) (o := .cells #[.string (⟨#[]⟩ : ByteArray), .int .i64 0, .int .i64 0, .int .i64 0, .int .i64 0, .int .i64 0, .slice none 0 0, .int .i64 0] 86 (0, 0)) (by (with_reducible repeat (first | refine blk_drewN ?_ _ | refine blk_drew ?_ | refine blk_alloc ?_ _)); exact BK657.out) hb); have n1_ := Aside0.mk (below_step (by repeat (first | (with_reducible first | exact HB.out | apply below_alloc | apply pw_below_drewN | apply below_drew1 | refine below_set ?_ GE657.out) | exact HB.out)) hb); clear BK657; clear HB; have BK657 := n0_; have HB := n1_; clear n0_ n1_; (try clear hb); (try clear hb2); (try clear hk); (try clear hi)) | ((with_reducible refine gate_dst (N := 4) rfl ?_); refine box_event ?hg (N := 4) ?hd (cs := #[.string (⟨#[]⟩ : ByteArray), .int .i64 0, .int .i64 0, .int .i64 0, .int .i64 0, .int .i64 0]) (t := 84) ?hr ?_; (case hd => rfl); (case hg => rfl); (case hr => first | (go_simp; done) | (go_simp; rfl)); intro gb665 hg w60 hbox hb; have n0_ := Aside0.mk (blk_below (g := gb657) (o := .cells #[.string (⟨#[]⟩ : ByteArray), .int .i64 0, .int .i64 0, .int .i64 0, .int .i64 0, .int .i64 0, .slice none 0 0, .int .i64 0] 86 (0, 0)) (by (with_reducible repeat (first | refine blk_drewN ?_ _ | refine blk_drew ?_ | refine blk_alloc ?_ _)); exact BK657.out) hb); have n1_ := Aside0.mk (below_step (by repeat (first | (with_reducible first | exact HB.out | apply below_alloc | apply pw_below_drewN | apply below_drew1 | refine below_set ?_ GE657.out) | exact HB.out)) hb); have n2_ := Aside0.mk (hbox); have n3_ := Aside0.mk ((by rw [hg]; exact (below_size (by repeat (first | (with_reducible first | exact HB.out | apply below_alloc | apply pw_below_drewN | apply below_drew1 | refine below_set ?_ GE657.out) | exact HB.out))) : w.heap.size ≤ gb665)); have n4_ := Aside0.mk ((by rw [hg]; exact (below_size (by repeat (first | (with_reducible first | exact HB.out | apply below_alloc | apply pw_below_drewN | apply below_drew1 | refine below_set ?_ GE657.out) | exact HB.out))) : w.heap.size ≤ gb665)); have n5_ := Aside0.mk ((by rw [hg]; exact Nat.ne_of_lt (blk_lt (g := gb657) (o := .cells #[.string (⟨#[]⟩ : ByteArray), .int .i64 0, .int .i64 0, .int .i64 0, .int .i64 0, .int .i64 0, .slice none 0 0, .int .i64 0] 86 (0, 0)) (by (with_reducible repeat (first | refine blk_drewN ?_ _ | refine blk_drew ?_ | refine blk_alloc ?_ _)); exact BK657.out)) : gb657 ≠ gb665)); have n6_ := Aside0.mk ((by rw [hg]; exact Nat.ne_of_gt (blk_lt (g := gb657) (o := .cells #[.string (⟨#[]⟩ : ByteArray), .int .i64 0, .int .i64 0, .int .i64 0, .int .i64 0, .int .i64 0, .slice none 0 0, .int .i64 0] 86 (0, 0)) (by (with_reducible repeat (first | refine blk_drewN ?_ _ | refine blk_drew ?_ | refine blk_alloc ?_ _)); exact BK657.out)) : gb665 ≠ gb657)); clear BK657; clear HB; have BK657 := n0_; have HB := n1_; have BK665 := n2_; have GW665 := n3_; have GE665 := n4_; have NB657_665 := n5_; have NB665_657 := n6_; clear n0_ n1_ n2_ n3_ n4_ n5_ n6_; clear hb hbox hg; have hnb61 := NB665_657.out; have hnc61 := NB657_665.out; have hcz62_0 : w60.cell? ⟨gb665, 0, none⟩ = some (.string (⟨#[]⟩ : ByteArray)) := (blk_cell BK665.out 0).trans rfl; have hcz62_1 : w60.cell? ⟨gb665, 1, none⟩ = some (.int .i64 0) := (blk_cell BK665.out 1).trans rfl; have hcz62_2 : w60.cell? ⟨gb665, 2, none⟩ = some (.int .i64 0) := (blk_cell BK665.out 2).trans rfl; have hcz62_3 : w60.cell? ⟨gb665, 3, none⟩ = some (.int .i64 0) := (blk_cell BK665.out 3).trans rfl; have hcz62_4 : w60.cell? ⟨gb665, 4, none⟩ = some (.int .i64 0) := (blk_cell BK665.out 4).trans rfl; have hcz62_5 : w60.cell? ⟨gb665, 5, none⟩ = some (.int .i64 0) := (blk_cell BK665.out 5).trans rfl; have hfz62_0 := blk_frozen BK665.out 0; have hfz62_1 := blk_frozen BK665.out 1; have hfz62_2 := blk_frozen BK665.out 2; have hfz62_3 := blk_frozen BK665.out 3; have hfz62_4 := blk_frozen BK665.out 4; have hfz62_5 := blk_frozen BK665.out 5; have p670 : 0 ≤ ((ji33) : Int) := of_decide_eq_true (by first | (with_reducible assumption) | assumption); have q670 : (ji33) < (l0.length : Int) := of_decide_eq_true (by first | (with_reducible assumption) | assumption); obtain ⟨ad670, e670, hx670_0⟩ := Kd.at_int HR0.out (ji33) p670 q670; cases e670; have hn670_0 : ad670.block ≠ gb665 := Nat.ne_of_lt (Nat.lt_of_lt_of_le (by have := World.block_lt_of_cell? _ _ hx670_0; first | rwa [add_block] at this | exact this) GW665.out); have hn670_1 : ad670.block ≠ gb665 := Nat.ne_of_lt (Nat.lt_of_lt_of_le (by have := World.block_lt_of_cell? _ _ hx670_0; first | rwa [add_block] at this | exact this) GW665.out); have hn670_2 : ad670.block ≠ gb665 := Nat.ne_of_lt (Nat.lt_of_lt_of_le (by have := World.block_lt_of_cell? _ _ hx670_0; first | rwa [add_block] at this | exact this) GW665.out); have hn670_3 : ad670.block ≠ gb665 := Nat.ne_of_lt (Nat.lt_of_lt_of_le (by have := World.block_lt_of_cell? _ _ hx670_0; first | rwa [add_block] at this | exact this) GW665.out); have hn670_4 : ad670.block ≠ gb665 := Nat.ne_of_lt (Nat.lt_of_lt_of_le (by have := World.block_lt_of_cell? _ _ hx670_0; first | rwa [add_block] at this | exact this) GW665.out); have hn670_5 : ad670.block ≠ gb665 := Nat.ne_of_lt (Nat.lt_of_lt_of_le (by have := World.block_lt_of_cell? _ _ hx670_0; first | rwa [add_block] at this | exact this) GW665.out); replace hx670_0 := (HB.out.cell (World.block_lt_of_cell? w _ hx670_0)).trans hx670_0; replace hx670_0 := (cell_far (p := ⟨gb665, 0, none⟩) (by first | (rw [add_block]; exact hn670_0) | (show (Addr.add _ _).block ≠ _; rw [add_block]; exact hn670_0) | exact hn670_0) (.string t658)).trans hx670_0; replace hx670_0 := (cell_far (p := ⟨gb665, 1, none⟩) (by first | (rw [add_block]; exact hn670_1) | (show (Addr.add _ _).block ≠ _; rw [add_block]; exact hn670_1) | exact hn670_1) (.int .i64 t659)).trans hx670_0; replace hx670_0 := (cell_far (p := ⟨gb665, 2, none⟩) (by first | (rw [add_block]; exact hn670_2) | (show (Addr.add _ _).block ≠ _; rw [add_block]; exact hn670_2) | exact hn670_2) (.int .i64 t660)).trans hx670_0; replace hx670_0 := (cell_far (p := ⟨gb665, 3, none⟩) (by first | (rw [add_block]; exact hn670_3) | (show (Addr.add _ _).block ≠ _; rw [add_block]; exact hn670_3) | exact hn670_3) (.int .i64 t661)).trans hx670_0; replace hx670_0 := (cell_far (p := ⟨gb665, 4, none⟩) (by first | (rw [add_block]; exact hn670_4) | (show (Addr.add _ _).block ≠ _; rw [add_block]; exact hn670_4) | exact hn670_4) (.int .i64 t662)).trans hx670_0; replace hx670_0 := (cell_far (p := ⟨gb665, 5, none⟩) (by first | (rw [add_block]; exact hn670_5) | (show (Addr.add _ _).block ≠ _; rw [add_block]; exact hn670_5) | exact hn670_5) (.int .i64 t663)).trans hx670_0; clear hn670_0; clear hn670_1; clear hn670_2; clear hn670_3; clear hn670_4; clear hn670_5; replace p670 := eq_true p670; replace q670 := eq_true q670; have hcz63_0 : w60.cell? ⟨gb657, 0, none⟩ = some (.string (⟨#[]⟩ : ByteArray)) := (blk_cell BK657.out 0).trans rfl; have hcz63_1 : w60.cell? ⟨gb657, 1, none⟩ = some (.int .i64 0) := (blk_cell BK657.out 1).trans rfl; have hcz63_2 : w60.cell? ⟨gb657, 2, none⟩ = some (.int .i64 0) := (blk_cell BK657.out 2).trans rfl; have hcz63_3 : w60.cell? ⟨gb657, 3, none⟩ = some (.int .i64 0) := (blk_cell BK657.out 3).trans rfl; have hcz63_4 : w60.cell? ⟨gb657, 4, none⟩ = some (.int .i64 0) := (blk_cell BK657.out 4).trans rfl; have hcz63_5 : w60.cell? ⟨gb657, 5, none⟩ = some (.int .i64 0) := (blk_cell BK657.out 5).trans rfl; have hcz63_6 : w60.cell? ⟨gb657, 6, none⟩ = some (.slice none 0 0) := (blk_cell BK657.out 6).trans rfl; have hcz63_7 : w60.cell? ⟨gb657, 7, none⟩ = some (.int .i64 0) := (blk_cell BK657.out 7).trans rfl; have hfz63_0 := blk_frozen BK657.out 0; have hfz63_1 := blk_frozen BK657.out 1; have hfz63_2 := blk_frozen BK657.out 2; have hfz63_3 := blk_frozen BK657.out 3; have hfz63_4 := blk_frozen BK657.out 4; have hfz63_5 := blk_frozen BK657.out 5; have hfz63_6 := blk_frozen BK657.out 6; have hfz63_7 := blk_frozen BK657.out 7))
              refine bodyPost_ret (results_ct rfl _ _ gb657 86 #[.string (⟨#[]⟩ : ByteArray), .int .i64 0, .int .i64 0, .int .i64 0, .int .i64 0, .int .i64 0, .slice none 0 0, .int .i64 5] (0, 0) _ rfl (by (with_reducible repeat (first | refine blk_drewN ?_ _ | refine blk_drew ?_ | refine blk_alloc ?_ _)); refine blk_put (cs := #[.string (⟨#[]⟩ : ByteArray), .int .i64 0, .int .i64 0, .int .i64 0, .int .i64 0, .int .i64 0, .slice none 0 0, .int .i64 0]) ?_ 7 _ rfl; (with_reducible repeat (first | refine blk_drewN ?_ _ | refine blk_drew ?_ | refine blk_alloc ?_ _)); refine blk_put (cs := #[.string (⟨#[]⟩ : ByteArray), .int .i64 0, .int .i64 0, .int .i64 0, .int .i64 0, .int .i64 0, .slice none 0 0, .int .i64 0]) ?_ 6 _ rfl; (with_reducible repeat (first | refine blk_drewN ?_ _ | refine blk_drew ?_ | refine blk_alloc ?_ _)); refine blk_put (cs := #[.string (⟨#[]⟩ : ByteArray), .int .i64 0, .int .i64 0, .int .i64 0, .int .i64 0, .int .i64 0, .slice none 0 0, .int .i64 0]) ?_ 5 _ rfl; (with_reducible repeat (first | refine blk_drewN ?_ _ | refine blk_drew ?_ | refine blk_alloc ?_ _)); refine blk_put (cs := #[.string (⟨#[]⟩ : ByteArray), .int .i64 0, .int .i64 0, .int .i64 0, .int .i64 0, .int .i64 0, .slice none 0 0, .int .i64 0]) ?_ 4 _ rfl; (with_reducible repeat (first | refine blk_drewN ?_ _ | refine blk_drew ?_ | refine blk_alloc ?_ _)); refine blk_put (cs := #[.string (⟨#[]⟩ : ByteArray), .int .i64 0, .int .i64 0, .int .i64 0, .int .i64 0, .int .i64 0, .slice none 0 0, .int .i64 0]) ?_ 3 _ rfl; (with_reducible repeat (first | refine blk_drewN ?_ _ | refine blk_drew ?_ | refine blk_alloc ?_ _)); refine blk_put (cs := #[.string (⟨#[]⟩ : ByteArray), .int .i64 0, .int .i64 0, .int .i64 0, .int .i64 0, .int .i64 0, .slice none 0 0, .int .i64 0]) ?_ 2 _ rfl; (with_reducible repeat (first | refine blk_drewN ?_ _ | refine blk_drew ?_ | refine blk_alloc ?_ _)); refine blk_put (cs := #[.string (⟨#[]⟩ : ByteArray), .int .i64 0, .int .i64 0, .int .i64 0, .int .i64 0, .int .i64 0, .slice none 0 0, .int .i64 0]) ?_ 1 _ rfl; (with_reducible repeat (first | refine blk_drewN ?_ _ | refine blk_drew ?_ | refine blk_alloc ?_ _)); refine blk_put (cs := #[.string (⟨#[]⟩ : ByteArray), .int .i64 0, .int .i64 0, .int .i64 0, .int .i64 0, .int .i64 0, .slice none 0 0, .int .i64 0]) ?_ 0 _ rfl; (with_reducible repeat (first | refine blk_drewN ?_ _ | refine blk_drew ?_ | refine blk_alloc ?_ _)); refine blk_far ?_ NB657_665.out _; (with_reducible repeat (first | refine blk_drewN ?_ _ | refine blk_drew ?_ | refine blk_alloc ?_ _)); refine blk_far ?_ NB657_665.out _; (with_reducible repeat (first | refine blk_drewN ?_ _ | refine blk_drew ?_ | refine blk_alloc ?_ _)); refine blk_far ?_ NB657_665.out _; (with_reducible repeat (first | refine blk_drewN ?_ _ | refine blk_drew ?_ | refine blk_alloc ?_ _)); refine blk_far ?_ NB657_665.out _; (with_reducible repeat (first | refine blk_drewN ?_ _ | refine blk_drew ?_ | refine blk_alloc ?_ _)); refine blk_far ?_ NB657_665.out _; (with_reducible repeat (first | refine blk_drewN ?_ _ | refine blk_drew ?_ | refine blk_alloc ?_ _)); refine blk_far ?_ NB657_665.out _; (with_reducible repeat (first | refine blk_drewN ?_ _ | refine blk_drew ?_ | refine blk_alloc ?_ _)); exact BK657.out) Tryd.underlying86 rfl (by kernel_rfl)) rfl ?_
              exact ⟨_, by first | rfl | (simp [errW_none, errW_some] <;> rfl) | (simp only [← hji33]; first | rfl | (simp [errW_none, errW_some] <;> rfl)) | (simp [*, errW_none, errW_some] <;> rfl), by first | exact Kd.R_nil _ _ _ _ _ | exact Kd.N_nil _ _ _ _ _ | exact Kd.V_nil _ _ _ _ _ | exact Kd.Q_nil _ _ _ _ _ | exact Kd.S_nil _ _ _ _ _, by repeat (first | (with_reducible first | exact HB.out | apply below_alloc | apply pw_below_drewN | apply below_drew1 | refine below_set ?_ GE657.out | refine below_set ?_ GE665.out) | exact HB.out)⟩
          · rw [if_neg c35] at H
            exact absurd H (by simp)
        · rw [if_neg c34] at H
          exact absurd H (by simp)
  · rw [if_neg c3] at H
    have c3b0 : (t664 == 0) = false := beq_eq_false_iff_ne.mpr c3
    have c3b1 : (t664 != 0) = true := bne_iff_ne.mpr c3
    simp only [Option.some.injEq, Prod.mk.injEq] at H
    obtain ⟨rfl, rfl, rfl, rfl, rfl, rfl, rfl, rfl, rfl⟩ := H
    go_enter Tryd.func65, Tryd.ntmps65
    go_wp2_with (first | ((with_reducible refine gate_dst (N := 2) rfl ?_); refine box_event ?hg (N := 2) ?hd (cs := #[.string (⟨#[]⟩ : ByteArray), .int .i64 0, .int .i64 0, .int .i64 0, .int .i64 0, .int .i64 0, .slice none 0 0, .int .i64 0]) (t := 86) ?hr ?_; (case hd => rfl); (case hg => rfl); (case hr => first | (go_simp; done) | (go_simp; rfl)); intro gb657 hg w64 hbox hb; have n0_ := Aside0.mk (below_step (by repeat (first | (with_reducible first | exact HB.out | apply below_alloc | apply pw_below_drewN | apply below_drew1) | exact HB.out)) hb); have n1_ := Aside0.mk (hbox); have n2_ := Aside0.mk ((by rw [hg]; exact (below_size (by repeat (first | (with_reducible first | exact HB.out | apply below_alloc | apply pw_below_drewN | apply below_drew1) | exact HB.out))) : w.heap.size ≤ gb657)); have n3_ := Aside0.mk ((by rw [hg]; exact (below_size (by repeat (first | (with_reducible first | exact HB.out | apply below_alloc | apply pw_below_drewN | apply below_drew1) | exact HB.out))) : w.heap.size ≤ gb657)); clear HB; have HB := n0_; have BK657 := n1_; have GW657 := n2_; have GE657 := n3_; clear n0_ n1_ n2_ n3_; clear hb hbox hg) | ((with_reducible refine gate_callee (f := 78) rfl ?_); refine goesL_ (some 9) rfl rfl Tryd.func78 (by kernel_rfl) rfl #[.slice A0 l0.length c0] rfl (by (try simp only [List.map_toArray, List.map_cons, List.map_nil]); first | done | rfl | (simp only [List.length_drop, List.length_take]; rfl)) ?_; (with_reducible refine (header_Decode.calls _ _ l0 t658 t659 t660 t661 t662 t663 t664 _ ?side1 ?side2 A2.out).mono ?_); (case side1 => repeat (first | exact (Kd.C_below HR0.out HB.out) | (with_reducible refine Kd.C_alloc ?_ _) | (with_reducible refine Kd.C_drewN ?_ _) | (with_reducible refine Kd.C_drew ?_))); (case side2 => exact HC0.out); rintro e w65 ⟨rfl, hb⟩; refine ⟨_, rfl, ?_⟩; have n0_ := Aside0.mk (blk_below (g := gb657) (o := .cells #[.string (⟨#[]⟩ : ByteArray), .int .i64 0, .int .i64 0, .int .i64 0, .int .i64 0, .int .i64 0, .slice none 0 0, .int .i64 0] 86 (0, 0)) (by (with_reducible repeat (first | refine blk_drewN ?_ _ | refine blk_drew ?_ | refine blk_alloc ?_ _)); exact BK657.out) hb); have n1_ := Aside0.mk (below_step (by repeat (first | (with_reducible first | exact HB.out | apply below_alloc | apply pw_below_drewN | apply below_drew1 | refine below_set ?_ GE657.out) | exact HB.out)) hb); clear BK657; clear HB; have BK657 := n0_; have HB := n1_; clear n0_ n1_; (try clear hb); (try clear hb2); (try clear hk); (try clear hi)) | ((with_reducible refine gate_dst (N := 4) rfl ?_); refine box_event ?hg (N := 4) ?hd (cs := #[.string (⟨#[]⟩ : ByteArray), .int .i64 0, .int .i64 0, .int .i64 0, .int .i64 0, .int .i64 0]) (t := 84) ?hr ?_; (case hd => rfl); (case hg => rfl); (case hr => first | (go_simp; done) | (go_simp; rfl)); intro gb665 hg w66 hbox hb; have n0_ := Aside0.mk (blk_below (g := gb657) (o := .cells #[.string (⟨#[]⟩ : ByteArray), .int .i64 0, .int .i64 0, .int .i64 0, .int .i64 0, .int .i64 0, .slice none 0 0, .int .i64 0] 86 (0, 0)) (by (with_reducible repeat (first | refine blk_drewN ?_ _ | refine blk_drew ?_ | refine blk_alloc ?_ _)); exact BK657.out) hb); have n1_ := Aside0.mk (below_step (by repeat (first | (with_reducible first | exact HB.out | apply below_alloc | apply pw_below_drewN | apply below_drew1 | refine below_set ?_ GE657.out) | exact HB.out)) hb); have n2_ := Aside0.mk (hbox); have n3_ := Aside0.mk ((by rw [hg]; exact (below_size (by repeat (first | (with_reducible first | exact HB.out | apply below_alloc | apply pw_below_drewN | apply below_drew1 | refine below_set ?_ GE657.out) | exact HB.out))) : w.heap.size ≤ gb665)); have n4_ := Aside0.mk ((by rw [hg]; exact (below_size (by repeat (first | (with_reducible first | exact HB.out | apply below_alloc | apply pw_below_drewN | apply below_drew1 | refine below_set ?_ GE657.out) | exact HB.out))) : w.heap.size ≤ gb665)); have n5_ := Aside0.mk ((by rw [hg]; exact Nat.ne_of_lt (blk_lt (g := gb657) (o := .cells #[.string (⟨#[]⟩ : ByteArray), .int .i64 0, .int .i64 0, .int .i64 0, .int .i64 0, .int .i64 0, .slice none 0 0, .int .i64 0] 86 (0, 0)) (by (with_reducible repeat (first | refine blk_drewN ?_ _ | refine blk_drew ?_ | refine blk_alloc ?_ _)); exact BK657.out)) : gb657 ≠ gb665)); have n6_ := Aside0.mk ((by rw [hg]; exact Nat.ne_of_gt (blk_lt (g := gb657) (o := .cells #[.string (⟨#[]⟩ : ByteArray), .int .i64 0, .int .i64 0, .int .i64 0, .int .i64 0, .int .i64 0, .slice none 0 0, .int .i64 0] 86 (0, 0)) (by (with_reducible repeat (first | refine blk_drewN ?_ _ | refine blk_drew ?_ | refine blk_alloc ?_ _)); exact BK657.out)) : gb665 ≠ gb657)); clear BK657; clear HB; have BK657 := n0_; have HB := n1_; have BK665 := n2_; have GW665 := n3_; have GE665 := n4_; have NB657_665 := n5_; have NB665_657 := n6_; clear n0_ n1_ n2_ n3_ n4_ n5_ n6_; clear hb hbox hg; have hnb67 := NB665_657.out; have hnc67 := NB657_665.out; have hcz68_0 : w66.cell? ⟨gb665, 0, none⟩ = some (.string (⟨#[]⟩ : ByteArray)) := (blk_cell BK665.out 0).trans rfl; have hcz68_1 : w66.cell? ⟨gb665, 1, none⟩ = some (.int .i64 0) := (blk_cell BK665.out 1).trans rfl; have hcz68_2 : w66.cell? ⟨gb665, 2, none⟩ = some (.int .i64 0) := (blk_cell BK665.out 2).trans rfl; have hcz68_3 : w66.cell? ⟨gb665, 3, none⟩ = some (.int .i64 0) := (blk_cell BK665.out 3).trans rfl; have hcz68_4 : w66.cell? ⟨gb665, 4, none⟩ = some (.int .i64 0) := (blk_cell BK665.out 4).trans rfl; have hcz68_5 : w66.cell? ⟨gb665, 5, none⟩ = some (.int .i64 0) := (blk_cell BK665.out 5).trans rfl; have hfz68_0 := blk_frozen BK665.out 0; have hfz68_1 := blk_frozen BK665.out 1; have hfz68_2 := blk_frozen BK665.out 2; have hfz68_3 := blk_frozen BK665.out 3; have hfz68_4 := blk_frozen BK665.out 4; have hfz68_5 := blk_frozen BK665.out 5; have hcz69_0 : w66.cell? ⟨gb657, 0, none⟩ = some (.string (⟨#[]⟩ : ByteArray)) := (blk_cell BK657.out 0).trans rfl; have hcz69_1 : w66.cell? ⟨gb657, 1, none⟩ = some (.int .i64 0) := (blk_cell BK657.out 1).trans rfl; have hcz69_2 : w66.cell? ⟨gb657, 2, none⟩ = some (.int .i64 0) := (blk_cell BK657.out 2).trans rfl; have hcz69_3 : w66.cell? ⟨gb657, 3, none⟩ = some (.int .i64 0) := (blk_cell BK657.out 3).trans rfl; have hcz69_4 : w66.cell? ⟨gb657, 4, none⟩ = some (.int .i64 0) := (blk_cell BK657.out 4).trans rfl; have hcz69_5 : w66.cell? ⟨gb657, 5, none⟩ = some (.int .i64 0) := (blk_cell BK657.out 5).trans rfl; have hcz69_6 : w66.cell? ⟨gb657, 6, none⟩ = some (.slice none 0 0) := (blk_cell BK657.out 6).trans rfl; have hcz69_7 : w66.cell? ⟨gb657, 7, none⟩ = some (.int .i64 0) := (blk_cell BK657.out 7).trans rfl; have hfz69_0 := blk_frozen BK657.out 0; have hfz69_1 := blk_frozen BK657.out 1; have hfz69_2 := blk_frozen BK657.out 2; have hfz69_3 := blk_frozen BK657.out 3; have hfz69_4 := blk_frozen BK657.out 4; have hfz69_5 := blk_frozen BK657.out 5; have hfz69_6 := blk_frozen BK657.out 6; have hfz69_7 := blk_frozen BK657.out 7))
    refine bodyPost_ret (results_ct rfl _ _ gb657 86 #[.string (⟨#[]⟩ : ByteArray), .int .i64 0, .int .i64 0, .int .i64 0, .int .i64 0, .int .i64 0, .slice none 0 0, .int .i64 t664] (0, 0) _ rfl (by (with_reducible repeat (first | refine blk_drewN ?_ _ | refine blk_drew ?_ | refine blk_alloc ?_ _)); refine blk_put (cs := #[.string (⟨#[]⟩ : ByteArray), .int .i64 0, .int .i64 0, .int .i64 0, .int .i64 0, .int .i64 0, .slice none 0 0, .int .i64 0]) ?_ 7 _ rfl; (with_reducible repeat (first | refine blk_drewN ?_ _ | refine blk_drew ?_ | refine blk_alloc ?_ _)); refine blk_put (cs := #[.string (⟨#[]⟩ : ByteArray), .int .i64 0, .int .i64 0, .int .i64 0, .int .i64 0, .int .i64 0, .slice none 0 0, .int .i64 0]) ?_ 6 _ rfl; (with_reducible repeat (first | refine blk_drewN ?_ _ | refine blk_drew ?_ | refine blk_alloc ?_ _)); refine blk_put (cs := #[.string (⟨#[]⟩ : ByteArray), .int .i64 0, .int .i64 0, .int .i64 0, .int .i64 0, .int .i64 0, .slice none 0 0, .int .i64 0]) ?_ 5 _ rfl; (with_reducible repeat (first | refine blk_drewN ?_ _ | refine blk_drew ?_ | refine blk_alloc ?_ _)); refine blk_put (cs := #[.string (⟨#[]⟩ : ByteArray), .int .i64 0, .int .i64 0, .int .i64 0, .int .i64 0, .int .i64 0, .slice none 0 0, .int .i64 0]) ?_ 4 _ rfl; (with_reducible repeat (first | refine blk_drewN ?_ _ | refine blk_drew ?_ | refine blk_alloc ?_ _)); refine blk_put (cs := #[.string (⟨#[]⟩ : ByteArray), .int .i64 0, .int .i64 0, .int .i64 0, .int .i64 0, .int .i64 0, .slice none 0 0, .int .i64 0]) ?_ 3 _ rfl; (with_reducible repeat (first | refine blk_drewN ?_ _ | refine blk_drew ?_ | refine blk_alloc ?_ _)); refine blk_put (cs := #[.string (⟨#[]⟩ : ByteArray), .int .i64 0, .int .i64 0, .int .i64 0, .int .i64 0, .int .i64 0, .slice none 0 0, .int .i64 0]) ?_ 2 _ rfl; (with_reducible repeat (first | refine blk_drewN ?_ _ | refine blk_drew ?_ | refine blk_alloc ?_ _)); refine blk_put (cs := #[.string (⟨#[]⟩ : ByteArray), .int .i64 0, .int .i64 0, .int .i64 0, .int .i64 0, .int .i64 0, .slice none 0 0, .int .i64 0]) ?_ 1 _ rfl; (with_reducible repeat (first | refine blk_drewN ?_ _ | refine blk_drew ?_ | refine blk_alloc ?_ _)); refine blk_put (cs := #[.string (⟨#[]⟩ : ByteArray), .int .i64 0, .int .i64 0, .int .i64 0, .int .i64 0, .int .i64 0, .slice none 0 0, .int .i64 0]) ?_ 0 _ rfl; (with_reducible repeat (first | refine blk_drewN ?_ _ | refine blk_drew ?_ | refine blk_alloc ?_ _)); refine blk_far ?_ NB657_665.out _; (with_reducible repeat (first | refine blk_drewN ?_ _ | refine blk_drew ?_ | refine blk_alloc ?_ _)); refine blk_far ?_ NB657_665.out _; (with_reducible repeat (first | refine blk_drewN ?_ _ | refine blk_drew ?_ | refine blk_alloc ?_ _)); refine blk_far ?_ NB657_665.out _; (with_reducible repeat (first | refine blk_drewN ?_ _ | refine blk_drew ?_ | refine blk_alloc ?_ _)); refine blk_far ?_ NB657_665.out _; (with_reducible repeat (first | refine blk_drewN ?_ _ | refine blk_drew ?_ | refine blk_alloc ?_ _)); refine blk_far ?_ NB657_665.out _; (with_reducible repeat (first | refine blk_drewN ?_ _ | refine blk_drew ?_ | refine blk_alloc ?_ _)); refine blk_far ?_ NB657_665.out _; (with_reducible repeat (first | refine blk_drewN ?_ _ | refine blk_drew ?_ | refine blk_alloc ?_ _)); exact BK657.out) Tryd.underlying86 rfl (by kernel_rfl)) rfl ?_
    exact ⟨_, by first | rfl | (simp [errW_none, errW_some] <;> rfl) | (simp [*, errW_none, errW_some] <;> rfl), by first | exact Kd.R_nil _ _ _ _ _ | exact Kd.N_nil _ _ _ _ _ | exact Kd.V_nil _ _ _ _ _ | exact Kd.Q_nil _ _ _ _ _ | exact Kd.S_nil _ _ _ _ _, by repeat (first | (with_reducible first | exact HB.out | apply below_alloc | apply pw_below_drewN | apply below_drew1 | refine below_set ?_ GE657.out | refine below_set ?_ GE665.out) | exact HB.out)⟩
end Go.Proofs.YtjiokdkgbnakhaaDoor.K
end TKx27
section TPartsP
set_option linter.unusedVariables false
set_option linter.unusedSimpArgs false
namespace Go.Proofs.YtjiokdkgbnakhaaDoor.Own
open Go.RowKit Go.Proofs.YtjiokdkgbnakhaaDoor Go.Proofs.YtjiokdkgbnakhaaDoorW.PrintWords Go.Proofs.YtjiokdkgbnakhaaDoorW.PrintLast Go.Proofs.YtjiokdkgbnakhaaDoorW.PrintMore
theorem numF_bound {l : List Int} {base : Int} (hb : base = 8 ∨ base = 10) {n : Nat} (hl : l.length ≤ n) (hd : l.all (isDig base) = true) : 0 ≤ numF base l ∧ numF base l < 10 ^ n := by
  obtain ⟨h0, h1⟩ := numF_le base hb l.length l rfl hd
  refine ⟨h0, Int.lt_of_lt_of_le h1 ?_⟩
  have : (10 : Nat) ^ l.length ≤ 10 ^ n := Nat.pow_le_pow_right (by decide) hl
  exact_mod_cast this
theorem takeWhile_prefix (p : Int → Bool) : ∀ xs : List Int, xs.take (xs.takeWhile p).length = xs.takeWhile p
  | [] => rfl
  | x :: xs => by
    rw [List.takeWhile_cons]
    split
    · rw [List.length_cons, List.take_succ_cons, takeWhile_prefix p xs]
    · rfl
theorem parseV_bound (xs : List Int) (base : Int) (hb : base = 8 ∨ base = 10) (n : Nat) (hl : xs.length ≤ n) : 0 ≤ (parseV xs base).1 ∧ (parseV xs base).1 < 10 ^ n := by
  have hp : (0 : Int) < 10 ^ n := by exact_mod_cast Nat.pow_pos (n := n) (by decide : 0 < 10)
  unfold parseV
  split
  · exact ⟨Int.le_refl _, hp⟩
  · split
    · rename_i h
      unfold parseJ
      split
      · exact ⟨Int.le_refl _, hp⟩
      · refine numF_bound hb ?_ ?_
        · rw [List.length_take]; omega
        · rw [takeWhile_prefix]; exact h
    · exact ⟨Int.le_refl _, hp⟩
theorem fieldV_bound (l : List Int) (t : Bool) (x : Nat × Nat × Int × Bool) (hb : x.2.2.1 = 8 ∨ x.2.2.1 = 10) : 0 ≤ (fieldV l t x).1 ∧ (fieldV l t x).1 < 10 ^ x.2.1 := by
  have hp : (0 : Int) < 10 ^ x.2.1 := by exact_mod_cast Nat.pow_pos (n := x.2.1) (by decide : 0 < 10)
  unfold fieldV
  split
  · split
    · exact ⟨Int.le_refl _, hp⟩
    · exact ⟨Int.le_refl _, hp⟩
  · exact parseV_bound _ _ hb _ (by unfold partV; rw [List.length_take]; omega)
structure DecGood (l : List Int) (nm : ByteArray) (vs : List Int) : Prop where
  long : 60 ≤ l.length
  len : vs.length = 5
  nn : ∀ v ∈ vs, 0 ≤ v
  size : vs.getD 4 0 < 10000000000
  fit : fitsV nm = true
  name : nm = nameV l
  mark : (l.drop 58).take 2 = [96, 10]
  nums : roundsV l (isTable nm) specV = (vs, 0)
theorem roundsV_bad {l : List Int} {t : Bool} : ∀ {s : List (Nat × Nat × Int × Bool)}, (roundsV l t s).2 = 0 → (roundsV l t s).1 = s.map (fun x => (fieldV l t x).1) ∧ ∀ x ∈ s, (fieldV l t x).2 = 0
  | [], _ => ⟨rfl, by simp⟩
  | x :: s, h => by
    simp only [roundsV] at h ⊢
    by_cases h0 : (fieldV l t x).2 = 0
    · rw [if_pos h0] at h ⊢
      obtain ⟨h1, h2⟩ := roundsV_bad (s := s) h
      refine ⟨by rw [List.map_cons, ← h1], fun y hy => ?_⟩
      rcases List.mem_cons.1 hy with rfl | hy
      · exact h0
      · exact h2 y hy
    · rw [if_neg h0] at h
      exact absurd h h0
theorem decodeV_good {l : List Int} (h : (decodeV l).2.2 = 0) : DecGood l (decodeV l).1 (decodeV l).2.1 := by
  unfold decodeV at h ⊢
  by_cases h1 : l.length < 60
  · rw [if_pos h1] at h; cases h
  · rw [if_neg h1] at h ⊢
    by_cases h2 : (l.drop 58).take 2 = [96, 10]
    · rw [if_neg (fun e => e h2)] at h ⊢
      cases h3 : fitsV (nameV l) with
      | false => rw [h3] at h; rw [if_pos rfl] at h; cases h
      | true =>
        rw [h3] at h
        rw [if_neg (by simp)] at h ⊢
        by_cases h4 : (roundsV l (isTable (nameV l)) specV).2 = 0
        · rw [if_pos h4]
          obtain ⟨e1, e2⟩ := roundsV_bad h4
          refine ⟨by omega, by rw [e1]; rfl, ?_, ?_, h3, rfl, h2, by rw [← h4]⟩
          · intro v hv
            rw [e1] at hv
            obtain ⟨x, hx, rfl⟩ := List.mem_map.1 hv
            have hb : x.2.2.1 = 8 ∨ x.2.2.1 = 10 := by
              have : ∀ x ∈ specV, x.2.2.1 = 8 ∨ x.2.2.1 = 10 := by decide
              exact this x hx
            exact (fieldV_bound l _ x hb).1
          · rw [e1]
            have := (fieldV_bound l (isTable (nameV l)) (48, 10, 10, false) (.inr rfl)).2
            exact this
        · rw [if_neg h4] at h; exact absurd h h4
    · rw [if_pos h2] at h; cases h
abbrev PartR : Type := ByteArray × Int × Int × Int × Int × Int × List Int × Int × Int
def nextV (l : List Int) : PartR :=
  if (decodeV l).2.2 ≠ 0 then (⟨#[]⟩, 0, 0, 0, 0, 0, [], (decodeV l).2.2, 0)
  else if ((l.length : Int) < 60 + (decodeV l).2.1.getD 4 0 + (decodeV l).2.1.getD 4 0 % 2) then (⟨#[]⟩, 0, 0, 0, 0, 0, [], 2, 0)
  else if (decodeV l).2.1.getD 4 0 % 2 ≠ 0 ∧ l.getD (60 + ((decodeV l).2.1.getD 4 0).toNat) 0 ≠ 10 then (⟨#[]⟩, 0, 0, 0, 0, 0, [], 5, 0)
  else ((decodeV l).1, (decodeV l).2.1.getD 0 0, (decodeV l).2.1.getD 1 0, (decodeV l).2.1.getD 2 0, (decodeV l).2.1.getD 3 0, (decodeV l).2.1.getD 4 0, (l.drop 60).take ((decodeV l).2.1.getD 4 0).toNat, 0, 60 + (decodeV l).2.1.getD 4 0 + (decodeV l).2.1.getD 4 0 % 2)
theorem next_f (l : List Int) (hby : Byt l) (hl : l.length < 140737488355328) : K.arparse_next.f l = some (nextV l) := by
  unfold K.arparse_next.f header_Decode.f nextV
  rw [if_pos hby.to, Option.bind_some]
  by_cases h0 : (decodeV l).2.2 = 0
  · have hg := decodeV_good h0
    have hn : 0 ≤ (decodeV l).2.1.getD 4 0 := by
      rw [List.getD_eq_getElem?_getD]
      cases hc : (decodeV l).2.1[4]? with
      | none => simp
      | some v => exact hg.nn v (List.mem_of_getElem? hc)
    have hs := hg.size
    have hlong := hg.long
    generalize (decodeV l).2.1 = vs at *
    generalize hsz : vs.getD 4 0 = s at *
    have hw1 : wrap64 (60 + s) = 60 + s := by unfold wrap64; omega
    have hm : Int.tmod s 2 = s % 2 := Int.tmod_eq_emod_of_nonneg hn
    have hw2 : wrap64 (60 + s + s % 2) = 60 + s + s % 2 := by unfold wrap64; omega
    have hmr : s % 2 = 0 ∨ s % 2 = 1 := by omega
    simp only [h0, if_true, hm, hw1, hw2, ne_eq, not_true_eq_false, if_false]
    by_cases h1 : (l.length : Int) < 60 + s + s % 2
    · rw [if_pos (by omega), if_pos h1]
    · rw [if_neg (by omega), if_neg h1]
      have hcl : slices_Clone_byte_byte.f ((l.take (60 + s).toNat).drop 60) = some ((l.drop 60).take s.toNat) := by
        unfold slices_Clone_byte_byte.f
        rw [if_pos (by rw [List.length_drop, List.length_take]; omega)]
        rw [List.drop_take, show (60 + s).toNat - 60 = s.toNat by omega]
      by_cases h2 : s % 2 = 0
      · rw [if_pos h2, if_pos (by omega), if_pos (by omega), hcl, Option.bind_some, if_neg (by omega)]
      · rw [if_neg h2, if_pos (by omega), if_pos (by omega)]
        have hrd : rd l (60 + s) = l.getD (60 + s.toNat) 0 := by unfold rd; rw [show (60 + s).toNat = 60 + s.toNat by omega]
        rw [hrd]
        by_cases h3 : l.getD (60 + s.toNat) 0 = 10
        · rw [if_pos h3, if_pos (by omega), if_pos (by omega), hcl, Option.bind_some, if_neg (by simp only [h3, not_true_eq_false, and_false, not_false_eq_true])]
        · rw [if_neg h3, if_pos ⟨h2, h3⟩]
  · rw [if_neg h0, if_pos h0]
def PartR.why (r : PartR) : Int := r.2.2.2.2.2.2.2.1
def PartR.len (r : PartR) : Int := r.2.2.2.2.2.2.2.2
def PartR.data (r : PartR) : List Int := r.2.2.2.2.2.2.1
theorem nextV_len {l : List Int} (h : (nextV l).why = 0) : 60 ≤ (nextV l).len ∧ (nextV l).len ≤ l.length ∧ (nextV l).data = (l.drop 60).take (nextV l).data.length ∧ (nextV l).data.length + 60 ≤ l.length := by
  unfold nextV at h ⊢
  by_cases h0 : (decodeV l).2.2 = 0
  · have hg := decodeV_good h0
    have hn : 0 ≤ (decodeV l).2.1.getD 4 0 := by
      rw [List.getD_eq_getElem?_getD]
      cases hc : (decodeV l).2.1[4]? with
      | none => simp
      | some v => exact hg.nn v (List.mem_of_getElem? hc)
    have hlong := hg.long
    rw [if_neg (fun e => e h0)] at h ⊢
    split at h
    · cases h
    · rename_i h1
      rw [if_neg h1]
      split at h
      · cases h
      · rename_i h2
        rw [if_neg h2]
        simp only [PartR.len, PartR.data]
        refine ⟨by omega, by omega, ?_, ?_⟩
        · rw [List.length_take, List.length_drop]
          congr 1
          omega
        · rw [List.length_take, List.length_drop]
          omega
  · rw [if_pos h0] at h
    exact absurd h h0
def partsF : Nat → List Int → Nat → List (Nat × PartR)
  | 0, _, _ => []
  | k + 1, l, a => if a < l.length then (if (nextV (l.drop a)).why = 0 then (a, nextV (l.drop a)) :: partsF k l (a + (nextV (l.drop a)).len.toNat) else [(a, nextV (l.drop a))]) else []
def partsOf (l : List Int) : List (Nat × PartR) := partsF (l.length + 1) l 8
theorem partsF_end (k : Nat) (l : List Int) (a : Nat) (h : ¬ a < l.length) : partsF k l a = [] := by cases k <;> simp [partsF, h]
theorem partsF_last (k : Nat) (l : List Int) (a : Nat) (h : a < l.length) (hn : (nextV (l.drop a)).why ≠ 0) : partsF (k + 1) l a = [(a, nextV (l.drop a))] := by simp [partsF, h, hn]
theorem partsF_more (k : Nat) (l : List Int) (a : Nat) (h : a < l.length) (hn : (nextV (l.drop a)).why = 0) : partsF (k + 1) l a = (a, nextV (l.drop a)) :: partsF k l (a + (nextV (l.drop a)).len.toNat) := by simp [partsF, h, hn]
theorem partsF_head (k : Nat) (l : List Int) (a : Nat) (h : a < l.length) : ∃ t, partsF (k + 1) l a = (a, nextV (l.drop a)) :: t := by
  by_cases hn : (nextV (l.drop a)).why = 0
  · exact ⟨_, partsF_more k l a h hn⟩
  · exact ⟨_, partsF_last k l a h hn⟩
end Go.Proofs.YtjiokdkgbnakhaaDoor.Own
end TPartsP
section TResB
set_option linter.unusedVariables false
set_option linter.unusedSimpArgs false
namespace Go.Proofs.YtjiokdkgbnakhaaDoor.Own
open Go.RowKit Go.Shelf Go.Proofs.YtjiokdkgbnakhaaDoor Go.Proofs.YtjiokdkgbnakhaaDoorW.PrintWords Go.Proofs.YtjiokdkgbnakhaaDoorW.PrintLast Go.Proofs.YtjiokdkgbnakhaaDoorW.PrintMore
def bytesW (W : World) (d : ByteArray) : World := (W.alloc (.cells (bytesRow d (grownCap W d.size 0 5)) 5 ((bytesRow d (grownCap W d.size 0 5)).size, (bytesRow d (grownCap W d.size 0 5)).size + 1))).drew
theorem conv_bytes (W : World) (d : ByteArray) : (convert 9 22 (.string d)).run Tryd.prog W = .ok (.slice (some ⟨W.heap.size, 0, none⟩) d.size (grownCap W d.size 0 5)) (bytesW W d) :=
  run_bytes_of_string W 9 22 5 d Tryd.underlying9 Tryd.underlying22 Tryd.underlying5
theorem bytesW_below (W : World) (d : ByteArray) : Below W.heap.size W (bytesW W d) := ((Below.refl _ _).alloc (Nat.le_refl _) _).drew
theorem bytesW_size (W : World) (d : ByteArray) : (bytesW W d).heap.size = W.heap.size + 1 := by simp [bytesW]
theorem bytesW_reads (W : World) (d : ByteArray) (hd : d.size ≤ 9223372036854775807) : (Kd.int .u8).C (bytesW W d) (some ⟨W.heap.size, 0, none⟩) (bytesOf d).length (bytesOf d) := by
  refine Kd.C_of_reads (enc := Value.int .u8) (d := (0 : Int)) (h1 := fun _ => rfl) ⟨rfl, by rw [bytesOf_length]; exact hd, fun _ => ⟨_, rfl, fun j hj => ?_⟩⟩
  rw [bytesOf_length] at hj
  have hx : (bytesW W d).heap[W.heap.size]? = some (.cells (bytesRow d (grownCap W d.size 0 5)) 5 ((bytesRow d (grownCap W d.size 0 5)).size, (bytesRow d (grownCap W d.size 0 5)).size + 1)) := World.alloc_heap_new W _
  rw [cell_add_row hx]
  have hj2 : j < d.data.size := hj
  unfold bytesRow
  rw [Array.getElem?_append_left (by simpa using hj2)]
  simp [bytesOf, Array.getElem?_eq_getElem hj2]
theorem isBytes_bytesOf (d : ByteArray) : ∀ x ∈ bytesOf d, 0 ≤ x ∧ x < 256 := by
  intro x hx
  simp only [bytesOf, List.mem_map] at hx
  obtain ⟨b, _, rfl⟩ := hx
  have := UInt8.toNat_lt b
  omega
theorem cap_ge (W : World) (d : ByteArray) : d.size ≤ grownCap W d.size 0 5 := by
  exact grownCap_ge W d.size 0 5
set_option maxRecDepth 100000 in
theorem parse_empty (A : Option Addr) (c : Nat) (w : World) (base : Int) (hb : base = 8 ∨ base = 10) :
    Calls Tryd.prog 41 #[.slice A 0 c, .int .i64 base] w fun e w' => e = .returned (.tuple #[.int .i64 0, .int .i64 13]) ∧ ∃ n, w' = w.drewN n := by
  have HBS := Lib.hid hb
  clear hb
  go_enter Tryd.func41, Tryd.ntmps41
  go_wp2
  go_step3
  go_wp2_with (go_at_call 61; refine (based_calls base HBS.out _).mono ?_; rintro e w' ⟨rfl, q0, rfl⟩)
  (try simp only [Exit.noGoto_ret, Exit.inBlock, Exit.then])
  go_ret2
  exact ⟨rfl, q0, rfl⟩
theorem parse_str (d : ByteArray) (h15 : d.size ≤ 18) (W : World) :
    Calls Tryd.prog 41 #[.slice (some ⟨W.heap.size, 0, none⟩) d.size (grownCap W d.size 0 5), .int .i64 10] (bytesW W d) fun e w' => e = .returned (.tuple #[.int .i64 (parseV (bytesOf d) 10).1, .int .i64 (parseV (bytesOf d) 10).2]) ∧ Below W.heap.size W w' ∧ w'.heap.size = W.heap.size + 1 := by
  have hlen := bytesOf_length d
  by_cases h0 : d.size = 0
  · have hv : parseV (bytesOf d) 10 = (0, 13) := by unfold parseV; rw [if_pos (.inl (by omega))]
    rw [hv, h0]
    refine (parse_empty _ _ _ 10 (.inr rfl)).mono ?_
    rintro e w' ⟨rfl, n, rfl⟩
    exact ⟨rfl, (bytesW_below W d).trans ⟨rfl, rfl, rfl, Nat.le_refl _, fun _ _ => rfl⟩, bytesW_size W d⟩
  · have := parse_in (some ⟨W.heap.size, 0, none⟩) (grownCap W d.size 0 5) (bytesOf d) (bytesW W d) (bytesW_reads W d (by omega)) (by rw [hlen]; exact cap_ge W d) (by omega) (by omega) (isBytes_bytesOf d) 10 (.inr rfl)
    rw [hlen] at this
    refine this.mono ?_
    rintro e w' ⟨rfl, n, rfl⟩
    exact ⟨rfl, (bytesW_below W d).trans ⟨rfl, rfl, rfl, Nat.le_refl _, fun _ _ => rfl⟩, bytesW_size W d⟩
set_option maxRecDepth 100000 in
set_option maxHeartbeats 4000000 in
theorem resolve_bad (field : ByteArray) (hs : field.size ≤ 9223372036854775807) (v1 : Value) (w : World) (hS : hasSuf field = false ∨ (hasSuf field = true ∧ shortB (cutSuf field) = false))
    (hp : hasPre field = true) (hz : (cutPre field).size ≤ 15) (hsp : hasSp (cutPre field) = false) (hbad : (parseV (bytesOf (cutPre field)) 10).2 ≠ 0) :
    Calls Tryd.prog 18 #[.string field, v1] w fun e w' => e = .returned (.tuple #[.string ⟨#[]⟩, .int .i64 6]) ∧ Below w.heap.size w w' := by
  obtain ⟨d, hd⟩ : ∃ d, cutPre field = d := ⟨_, rfl⟩
  rw [hd] at hz hsp hbad
  have hcp : ∀ W : World, Calls Tryd.prog 39 #[.string field, .string ⟨#[47]⟩] W fun e w' => e = .returned (.tuple #[.string d, .bool true]) ∧ W = w' := fun W => by have := cutPre_calls field W; rwa [hd, hp] at this
  have HCP := Lib.hid hcp
  have HPS := Lib.hid (parse_str d (by omega))
  clear hcp hd hp
  obtain ⟨n, hn⟩ : ∃ n, (parseV (bytesOf d) 10).1 = n := ⟨_, rfl⟩
  obtain ⟨y, hy⟩ : ∃ y, (parseV (bytesOf d) 10).2 = y := ⟨_, rfl⟩
  rw [hn, hy] at HPS
  rw [hy] at hbad
  have hyb : (y != 0) = true := bne_iff_ne.2 hbad
  clear hbad hn hy
  have kc := conv_bytes
  rcases hS with h1 | ⟨h1, h2⟩
  · have hp := HPS.out ((w.alloc (.cells #[.string ⟨#[]⟩] 9)).alloc (.cells #[.int .i64 0] 25))
    simp only [World.size_alloc] at hp
    have HP1 := Lib.hid hp
    clear hp
    go_enter Tryd.func18, Tryd.ntmps18
    go_wp2_with (first
        | (go_at_call 38; refine (cutSuf_calls _ hs _).mono ?_; rintro e w' ⟨rfl, rfl⟩)
        | (go_at_call 39; refine (HCP.out _).mono ?_; rintro e w' ⟨rfl, rfl⟩)
        | (go_at_call 40; refine (hasSp_calls _ _).mono ?_; rintro e w' ⟨rfl, rfl⟩)
        | (go_at_call 41; refine HP1.out.mono ?_; rintro e W ⟨rfl, hb0, hsz⟩; have hb : Below ((w.alloc (.cells #[.string ⟨#[]⟩] 9)).alloc (.cells #[.int .i64 0] 25)).heap.size ((w.alloc (.cells #[.string ⟨#[]⟩] 9)).alloc (.cells #[.int .i64 0] 25)) W := (by simp only [World.size_alloc]; exact hb0); have hb2 : Below ((w.alloc (.cells #[.string ⟨#[]⟩] 9)).alloc (.cells #[.int .i64 0] 25)).heap.size ((w.alloc (.cells #[.string ⟨#[]⟩] 9)).alloc (.cells #[.int .i64 0] 25)) (W.alloc (.cells #[.int .i64 n] 3)) := hb.alloc hb.size _; have c0 := (Boxed.go (two_boxes w).1 hb2).cell; have f0 := (Boxed.go (two_boxes w).1 hb2).frozen; have c1 := (Boxed.go (two_boxes w).2 hb2).cell; have f1 := (Boxed.go (two_boxes w).2 hb2).frozen; have HB := Lib.hid hb2; clear hb hb0 hb2 hsz))
    obtain ⟨e0, e1, hB⟩ := res_none w _ HB.out ⟨#[]⟩ 6
    refine bodyPost_ret (v := .tuple #[.string ⟨#[]⟩, .int .i64 6]) ?_ rfl ⟨rfl, hB⟩
    simp [results, Tryd.f18, go_sem, e0, e1]
  · go_enter Tryd.func18, Tryd.ntmps18
    go_wp2_with (first
        | (go_at_call 38; refine (cutSuf_calls _ hs _).mono ?_; rintro e w' ⟨rfl, rfl⟩)
        | (go_at_call 36; refine (short_calls _ _).mono ?_; rintro e W1 ⟨rfl, hb⟩; have HB1 := Lib.hid hb; clear hb; have HP1 := Lib.hid (HPS.out W1))
        | (go_at_call 39; refine (HCP.out _).mono ?_; rintro e w' ⟨rfl, rfl⟩)
        | (go_at_call 40; refine (hasSp_calls _ _).mono ?_; rintro e w' ⟨rfl, rfl⟩)
        | (go_at_call 41; refine HP1.out.mono ?_; rintro e W ⟨rfl, hb0, hsz⟩; have hb : Below ((w.alloc (.cells #[.string ⟨#[]⟩] 9)).alloc (.cells #[.int .i64 0] 25)).heap.size ((w.alloc (.cells #[.string ⟨#[]⟩] 9)).alloc (.cells #[.int .i64 0] 25)) W := HB1.out.trans (hb0.mono HB1.out.size); have hb2 : Below ((w.alloc (.cells #[.string ⟨#[]⟩] 9)).alloc (.cells #[.int .i64 0] 25)).heap.size ((w.alloc (.cells #[.string ⟨#[]⟩] 9)).alloc (.cells #[.int .i64 0] 25)) (W.alloc (.cells #[.int .i64 n] 3)) := hb.alloc hb.size _; have c0 := (Boxed.go (two_boxes w).1 hb2).cell; have f0 := (Boxed.go (two_boxes w).1 hb2).frozen; have c1 := (Boxed.go (two_boxes w).2 hb2).cell; have f1 := (Boxed.go (two_boxes w).2 hb2).frozen; have HB := Lib.hid hb2; clear hb hb0 hb2 hsz))
    obtain ⟨e0, e1, hB⟩ := res_none w _ HB.out ⟨#[]⟩ 6
    refine bodyPost_ret (v := .tuple #[.string ⟨#[]⟩, .int .i64 6]) ?_ rfl ⟨rfl, hB⟩
    simp [results, Tryd.f18, go_sem, e0, e1]
end Go.Proofs.YtjiokdkgbnakhaaDoor.Own
end TResB
section TResC
set_option linter.unusedVariables false
set_option linter.unusedSimpArgs false
namespace Go.Proofs.YtjiokdkgbnakhaaDoor.Own
open Go.RowKit Go.Shelf Go.Proofs.YtjiokdkgbnakhaaDoor Go.Proofs.YtjiokdkgbnakhaaDoorW.PrintWords Go.Proofs.YtjiokdkgbnakhaaDoorW.PrintLast Go.Proofs.YtjiokdkgbnakhaaDoorW.PrintMore
attribute [local go_sem] Oper.semAt_some
theorem findLine_none {n : Int} {ls : List (Nat × ByteArray)} (h : ∀ x ∈ ls, (x.1 : Int) ≠ n) : findLine n ls = (⟨#[]⟩, 6) := by
  unfold findLine
  rw [List.find?_eq_none.2 (fun x hx => by simpa using h x hx)]
theorem findLine_some {n : Int} {ini suf : List (Nat × ByteArray)} {x : Nat × ByteArray} (h : ∀ y ∈ ini, (y.1 : Int) ≠ n) (hx : (x.1 : Int) = n) : findLine n (ini ++ [x] ++ suf) = (x.2, 0) := by
  unfold findLine
  rw [List.append_assoc, List.find?_append, List.find?_eq_none.2 (fun y hy => by simpa using h y hy)]
  simp [hx]
structure ResW (w W0 : World) (B : Nat) (Nb : Nat) (n : Int) (T : Value) : Prop where
  b0 : Boxed W0 B 9 (.string ⟨#[]⟩)
  b1 : Boxed W0 (B + 1) 25 (.int .i64 0)
  bn : Boxed W0 Nb 3 (.int .i64 n)
  bt : Boxed W0 (Nb + 1) 22 T
  below : Below B w W0
  lo : B + 1 < Nb
  sz : W0.heap.size = Nb + 2
theorem resW (w W : World) (n : Int) (T : Value) (hb : Below ((w.alloc (.cells #[.string ⟨#[]⟩] 9)).alloc (.cells #[.int .i64 0] 25)).heap.size ((w.alloc (.cells #[.string ⟨#[]⟩] 9)).alloc (.cells #[.int .i64 0] 25)) W) :
    ResW w ((W.alloc (.cells #[.int .i64 n] 3)).alloc (.cells #[T] 22)) w.heap.size W.heap.size n T := by
  obtain ⟨c0, c1⟩ := two_boxes w
  have hs := hb.size
  simp only [World.size_alloc] at hs
  have bT := Boxed.new (W.alloc (.cells #[.int .i64 n] 3)) 22 T
  rw [World.size_alloc] at bT
  refine ⟨((Boxed.go c0 hb).alloc _).alloc _, ((Boxed.go c1 hb).alloc _).alloc _, (Boxed.new W _ _).alloc _, bT, ?_, by omega, by simp⟩
  exact (((((Below.refl _ w).alloc (Nat.le_refl _) _).alloc (by simp) _).trans (hb.mono (by simp; omega))).alloc (by omega) _).alloc (by simp; omega) _
set_option maxRecDepth 100000 in
set_option maxHeartbeats 4000000 in
theorem resolve_loop1 (field : ByteArray) (hs : field.size ≤ 9223372036854775807) (A : Option Addr) (c : Nat) (xs : List Int) (w : World) (hr : (Kd.int .u8).C w A xs.length xs) (hlen : xs.length ≤ c) (hM : Gmaxlen w) (hx4 : xs.length < 4294967281) (hby : ∀ x ∈ xs, 0 ≤ x ∧ x < 256)
    (h1 : hasSuf field = false)
    (hp : hasPre field = true) (hz : (cutPre field).size ≤ 15) (hsp : hasSp (cutPre field) = false) (n : Int) (hn : parseV (bytesOf (cutPre field)) 10 = (n, 0)) :
    CallsIn Fence.wide 4 Tryd.prog 18 #[.string field, .slice A xs.length c] w fun e w' => e = .returned (.tuple #[.string (findLine n (linesOf xs)).1, .int .i64 (findLine n (linesOf xs)).2]) ∧ Below w.heap.size w w' := by
  have HR := Lib.hid hr
  have HM := Lib.hid hM
  have HBY := Lib.hid hby
  obtain ⟨d, hd⟩ : ∃ d, cutPre field = d := ⟨_, rfl⟩
  rw [hd] at hz hsp hn
  have hcp : ∀ W : World, Calls Tryd.prog 39 #[.string field, .string ⟨#[47]⟩] W fun e w' => e = .returned (.tuple #[.string d, .bool true]) ∧ W = w' := fun W => by have := cutPre_calls field W; rwa [hd, hp] at this
  have HCP := Lib.hid hcp
  have HPS := Lib.hid (parse_str d (by omega))
  rw [hn] at HPS
  clear hcp hd hp hn hr hM hby
  have kc := conv_bytes
  have hpp := HPS.out ((w.alloc (.cells #[.string ⟨#[]⟩] 9)).alloc (.cells #[.int .i64 0] 25))
  simp only [World.size_alloc] at hpp
  have HP1 := Lib.hid hpp
  clear hpp
  refine callsIn_of_wp_marks Tryd.func18 rfl trivial ?_ rfl
  simp only [Tryd.ntmps18, List.size_toArray, List.length_cons, List.length_nil, Nat.reduceAdd, Nat.reduceSub, Array.replicate_succ, Array.replicate_zero, List.push_toArray, List.append_toArray, List.nil_append, List.cons_append]
  gi_wp2_with (first
    | (refine ⟨trivial, ?_⟩; gi_at_call 38; refine (callsIn_wide.2 (cutSuf_calls _ hs _)).mono ?_; rintro e w' ⟨rfl, rfl⟩)
    | (refine ⟨trivial, ?_⟩; gi_at_call 39; refine (callsIn_wide.2 (HCP.out _)).mono ?_; rintro e w' ⟨rfl, rfl⟩)
    | (refine ⟨trivial, ?_⟩; gi_at_call 40; refine (callsIn_wide.2 (hasSp_calls _ _)).mono ?_; rintro e w' ⟨rfl, rfl⟩)
    | (refine ⟨trivial, ?_⟩; gi_at_call 41; refine (callsIn_wide.2 HP1.out).mono ?_; rintro e W ⟨rfl, hb0, hsz⟩; have HB := Lib.hid (And.intro hb0 hsz); clear hb0 hsz)
    | (refine ⟨trivial, ?_⟩; gi_at_call 37; refine (callsIn_wide.2 (lines_in _ _ _ _)).mono ?_; rintro e w' ⟨rfl, rfl⟩)
    | (refine ⟨trivial, ?_⟩))
  have hres := resW w W n (.slice A xs.length c) (by simp only [World.size_alloc]; exact HB.out.1)
  obtain ⟨v43, hv43⟩ : ∃ v, Value.slice (some ⟨w.heap.size + 1 + 1, 0, none⟩) d.size (grownCap ((w.alloc (.cells #[.string ⟨#[]⟩] 9)).alloc (.cells #[.int .i64 0] 25)) d.size 0 5) = v := ⟨_, rfl⟩
  rw [hv43]
  clear hv43
  obtain ⟨W0, hW0⟩ : ∃ W0, (W.alloc (.cells #[.int .i64 n] 3)).alloc (.cells #[.slice A xs.length c] 22) = W0 := ⟨_, rfl⟩
  rw [hW0] at hres
  rw [hW0]
  obtain ⟨B, hB⟩ : ∃ B, w.heap.size = B := ⟨_, rfl⟩
  rw [hB] at hres
  rw [hB]
  obtain ⟨b0, b1, bn, bt, hbel, hlo, hsz⟩ := hres
  have HBq := Lib.hid hB
  clear hW0 kc HP1 HPS
  refine wpIn_rangeFunc_ownG rfl (by omega) (gf := 56) (lb := #[.pointer (some ⟨W.heap.size + 1, 0, none⟩)]) rfl trivial (enters_of Tryd.func56 (by kernel_rfl) rfl)
    (lines_stops (W.heap.size + 1) B A c xs hlen hx4 HBY.out W0 (by omega) bt (fun W' hb => Kd.C_below HR.out ((hB ▸ hbel).trans (hB ▸ hb))) (fun W' hb => HM.out.below ((hB ▸ hbel).trans (hB ▸ hb)))) KpT_t (KpT_b (by omega)) (Below.refl _ _) (fun _ => rfl)
    (fun pre W' => (((∀ y ∈ pre, (y.1 : Int) ≠ n) ∧ Boxed W' B 9 (.string ⟨#[]⟩)) ∧ (Boxed W' (B + 1) 25 (.int .i64 0) ∧ Boxed W' W.heap.size 3 (.int .i64 n))) ∧ Below B w W')
    (fun cd pre W' => ((cd = .ret ∧ ∃ ini last, pre = ini ++ [last] ∧ (∀ y ∈ ini, (y.1 : Int) ≠ n) ∧ (last.1 : Int) = n ∧ Boxed W' B 9 (.string last.2)) ∧ Boxed W' (B + 1) 25 (.int .i64 0)) ∧ Below B w W')
    (OwnFrom.and (OwnFrom.and (OwnFrom.and (ownFrom_pure _ _) (Own.from (boxed_own _ _ _) _)) (OwnFrom.and (Own.from (boxed_own _ _ _) _) (Own.from (boxed_own _ _ _) _))) (ownFrom_below (by omega) (by omega)))
    (fun cd => OwnFrom.and (OwnFrom.and (Own.from (fun s X Y row hs hg hrow => by
      obtain ⟨hc, ini, last, e1, e2, e3, e4⟩ := hs
      exact ⟨hc, ini, last, e1, e2, e3, boxed_own B 9 (fun _ : Unit => .string last.2) () X Y row e4 hg hrow⟩) _) (Own.from (boxed_own _ _ _) _)) (ownFrom_below (by omega) (by omega)))
    ⟨⟨⟨(fun y hy => by cases hy), b0⟩, b1, bn⟩, hbel⟩
    (fun x => { tmps := #[.string field, .slice A xs.length c, undef, undef, .pointer (some ⟨B, 0, none⟩), .pointer (some ⟨B + 1, 0, none⟩), .string (cutSuf field), .bool false, .string d, .bool true, .pointer (some ⟨W.heap.size, 0, none⟩), .int .i64 0, .int .i64 (x.1 : Int), .string x.2, .tuple #[.string (cutSuf field), .bool false], .string field, .tuple #[.string (cutSuf field), .bool false], .string (cutSuf field), .bool false, .bool false, .bool false, undef, undef, .bool false, undef, .tuple #[.string d, .bool true], .string field, .tuple #[.string d, .bool true], .string d, .bool true, .bool true, .bool false, .bool false, .string d, .int .i64 (d.size : Int), .bool (decide ((15 : Int) < (d.size : Int))), .bool (decide ((15 : Int) < (d.size : Int))), .bool (decide ((15 : Int) < (d.size : Int))), .string d, .bool false, .bool (decide ((15 : Int) < (d.size : Int))), .tuple #[.int .i64 n, .int .i64 0], .string d, v43, .tuple #[.int .i64 n, .int .i64 0], .int .i64 n, .int .i64 0, .int .i64 0, .bool false, .slice A xs.length c, .func (.func 56) #[] #[.pointer (some ⟨W.heap.size + 1, 0, none⟩)], .int .i64 (x.1 : Int), .string x.2, undef, undef, undef, undef], defers := [] }) ?assign ?body ?done ?stop
  case assign =>
    intro l x W K hK
    gi_wp2
    exact hK
  case body =>
    rintro l pre x W2 ⟨⟨⟨hne, hb0⟩, hb1, hbn⟩, hBW⟩ hlt
    have hcn := hbn.cell
    have hc0 := hb0.cell
    have hf0 := hb0.frozen
    have hc1 := hb1.cell
    have hf1 := hb1.frozen
    have HI := Lib.hid (And.intro hne (And.intro hb0 (And.intro hb1 (And.intro hbn hBW))))
    clear hne hb0 hb1 hbn hBW b0 b1 bn bt hbel hB
    by_cases hx : (x.1 : Int) = n
    · have hxb : ((x.1 : Int) == n) = true := beq_iff_eq.2 hx
      have HX := Lib.hid hx
      clear hx
      gi_wp2
      obtain ⟨hne, hb0, hb1, hbn, hBW⟩ := HI.out
      refine ⟨((KeepsOthers.setCell _ _ _).from _).trans ((KeepsOthers.setCell _ _ _).from _), ⟨⟨rfl, pre, x, rfl, hne, HX.out, (hb0.set _).other (by omega) _⟩, (hb1.other (by omega) _).set _⟩, ?_⟩
      exact (hBW.setCell (p := ⟨B, 0, none⟩) (Nat.le_refl _) _).setCell (p := ⟨B + 1, 0, none⟩) (Nat.le_succ _) _
    · have hxb : ((x.1 : Int) == n) = false := beq_eq_false_iff_ne.2 hx
      have HX := Lib.hid hx
      clear hx
      gi_wp2
      obtain ⟨hne, hb0, hb1, hbn, hBW⟩ := HI.out
      exact ⟨KeepsFrom.refl _ _, KpT_refl _ _ _ _ _, ⟨⟨fun y hy => (List.mem_append.1 hy).elim (hne y) (fun e => by rw [List.mem_singleton.1 e]; exact HX.out), hb0⟩, hb1, hbn⟩, hBW⟩
  case done =>
    rintro D ys W2 hD rfl ⟨⟨⟨hne, hb0⟩, hb1, hbn⟩, hBW⟩ hK
    have hc0 := hb0.cell
    have hf0 := hb0.frozen
    have hc1 := hb1.cell
    have hf1 := hb1.frozen
    have HI := Lib.hid (And.intro hne (And.intro hb0 (And.intro hb1 (And.intro hBW hK))))
    clear hne hb0 hb1 hbn hBW b0 b1 bn bt hbel hB hK
    gi_wp2
    obtain ⟨hne, hb0, hb1, hBW, hK⟩ := HI.out
    obtain ⟨X, hX⟩ : ∃ X, (W2.setCell ⟨B, 0, none⟩ (.string ⟨#[]⟩)).setCell ⟨B + 1, 0, none⟩ (.int .i64 6) = X := ⟨_, rfl⟩
    have hK' : X.heap[D]? = some (.deferred (some [])) := by
      rw [← hX]
      exact (KeepsOthers.setCell _ ⟨B + 1, 0, none⟩ (.int .i64 6)).same D _ ((KeepsOthers.setCell W2 ⟨B, 0, none⟩ (.string ⟨#[]⟩)).same D _ hK rfl) rfl
    have x0 : Boxed X B 9 (.string ⟨#[]⟩) := by rw [← hX]; exact (hb0.set _).other (by omega) _
    have x1 : Boxed X (B + 1) 25 (.int .i64 6) := by rw [← hX]; exact (hb1.other (by omega) _).set _
    have xB : Below B w X := by rw [← hX]; exact (hBW.setCell (p := ⟨B, 0, none⟩) (Nat.le_refl _) _).setCell (p := ⟨B + 1, 0, none⟩) (Nat.le_succ _) _
    rw [hX]
    refine ⟨by simp, .inl ⟨_, _, rfl, run_takeDeferred hK', ?_⟩⟩
    have e0 := cell_kept x0.cell (grownBy_putObj' _ D (.deferred none)) (fun r e => by cases e; exact ⟨_, hK', rfl⟩)
    have e1 := cell_kept x1.cell (grownBy_putObj' _ D (.deferred none)) (fun r e => by cases e; exact ⟨_, hK', rfl⟩)
    refine ⟨_, by simp [results, Tryd.f18, go_sem, e0, e1]; rfl, ?_⟩
    have hB2 := HBq.out
    rw [findLine_none hne, hB2]
    exact ⟨rfl, xB.trans (belowK_b (w := w) (by omega) X D _ _ (by omega) hK' rfl rfl)⟩
  case stop =>
    rintro D cd pre W2 hD hpre ⟨⟨⟨rfl, ini, last, rfl, hne, hlast, hb0⟩, hb1⟩, hBW⟩ hK
    have HI := Lib.hid (And.intro hne (And.intro hb0 (And.intro hb1 (And.intro hBW (And.intro hK hlast)))))
    clear hne hb0 hb1 hBW b0 b1 bn bt hbel hB hK hlast
    gi_wp2
    obtain ⟨hne, hb0, hb1, hBW, hK, hlast⟩ := HI.out
    refine ⟨by simp, .inl ⟨_, _, rfl, run_takeDeferred hK, ?_⟩⟩
    have e0 := cell_kept hb0.cell (grownBy_putObj' _ D (.deferred none)) (fun r e => by cases e; exact ⟨_, hK, rfl⟩)
    have e1 := cell_kept hb1.cell (grownBy_putObj' _ D (.deferred none)) (fun r e => by cases e; exact ⟨_, hK, rfl⟩)
    refine ⟨_, by simp [results, Tryd.f18, go_sem, e0, e1]; rfl, ?_⟩
    have hB2 := HBq.out
    obtain ⟨suf, hs2⟩ := hpre
    rw [← hs2, findLine_some hne hlast, hB2]
    exact ⟨rfl, hBW.trans (belowK_b (w := w) (by omega) W2 D _ _ (by omega) hK rfl rfl)⟩
end Go.Proofs.YtjiokdkgbnakhaaDoor.Own
end TResC
