/- decfield.Parse at any slice of bytes: the number of a field, or the error. -/
import Derived.Test.YtjiokdkgbnakhaaDoorDecP
import Derived.IntWalk
import Derived.Lib.Hide
import Derived.Outline
set_option linter.unusedVariables false
set_option linter.unusedSimpArgs false
namespace Go.Proofs.YtjiokdkgbnakhaaDoor.Own
open Go.RowKit Go.Proofs.YtjiokdkgbnakhaaDoor Go.Proofs.YtjiokdkgbnakhaaDoorW.PrintWords Go.Proofs.YtjiokdkgbnakhaaDoorW.PrintLast Go.Proofs.YtjiokdkgbnakhaaDoorW.PrintMore

theorem blank_calls (A : Option Addr) (c : Nat) (xs : List Int) (w : World) (hr : (Kd.int .u8).C w A xs.length xs) (hc : xs.length ≤ c) (hl : xs.length ≤ 140737488351232) :
    Calls Tryd.prog 62 #[.slice A xs.length c] w fun e w' => e = .returned (.bool (xs.all (fun c => decide (c = 32)))) ∧ ∃ n, w' = w.drewN n :=
  (K.decfield_Blank.calls _ A c xs _ w hr hc (blank_f xs hl)).mono fun _ _ ⟨he, hd⟩ => ⟨he, hd.out⟩
theorem based_calls (base : Int) (hb : base = 8 ∨ base = 10) (w : World) : Calls Tryd.prog 61 #[.int .i64 base] w fun e w' => e = .returned (.bool true) ∧ ∃ n, w' = w.drewN n := by
  refine (K.decfield_based.calls base true w ?_).mono fun _ _ ⟨he, hd⟩ => ⟨he, hd.out⟩
  unfold K.decfield_based.f
  rcases hb with rfl | rfl <;> rfl

set_option maxRecDepth 100000 in
set_option maxHeartbeats 4000000 in
theorem parse_in (A : Option Addr) (c : Nat) (xs : List Int) (w : World) (hr : (Kd.int .u8).C w A xs.length xs) (hc : xs.length ≤ c) (h1 : 1 ≤ xs.length) (h18 : xs.length ≤ 18) (hby : ∀ x ∈ xs, 0 ≤ x ∧ x < 256) (base : Int) (hb : base = 8 ∨ base = 10) :
    Calls Tryd.prog 41 #[.slice A xs.length c, .int .i64 base] w fun e w' => e = .returned (.tuple #[.int .i64 (parseV xs base).1, .int .i64 (parseV xs base).2]) ∧ ∃ n, w' = w.drewN n := by
  have HR := Lib.hid hr
  have HBY := Lib.hid hby
  have HBS := Lib.hid hb
  have hbl : 8 ≤ base := by omega
  have hbu : base ≤ 10 := by omega
  have hl1 : ((xs.length : Int) < 1) = False := eq_false (by omega)
  clear hr hby hb
  go_enter Tryd.func41, Tryd.ntmps41
  go_wp2
  go_step3
  go_wp2_with (go_at_call 61; refine (based_calls base HBS.out _).mono ?_; rintro e w' ⟨rfl, q0, rfl⟩)
  go_step3
  go_wp2
  obtain ⟨ad, rfl, hcell⟩ := (Kd.reads_of_C (enc := Value.int .u8) (d := (0 : Int)) (h1 := fun _ => rfl) HR.out).2.2 (by omega)
  have HC := Lib.hid hcell
  clear hcell
  obtain ⟨i0, hi0, hz0, hz1, hz2⟩ := info_parts K.info5
  go_loopg [6, 7, 25] xs.length (fun g v6 v7 v25 wr => ∃ k : Nat, k + g = xs.length ∧ v25 = .int .i64 k ∧ v7 = .int .i64 k ∧ v6 = .int .i64 (numF base (xs.take k)) ∧ Hid ((xs.take k).all (isDig base) = true) ∧ ∃ q, wr = w.drewN q)
  case atStart => exact ⟨0, by omega, rfl, rfl, rfl, rfl, q0, rfl⟩
  case round =>
    obtain ⟨k, hkg, rfl, rfl, rfl, HD, q, rfl⟩ := hrel
    by_cases hstop : k = xs.length ∨ xs.getD k 0 = 32
    · have hend := parse_end xs base k h1 h18 HD.out (by omega) hstop
      obtain ⟨z, hz⟩ : ∃ z, numF base (xs.take k) = z := ⟨_, rfl⟩
      rw [hz]
      have hkl : k ≤ xs.length := by omega
      have hc0 := HC.out 0 (by omega)
      have hc0' : w.cell? ad = some (.int .u8 (xs.getD 0 0)) := hc0
      have hck : k < xs.length → w.cell? (ad.add k) = some (.int .u8 32) := fun h => by
        have := HC.out k h
        rcases hstop with e | e
        · omega
        · rw [e] at this; exact this
      have HCK := Lib.hid hck
      clear hck
      have hby := HBY.out (xs.getD 0 0) (by rw [List.getD_eq_getElem?_getD, List.getElem?_eq_getElem (by omega : 0 < xs.length)]; exact List.getElem_mem _)
      obtain ⟨A', hcut, hA'⟩ := print_cut (P := Tryd.prog) 22 5 .i64 Tryd.underlying22 hi0 hz1 (some ad) xs.length c k hkl
      obtain ⟨b, hbb⟩ : ∃ b, (xs.drop k).all (fun c => decide (c = 32)) = b := ⟨_, rfl⟩
      have hblk : ∀ n, Calls Tryd.prog 62 #[.slice A' (xs.length - k) (c - k)] (w.drewN n) fun e w' => e = .returned (.bool b) ∧ ∃ m, w' = (w.drewN n).drewN m := fun n => by
        have hR := hA' (w.drewN n) .u8 xs hc (Kd.reads_of_C (enc := Value.int .u8) (d := (0 : Int)) (h1 := fun _ => rfl) (Kd.C_below HR.out ⟨rfl, rfl, rfl, Nat.le_refl _, fun _ _ => rfl⟩))
        have := blank_calls A' (c - k) (xs.drop k) (w.drewN n) (Kd.C_of_reads (h1 := fun _ => rfl) (by rw [List.length_drop]; exact hR)) (by rw [List.length_drop]; omega) (by rw [List.length_drop]; omega)
        rw [List.length_drop, hbb] at this
        exact this
      have HBL := Lib.hid hblk
      have HE : Hid (parseV xs base = if k = 0 ∨ (1 < k ∧ xs.getD 0 0 = 48) ∨ b = false then (0, 3) else (z, 0)) := by
        rw [hend, ← hz, ← hbb]
        rfl
      obtain ⟨x, hx⟩ : ∃ x, xs.getD 0 0 = x := ⟨_, rfl⟩
      rw [hx] at hc0 hc0' hby HE
      obtain ⟨hx0, hx1⟩ := hby
      clear hblk hA' hend hz hbb hx
      by_cases hk0 : k = 0
      · have hres : parseV xs base = (0, 3) := by rw [HE.out, if_pos (.inl hk0)]
        have HRES := Lib.hid hres
        have hkz : ((k : Int) == 0) = true := beq_iff_eq.2 (by omega)
        have hl : k < xs.length := by omega
        clear hres hc0 hc0' hk0
        by_cases hl2 : 0 < xs.length
        · have hck0 := HCK.out hl
          clear hstop
          go_wp2
          (try simp only [Exit.noGoto_ret, Exit.inBlock, Exit.then])
          go_ret2
          exact ⟨by rw [HRES.out]; rfl, q, rfl⟩
        · omega
      · have hkz : ((k : Int) == 0) = false := beq_eq_false_iff_ne.2 (by omega)
        have hk1 : 1 ≤ k := by omega
        by_cases hz48 : 1 < k ∧ x = 48
        · obtain ⟨hk2, rfl⟩ := hz48
          have hres : parseV xs base = (0, 3) := by rw [HE.out, if_pos (.inr (.inl ⟨hk2, rfl⟩))]
          have HRES := Lib.hid hres
          clear hres hk0
          have hd1 : decide ((1 : Int) < (k : Int)) = true := decide_eq_true (by omega)
          by_cases hl : k < xs.length
          · have hck0 := HCK.out hl
            clear hstop
            go_wp2
            (try simp only [Exit.noGoto_ret, Exit.inBlock, Exit.then])
            go_ret2
            exact ⟨by rw [HRES.out]; rfl, q, rfl⟩
          · obtain rfl : k = xs.length := by omega
            clear hstop
            go_wp2
            (try simp only [Exit.noGoto_ret, Exit.inBlock, Exit.then])
            go_ret2
            exact ⟨by rw [HRES.out]; rfl, q, rfl⟩
        · have hres : parseV xs base = if b = false then (0, 3) else (z, 0) := by
            rw [HE.out]
            cases b with
            | false => rw [if_pos (.inr (.inr rfl)), if_pos rfl]
            | true => rw [if_neg, if_neg (by simp)]; exact fun h => h.elim hk0 (fun h => h.elim hz48 (fun h => by cases h))
          have HRES := Lib.hid hres
          have HZ48 := Lib.hid hz48
          clear hres hk0 hz48
          by_cases hl : k < xs.length
          · have hck0 := HCK.out hl
            clear hstop
            by_cases hk2 : 1 < k
            · have hx48 : (x == 48) = false := beq_eq_false_iff_ne.2 (fun e => HZ48.out ⟨hk2, e⟩)
              have hd1 : decide ((1 : Int) < (k : Int)) = true := decide_eq_true (by omega)
              cases b <;>
              · go_wp2_with fail
                refine (HBL.out q).mono ?_
                rintro e w' ⟨rfl, m, rfl⟩
                go_wp2
                (try simp only [Exit.noGoto_ret, Exit.inBlock, Exit.then])
                go_ret2
                exact ⟨by rw [HRES.out]; rfl, _, rfl⟩
            · have hd1 : decide ((1 : Int) < (k : Int)) = false := decide_eq_false (by omega)
              cases b <;>
              · go_wp2_with fail
                refine (HBL.out q).mono ?_
                rintro e w' ⟨rfl, m, rfl⟩
                go_wp2
                (try simp only [Exit.noGoto_ret, Exit.inBlock, Exit.then])
                go_ret2
                exact ⟨by rw [HRES.out]; rfl, _, rfl⟩
          · have hge : decide ((k : Int) < (xs.length : Int)) = false := decide_eq_false (by omega)
            clear hstop
            by_cases hk2 : 1 < k
            · have hx48 : (x == 48) = false := beq_eq_false_iff_ne.2 (fun e => HZ48.out ⟨hk2, e⟩)
              have hd1 : decide ((1 : Int) < (k : Int)) = true := decide_eq_true (by omega)
              cases b <;>
              · go_wp2_with fail
                refine (HBL.out q).mono ?_
                rintro e w' ⟨rfl, m, rfl⟩
                go_wp2
                (try simp only [Exit.noGoto_ret, Exit.inBlock, Exit.then])
                go_ret2
                exact ⟨by rw [HRES.out]; rfl, _, rfl⟩
            · have hd1 : decide ((1 : Int) < (k : Int)) = false := decide_eq_false (by omega)
              cases b <;>
              · go_wp2_with fail
                refine (HBL.out q).mono ?_
                rintro e w' ⟨rfl, m, rfl⟩
                go_wp2
                (try simp only [Exit.noGoto_ret, Exit.inBlock, Exit.then])
                go_ret2
                exact ⟨by rw [HRES.out]; rfl, _, rfl⟩
    · have hk : k < xs.length := by omega
      have h32 : xs.getD k 0 ≠ 32 := fun h => hstop (.inr h)
      have hck := HC.out k hk
      have hby := HBY.out (xs.getD k 0) (by rw [List.getD_eq_getElem?_getD, List.getElem?_eq_getElem hk]; exact List.getElem_mem hk)
      obtain ⟨x, hx⟩ : ∃ x, xs.getD k 0 = x := ⟨_, rfl⟩
      rw [hx] at hck h32 hby
      have HX := Lib.hid hx
      clear hx hstop
      obtain ⟨hx0, hx1⟩ := hby
      have hq32 : (x == 32) = false := beq_eq_false_iff_ne.2 h32
      have HNE := Lib.hid h32
      clear h32
      cases hd : isDig base x with
      | false =>
        have hbad := parse_bad xs base k h1 h18 HD.out hk (by rw [HX.out]; exact HNE.out) (by rw [HX.out]; exact hd)
        have HBAD := Lib.hid hbad
        clear hbad
        by_cases h48 : x < 48
        · clear hd
          go_wp2
          (try simp only [Exit.noGoto_ret, Exit.inBlock, Exit.then])
          go_ret2
          exact ⟨by rw [HBAD.out]; rfl, q, rfl⟩
        · have hge : base ≤ x - 48 := by
            simp only [isDig, Bool.and_eq_false_iff, decide_eq_false_iff_not] at hd
            omega
          have h48' : 48 ≤ x := by omega
          clear hd h48
          go_wp2
          (try simp only [Exit.noGoto_ret, Exit.inBlock, Exit.then])
          go_ret2
          exact ⟨by rw [HBAD.out]; rfl, q, rfl⟩
      | true =>
        have hd' : 48 ≤ x ∧ x - 48 < base := by simpa only [isDig, Bool.and_eq_true, decide_eq_true_eq] using hd
        obtain ⟨h48, hlt⟩ := hd'
        have hz : 0 ≤ numF base (xs.take k) ∧ numF base (xs.take k) ≤ 99999999999999999 := by
          have h2 := numF_le base HBS.out k (xs.take k) (by rw [List.length_take]; omega) HD.out
          have h3 : (10 : Int) ^ k ≤ 100000000000000000 := (by decide : ∀ j : Fin 18, (10 : Int) ^ (j : Nat) ≤ 100000000000000000) ⟨k, by omega⟩
          omega
        obtain ⟨hz0', hz9⟩ := hz
        have hnext : xs.take (k + 1) = xs.take k ++ [x] := by
          rw [List.take_succ_eq_append_getElem hk, ← HX.out, List.getD_eq_getElem?_getD, List.getElem?_eq_getElem hk]
          rfl
        have hnum : numF base (xs.take (k + 1)) = numF base (xs.take k) * base + (x - 48) := by rw [hnext, numF_snoc]
        have hall : (xs.take (k + 1)).all (isDig base) = true := by rw [hnext, List.all_append, HD.out]; simp [hd]
        have HNUM := Lib.hid hnum
        have HALL := Lib.hid hall
        clear hnext hnum hall hd
        obtain ⟨z, hz⟩ : ∃ z, numF base (xs.take k) = z := ⟨_, rfl⟩
        rw [hz] at hz0' hz9 HNUM ⊢
        have HZ := Lib.hid hz
        clear hz
        obtain ⟨g, rfl⟩ : ∃ m, gk = m + 1 := ⟨gk - 1, by omega⟩
        rcases HBS.out with rfl | rfl
        all_goals
          go_wp2
          go_roundg g
          case measure => omega
          case rel => exact ⟨k + 1, by omega, by go_num, by go_num, by rw [HNUM.out], HALL.out, q, rfl⟩

end Go.Proofs.YtjiokdkgbnakhaaDoor.Own
