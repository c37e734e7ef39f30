/- longname.Resolve, the ways that never reach its loop. -/
import Derived.Test.YtjiokdkgbnakhaaDoorEntries
import Derived.Test.YtjiokdkgbnakhaaDoorDec
import Derived.Laws.IdiomStrings
set_option linter.unusedVariables false
set_option linter.unusedSimpArgs false
namespace Go.Proofs.YtjiokdkgbnakhaaDoor.Own
open Go.RowKit Go.Shelf Go.Proofs.YtjiokdkgbnakhaaDoor Go.Proofs.YtjiokdkgbnakhaaDoorW.PrintWords Go.Proofs.YtjiokdkgbnakhaaDoorW.PrintLast Go.Proofs.YtjiokdkgbnakhaaDoorW.PrintMore

def hasSuf (s : ByteArray) : Bool := Lib.hasSuffix s.data.toList [47]
def cutSuf (s : ByteArray) : ByteArray := ⟨(Lib.trimSuffix s.data.toList [47]).toArray⟩
def hasPre (s : ByteArray) : Bool := Lib.hasPrefix s.data.toList [47]
def cutPre (s : ByteArray) : ByteArray := ⟨(Lib.trimPrefix s.data.toList [47]).toArray⟩
def hasSp (s : ByteArray) : Bool := decide (0 ≤ Lib.indexByte s.data.toList 32)
def shortB (s : ByteArray) : Bool := validB s && decide (s.size ≤ 15) && (bt s ((s.size : Int) - 1) != 32)
theorem short_f (s : ByteArray) : K.longname_Short.f s = some (shortB s) := by
  unfold K.longname_Short.f shortB
  rw [valid_f]
  simp only [Option.bind_some]
  cases hv : validB s with
  | false => rfl
  | true =>
    have hp : 1 ≤ s.size ∧ s.size ≤ 255 := by
      unfold validB at hv
      simp only [Bool.and_eq_true, decide_eq_true_eq] at hv
      exact hv.1
    rw [if_pos rfl]
    by_cases h15 : (s.size : Int) ≤ 15
    · rw [if_pos h15, wrap64_id (by omega) (by omega), if_pos (by omega), if_pos (by omega), decide_eq_true (by omega)]
      rfl
    · rw [if_neg h15, decide_eq_false (by omega)]
      rfl
theorem short_calls (s : ByteArray) (w : World) : Calls Tryd.prog 36 #[.string s] w fun e w' => e = .returned (.bool (shortB s)) ∧ Below w.heap.size w w' :=
  K.longname_Short.calls s (shortB s) w (short_f s)
theorem cutSuf_calls (s : ByteArray) (hs : s.size ≤ 9223372036854775807) (w : World) : Calls Tryd.prog 38 #[.string s, .string ⟨#[47]⟩] w fun e w' => e = .returned (.tuple #[.string (cutSuf s), .bool (hasSuf s)]) ∧ w = w' :=
  (Tryd.strings_CutSuffix s ⟨#[47]⟩ w hs).mono fun _ _ ⟨he, hw⟩ => ⟨he, hw.symm⟩
theorem cutPre_calls (s : ByteArray) (w : World) : Calls Tryd.prog 39 #[.string s, .string ⟨#[47]⟩] w fun e w' => e = .returned (.tuple #[.string (cutPre s), .bool (hasPre s)]) ∧ w = w' :=
  (Tryd.strings_CutPrefix s ⟨#[47]⟩ w).mono fun _ _ ⟨he, hw⟩ => ⟨he, hw.symm⟩
theorem hasSp_calls (s : ByteArray) (w : World) : Calls Tryd.prog 40 #[.string s, .string ⟨#[32]⟩] w fun e w' => e = .returned (.bool (hasSp s)) ∧ w = w' :=
  (Tryd.strings_Contains_one s 32 w).mono fun _ _ ⟨he, hw⟩ => ⟨he, hw.symm⟩

def findLine (n : Int) (ls : List (Nat × ByteArray)) : ByteArray × Int := match ls.find? (fun x => decide ((x.1 : Int) = n)) with
  | some x => (x.2, 0)
  | none => (⟨#[]⟩, 6)
def resolveV (field : ByteArray) (tab : List Int) : ByteArray × Int :=
  if (hasSuf field && shortB (cutSuf field)) = true then (cutSuf field, 0)
  else if (hasPre field && decide ((cutPre field).size ≤ 15) && !hasSp (cutPre field)) = true then
    (if (parseV (bytesOf (cutPre field)) 10).2 = 0 then findLine (parseV (bytesOf (cutPre field)) 10).1 (linesOf tab) else (⟨#[]⟩, 6))
  else (⟨#[]⟩, 6)

set_option maxRecDepth 100000 in
set_option maxHeartbeats 2000000 in
theorem resolve_short (field : ByteArray) (hs : field.size ≤ 9223372036854775807) (v1 : Value) (w : World) (h1 : hasSuf field = true) (h2 : shortB (cutSuf field) = true) :
    Calls Tryd.prog 18 #[.string field, v1] w fun e w' => e = .returned (.tuple #[.string (cutSuf field), .int .i64 0]) ∧ Below w.heap.size w w' := by
  go_enter Tryd.func18, Tryd.ntmps18
  go_wp2_with (first
    | (go_at_call 38; refine (cutSuf_calls _ hs _).mono ?_; rintro e w' ⟨rfl, rfl⟩)
    | (go_at_call 36; refine (short_calls _ _).mono ?_; rintro e w' ⟨rfl, hb⟩; have b0 := Boxed.go ((Boxed.new w 9 (.string ⟨#[]⟩)).alloc (.cells #[.int .i64 0] 25)) hb; have b1 := Boxed.go (Boxed.new (w.alloc (.cells #[.string ⟨#[]⟩] 9)) 25 (.int .i64 0)) hb; rw [World.size_alloc] at b1; have HB := Lib.hid hb; clear hb; have c0 := b0.cell; have f0 := b0.frozen; have c1 := b1.cell; have f1 := b1.frozen; have H0 := Lib.hid b0; have H1 := Lib.hid b1; clear b0 b1))
  refine bodyPost_ret (v := .tuple #[.string (cutSuf field), .int .i64 0]) ?_ rfl ⟨rfl, ?_⟩
  · have e0 := ((H0.out.set (.string (cutSuf field))).other (B' := w.heap.size + 1) (by omega) (.int .i64 0)).cell
    have e1 := ((H1.out.other (B' := w.heap.size) (by omega) (.string (cutSuf field))).set (.int .i64 0)).cell
    simp [results, Tryd.f18, go_sem, e0, e1]
  · have hq := HB.out
    refine ((((Below.refl _ _).alloc (Nat.le_refl _) _).alloc (by simp) _).trans (hq.mono (by simp; omega))).setCell (p := ⟨w.heap.size, 0, none⟩) (Nat.le_refl _) _ |>.setCell (p := ⟨w.heap.size + 1, 0, none⟩) (by simp) _


theorem two_boxes (w : World) : Boxed ((w.alloc (.cells #[.string ⟨#[]⟩] 9)).alloc (.cells #[.int .i64 0] 25)) w.heap.size 9 (.string ⟨#[]⟩) ∧
    Boxed ((w.alloc (.cells #[.string ⟨#[]⟩] 9)).alloc (.cells #[.int .i64 0] 25)) (w.heap.size + 1) 25 (.int .i64 0) := by
  have b1 := Boxed.new (w.alloc (.cells #[.string ⟨#[]⟩] 9)) 25 (.int .i64 0)
  rw [World.size_alloc] at b1
  exact ⟨(Boxed.new w 9 (.string ⟨#[]⟩)).alloc _, b1⟩
theorem res_none (w W : World) (hb : Below ((w.alloc (.cells #[.string ⟨#[]⟩] 9)).alloc (.cells #[.int .i64 0] 25)).heap.size ((w.alloc (.cells #[.string ⟨#[]⟩] 9)).alloc (.cells #[.int .i64 0] 25)) W) (s : ByteArray) (z : Int) :
    ((W.setCell ⟨w.heap.size, 0, none⟩ (.string s)).setCell ⟨w.heap.size + 1, 0, none⟩ (.int .i64 z)).cell? ⟨w.heap.size, 0, none⟩ = some (.string s) ∧
    ((W.setCell ⟨w.heap.size, 0, none⟩ (.string s)).setCell ⟨w.heap.size + 1, 0, none⟩ (.int .i64 z)).cell? ⟨w.heap.size + 1, 0, none⟩ = some (.int .i64 z) ∧
    Below w.heap.size w ((W.setCell ⟨w.heap.size, 0, none⟩ (.string s)).setCell ⟨w.heap.size + 1, 0, none⟩ (.int .i64 z)) := by
  obtain ⟨b0, b1⟩ := two_boxes w
  have c0 := Boxed.go b0 hb
  have c1 := Boxed.go b1 hb
  refine ⟨((c0.set (.string s)).other (B' := w.heap.size + 1) (by omega) (.int .i64 z)).cell, ((c1.other (B' := w.heap.size) (by omega) (.string s)).set (.int .i64 z)).cell, ?_⟩
  exact ((((Below.refl _ _).alloc (Nat.le_refl _) _).alloc (by simp) _).trans (hb.mono (by simp; omega))).setCell (p := ⟨w.heap.size, 0, none⟩) (Nat.le_refl _) _ |>.setCell (p := ⟨w.heap.size + 1, 0, none⟩) (by simp) _

set_option maxRecDepth 100000 in
set_option maxHeartbeats 4000000 in
theorem resolve_none (field : ByteArray) (hs : field.size ≤ 9223372036854775807) (v1 : Value) (w : World) (hS : hasSuf field = false ∨ (hasSuf field = true ∧ shortB (cutSuf field) = false))
    (hP : hasPre field = false ∨ (hasPre field = true ∧ 15 < (cutPre field).size) ∨ (hasPre field = true ∧ (cutPre field).size ≤ 15 ∧ hasSp (cutPre field) = true)) :
    Calls Tryd.prog 18 #[.string field, v1] w fun e w' => e = .returned (.tuple #[.string ⟨#[]⟩, .int .i64 6]) ∧ Below w.heap.size w w' := by
  rcases hS with h1 | ⟨h1, h2⟩
  · rcases hP with hp | ⟨hp, hz⟩ | ⟨hp, hz, hsp⟩
    all_goals
      go_enter Tryd.func18, Tryd.ntmps18
      go_wp2_with (first
        | (go_at_call 38; refine (cutSuf_calls _ hs _).mono ?_; rintro e w' ⟨rfl, rfl⟩)
        | (go_at_call 39; refine (cutPre_calls _ _).mono ?_; rintro e w' ⟨rfl, rfl⟩)
        | (go_at_call 40; refine (hasSp_calls _ _).mono ?_; rintro e w' ⟨rfl, rfl⟩))
      refine bodyPost_ret (v := .tuple #[.string ⟨#[]⟩, .int .i64 6]) ?_ rfl ⟨rfl, ?_⟩
      · simp [results, Tryd.f18, go_sem]
      · exact ((Below.refl _ _).alloc (Nat.le_refl _) _).alloc (by simp) _
  · rcases hP with hp | ⟨hp, hz⟩ | ⟨hp, hz, hsp⟩
    all_goals
      go_enter Tryd.func18, Tryd.ntmps18
      go_wp2_with (first
        | (go_at_call 38; refine (cutSuf_calls _ hs _).mono ?_; rintro e w' ⟨rfl, rfl⟩)
        | (go_at_call 39; refine (cutPre_calls _ _).mono ?_; rintro e w' ⟨rfl, rfl⟩)
        | (go_at_call 40; refine (hasSp_calls _ _).mono ?_; rintro e w' ⟨rfl, rfl⟩)
        | (go_at_call 36; refine (short_calls _ _).mono ?_; rintro e W ⟨rfl, hb⟩; have c0 := (Boxed.go (two_boxes w).1 hb).cell; have f0 := (Boxed.go (two_boxes w).1 hb).frozen; have c1 := (Boxed.go (two_boxes w).2 hb).cell; have f1 := (Boxed.go (two_boxes w).2 hb).frozen; have HB := Lib.hid hb; clear hb))
      obtain ⟨e0, e1, hB⟩ := res_none w _ HB.out ⟨#[]⟩ 6
      refine bodyPost_ret (v := .tuple #[.string ⟨#[]⟩, .int .i64 6]) ?_ rfl ⟨rfl, hB⟩
      simp [results, Tryd.f18, go_sem, e0, e1]

end Go.Proofs.YtjiokdkgbnakhaaDoor.Own
