/- Tables and their lines: the lines of a table of valid names are the names at their offsets; a table all of whose lines are valid is the table of its lines. -/
import Derived.Test.YtjiokdkgbnakhaaDoorSpec
set_option linter.unusedVariables false
set_option linter.unusedSimpArgs false
namespace Go.Proofs.YtjiokdkgbnakhaaDoor.Own
open Go.RowKit Go.Proofs.YtjiokdkgbnakhaaDoor Go.Proofs.YtjiokdkgbnakhaaDoorW.PrintWords Go.Proofs.YtjiokdkgbnakhaaDoorW.PrintLast Go.Proofs.YtjiokdkgbnakhaaDoorW.PrintMore

def Byt (l : List Int) : Prop := ∀ x ∈ l, 0 ≤ x ∧ x < 256
theorem Byt.of {l : List Int} (h : isBytes l = true) : Byt l := isBytes_iff h
theorem Byt.to {l : List Int} (h : Byt l) : isBytes l = true := List.all_eq_true.2 fun x hx => by simpa using h x hx
theorem Byt.tail {x : Int} {l : List Int} (h : Byt (x :: l)) : Byt l := fun y hy => h y (List.mem_cons_of_mem _ hy)
theorem Byt.drop {l : List Int} (h : Byt l) (n : Nat) : Byt (l.drop n) := fun y hy => h y (List.mem_of_mem_drop hy)
theorem Byt.take {l : List Int} (h : Byt l) (n : Nat) : Byt (l.take n) := fun y hy => h y (List.mem_of_mem_take hy)
theorem Byt.append {a b : List Int} (h : Byt a) (k : Byt b) : Byt (a ++ b) := fun y hy => (List.mem_append.1 hy).elim (h y) (k y)
theorem byt_bytesOf (s : ByteArray) : Byt (bytesOf s) := fun x hx => by
  obtain ⟨b, _, rfl⟩ := List.mem_map.1 hx
  have := b.toNat_lt
  omega
theorem byt_tableV : ∀ ns : List ByteArray, Byt (tableV ns)
  | [] => fun x hx => by cases hx
  | s :: ns => ((byt_bytesOf s).append (fun x hx => by simp at hx; omega)).append (byt_tableV ns)
theorem ofNat_eq {x c : Int} (h : 0 ≤ x ∧ x < 256) (hc : 0 ≤ c ∧ c < 256) : ((UInt8.ofNat c.toNat) == (UInt8.ofNat x.toNat)) = decide (x = c) := by
  have e : ∀ z : Int, 0 ≤ z ∧ z < 256 → ((UInt8.ofNat z.toNat).toNat : Int) = z := fun z hz => by
    rw [UInt8.toNat_ofNat', Nat.mod_eq_of_lt (by omega)]; omega
  by_cases hx : x = c
  · subst hx; simp
  · rw [decide_eq_false hx]
    refine beq_eq_false_iff_ne.2 fun he => hx ?_
    have := congrArg (fun u : UInt8 => (u.toNat : Int)) he
    simp only [e _ h, e _ hc] at this
    exact this.symm
theorem nextSep_nil : nextSep [] = -1 := rfl
theorem nextSep_cons (x : Int) (l : List Int) (h : Byt (x :: l)) : nextSep (x :: l) = if x = 47 ∧ l.head? = some 10 then 0 else if nextSep l = -1 then -1 else nextSep l + 1 := by
  have hx := h x List.mem_cons_self
  have hp : ([47, 10] : List UInt8).isPrefixOf (Lib.bytesOf (x :: l)) = decide (x = 47 ∧ l.head? = some 10) := by
    have h47 := ofNat_eq hx (c := 47) (by omega)
    cases l with
    | nil => simp [Lib.bytesOf, List.isPrefixOf]
    | cons y t =>
      have h10 := ofNat_eq (h y (by simp)) (c := 10) (by omega)
      simp only [Lib.bytesOf, List.map_cons, List.isPrefixOf, List.head?_cons, Option.some.injEq, Bool.and_true]
      rw [show ((47 : UInt8) == UInt8.ofNat x.toNat) = decide (x = 47) from h47, show ((10 : UInt8) == UInt8.ofNat y.toNat) = decide (y = 10) from h10, Bool.decide_and]
  show Lib.index (Lib.bytesOf (x :: l)) [47, 10] = _
  have hu : Lib.bytesOf (x :: l) = UInt8.ofNat x.toNat :: Lib.bytesOf l := rfl
  rw [hu, Lib.index, ← hu, hp]
  have hb : (Lib.index (Lib.bytesOf l) [47, 10] == -1) = decide (nextSep l = -1) := rfl
  rw [hb]
  simp only [decide_eq_true_eq]
  rfl
theorem nextSep_ge (l : List Int) : -1 ≤ nextSep l := Lib.index_ge _ _
theorem nextSep_at : ∀ (s r : List Int), Byt (s ++ 47 :: 10 :: r) → 47 ∉ s → nextSep (s ++ 47 :: 10 :: r) = s.length
  | [], r, h, _ => by
    rw [List.nil_append, nextSep_cons _ _ h, if_pos ⟨rfl, rfl⟩]
    rfl
  | x :: s, r, h, hn => by
    have hx : ¬ x = 47 := fun e => hn (e ▸ List.mem_cons_self)
    have ih := nextSep_at s r h.tail (fun e => hn (List.mem_cons_of_mem _ e))
    have h' : Byt (x :: (s ++ 47 :: 10 :: r)) := h
    rw [List.cons_append, nextSep_cons _ _ h', if_neg (fun e => hx e.1), ih, if_neg (by omega)]
    simp
theorem nextSep_none : ∀ (s : List Int), Byt s → 47 ∉ s → nextSep s = -1
  | [], _, _ => rfl
  | x :: s, h, hn => by
    have hx : ¬ x = 47 := fun e => hn (e ▸ List.mem_cons_self)
    rw [nextSep_cons _ _ h, if_neg (fun e => hx e.1), nextSep_none s h.tail (fun e => hn (List.mem_cons_of_mem _ e)), if_pos rfl]
theorem nextSep_last : ∀ (s : List Int), Byt (s ++ [47]) → 47 ∉ s → nextSep (s ++ [47]) = -1
  | [], h, _ => by rw [List.nil_append, nextSep_cons _ _ h, if_neg (by simp), nextSep_nil, if_pos rfl]
  | x :: s, h, hn => by
    have hx : ¬ x = 47 := fun e => hn (e ▸ List.mem_cons_self)
    have h' : Byt (x :: (s ++ [47])) := h
    rw [List.cons_append, nextSep_cons _ _ h', if_neg (fun e => hx e.1), nextSep_last s h.tail (fun e => hn (List.mem_cons_of_mem _ e)), if_pos rfl]
theorem nextSep_split : ∀ (l : List Int) (n : Nat), Byt l → nextSep l = n → n + 2 ≤ l.length ∧ l = l.take n ++ 47 :: 10 :: l.drop (n + 2)
  | [], n, _, h => by rw [nextSep_nil] at h; omega
  | x :: l, n, hb, h => by
    rw [nextSep_cons _ _ hb] at h
    split at h
    · rename_i hc
      have : n = 0 := by omega
      subst this
      obtain ⟨rfl, h2⟩ := hc
      cases l with
      | nil => cases h2
      | cons y t =>
        cases h2
        exact ⟨by simp, rfl⟩
    · split at h
      · omega
      · obtain ⟨m, rfl⟩ : ∃ m, n = m + 1 := ⟨n - 1, by have := nextSep_ge l; omega⟩
        obtain ⟨h1, h2⟩ := nextSep_split l m hb.tail (by omega)
        refine ⟨by simp; omega, ?_⟩
        rw [List.take_succ_cons, List.cons_append, show m + 1 + 2 = (m + 2) + 1 from rfl, List.drop_succ_cons, ← h2]

theorem bytesOf_strOf {l : List Int} (h : Byt l) : bytesOf (strOfNums l) = l := by
  unfold bytesOf strOfNums
  rw [List.map_map]
  refine (List.map_congr_left fun x hx => ?_).trans (List.map_id l)
  have := h x hx
  show (((UInt8.ofNat x.toNat).toNat : Nat) : Int) = x
  rw [UInt8.toNat_ofNat', Nat.mod_eq_of_lt (by omega)]; omega
theorem strOf_bytesOf (s : ByteArray) : strOfNums (bytesOf s) = s := by
  apply ByteArray.ext
  apply Array.toList_inj.1
  show ((bytesOf s).map _) = _
  unfold bytesOf
  rw [List.map_map]
  refine (List.map_congr_left fun x hx => ?_).trans (List.map_id _)
  show UInt8.ofNat (x.toNat : Int).toNat = x
  simp
theorem valid_no {s : ByteArray} (h : validB s = true) : 47 ∉ bytesOf s := fun e => by
  rw [validB_eq] at h
  simp only [Bool.and_eq_true] at h
  have := List.all_eq_true.1 h.2 _ e
  simp [okByte] at this
theorem valid_size {s : ByteArray} (h : validB s = true) : 1 ≤ s.size ∧ s.size ≤ 255 := by
  rw [validB_eq] at h
  simp only [Bool.and_eq_true, decide_eq_true_eq] at h
  exact h.1
theorem not_valid {s : ByteArray} (h : 47 ∈ bytesOf s) : validB s = false := by
  cases e : validB s with
  | false => rfl
  | true => exact absurd h (valid_no e)
theorem bytesOf_add (a b : ByteArray) : bytesOf (a ++ b) = bytesOf a ++ bytesOf b := by unfold bytesOf; simp

theorem lines_back : ∀ (k : Nat) (l : List Int) (a : Nat), Byt l → l.length - a < k → (∀ x ∈ linesF k l a, validB x.2 = true) → tableV ((linesF k l a).map (·.2)) = l.drop a
  | 0, l, a, _, h, _ => by omega
  | k + 1, l, a, hb, h, hv => by
    by_cases ha : a < l.length
    · rcases Int.lt_or_le (nextSep (l.drop a)) 0 with hn | hn
      · rw [linesF_last k l a ha hn] at hv
        have := hv _ (List.mem_singleton.2 rfl)
        rw [not_valid (by rw [bytesOf_add]; exact List.mem_append_right _ (by decide))] at this
        cases this
      · obtain ⟨n, hn'⟩ : ∃ n : Nat, nextSep (l.drop a) = n := ⟨(nextSep (l.drop a)).toNat, by omega⟩
        obtain ⟨h1, h2⟩ := nextSep_split _ n (hb.drop a) hn'
        have h3 : (l.drop a).drop (n + 2) = l.drop (a + n + 2) := by rw [List.drop_drop]; rfl
        rw [linesF_more k l a n ha hn'] at hv ⊢
        have ih := lines_back k l (a + n + 2) hb (by omega) (fun x hx => hv x (List.mem_cons_of_mem _ hx))
        rw [List.map_cons, tableV_cons, ih, bytesOf_strOf ((hb.drop a).take n)]
        rw [h3] at h2
        conv => rhs; rw [h2]
        simp
    · rw [linesF_end _ _ _ ha, List.drop_eq_nil_of_le (by omega)]
      rfl
/-- names at their offsets in a table -/
def linesT : Nat → List ByteArray → List (Nat × ByteArray)
  | _, [] => []
  | a, s :: ns => (a, s) :: linesT (a + s.size + 2) ns
theorem linesT_names : ∀ (a : Nat) (ns : List ByteArray), (linesT a ns).map (·.2) = ns
  | _, [] => rfl
  | a, s :: ns => by rw [linesT, List.map_cons, linesT_names]
theorem drop_more {l : List Int} {a : Nat} {s r : List Int} (h : l.drop a = s ++ r) : l.drop (a + s.length) = r := by
  rw [← List.drop_drop, h, List.drop_left]
theorem lines_table : ∀ (ns : List ByteArray) (k : Nat) (l : List Int) (a : Nat), Byt l → l.length - a < k → (∀ s ∈ ns, validB s = true) → l.drop a = tableV ns → linesF k l a = linesT a ns
  | [], k, l, a, hb, h, hv, e => by
    have : l.length ≤ a := List.drop_eq_nil_iff.1 e
    rw [linesF_end _ _ _ (by omega)]
    rfl
  | s :: ns, 0, l, a, hb, h, hv, e => by omega
  | s :: ns, k + 1, l, a, hb, h, hv, e => by
    have hs := hv s List.mem_cons_self
    rw [tableV_cons, List.append_assoc] at e
    have ha : a < l.length := by
      rcases Nat.lt_or_ge a l.length with h | h
      · exact h
      · rw [List.drop_eq_nil_of_le h] at e
        have := congrArg List.length e
        simp at this
    have hd := hb.drop a
    rw [e] at hd
    have hn : nextSep (l.drop a) = s.size := by
      rw [e]
      have := nextSep_at (bytesOf s) (tableV ns) hd (valid_no hs)
      rw [bytesOf_length] at this
      exact this
    have hm := drop_more (s := bytesOf s ++ [47, 10]) (r := tableV ns) (by rw [e, List.append_assoc])
    have hsl : a + (bytesOf s ++ [47, 10]).length = a + s.size + 2 := by rw [List.length_append, bytesOf_length]; rfl
    rw [hsl] at hm
    rw [linesF_more k l a s.size ha hn, lines_table ns k l (a + s.size + 2) hb (by omega) (fun x hx => hv x (List.mem_cons_of_mem _ hx)) hm, linesT]
    have ht : (l.drop a).take s.size = bytesOf s := by
      rw [e, ← bytesOf_length s, List.take_left]
    rw [ht, strOf_bytesOf]
theorem lines_cut : ∀ (ns : List ByteArray) (k : Nat) (l : List Int) (a : Nat), ns ≠ [] → Byt l → l.length - a < k → (∀ s ∈ ns, validB s = true) → l.drop a ++ [10] = tableV ns → ∃ x ∈ linesF k l a, validB x.2 = false
  | [], k, l, a, hne, hb, h, hv, e => absurd rfl hne
  | s :: ns, 0, l, a, hne, hb, h, hv, e => by omega
  | s :: ns, k + 1, l, a, hne, hb, h, hv, e => by
    have hs := hv s List.mem_cons_self
    have hsz := valid_size hs
    rw [tableV_cons, List.append_assoc] at e
    have ha : a < l.length := by
      rcases Nat.lt_or_ge a l.length with h | h
      · exact h
      · rw [List.drop_eq_nil_of_le h] at e
        have := congrArg List.length e
        simp [bytesOf_length] at this
        omega
    cases ns with
    | nil =>
      have e' : l.drop a = bytesOf s ++ [47] := by
        have : l.drop a ++ [10] = (bytesOf s ++ [47]) ++ [10] := by rw [e, tableV_nil]; simp
        exact List.append_cancel_right this
      have hd := hb.drop a
      rw [e'] at hd
      have hn : nextSep (l.drop a) < 0 := by rw [e', nextSep_last _ hd (valid_no hs)]; decide
      rw [linesF_last k l a ha hn]
      exact ⟨_, List.mem_singleton.2 rfl, not_valid (by rw [bytesOf_add]; exact List.mem_append_right _ (by decide))⟩
    | cons s' ns' =>
      obtain ⟨r, hr, e'⟩ : ∃ r, tableV (s' :: ns') = r ++ [10] ∧ l.drop a = bytesOf s ++ (47 :: 10 :: r) := by
        have hne' : tableV (s' :: ns') ≠ [] := by rw [tableV_cons]; simp
        have hlast : ∃ r, tableV (s' :: ns') = r ++ [10] := by
          have hsx : ∃ r z, tableV (s' :: ns') = r ++ [z] := ⟨_, _, (List.dropLast_concat_getLast hne').symm⟩
          obtain ⟨r, z, hz⟩ := hsx
          refine ⟨r, ?_⟩
          rw [hz] at e
          have : (l.drop a) ++ [10] = (bytesOf s ++ 47 :: 10 :: r) ++ [z] := by rw [e]; simp
          have h2 := (List.append_inj' this rfl).2
          rw [hz, ← h2]
        obtain ⟨r, hr⟩ := hlast
        refine ⟨r, hr, ?_⟩
        rw [hr] at e
        have : (l.drop a) ++ [10] = (bytesOf s ++ 47 :: 10 :: r) ++ [10] := by rw [e]; simp
        exact List.append_cancel_right this
      have hd := hb.drop a
      rw [e'] at hd
      have hn : nextSep (l.drop a) = s.size := by
        rw [e', nextSep_at _ _ hd (valid_no hs), bytesOf_length]
      have hm := drop_more (l := l) (a := a) (s := bytesOf s ++ [47, 10]) (r := r) (by rw [e', List.append_assoc]; rfl)
      have hsl : a + (bytesOf s ++ [47, 10]).length = a + s.size + 2 := by rw [List.length_append, bytesOf_length]; rfl
      rw [hsl] at hm
      obtain ⟨x, hx, hxv⟩ := lines_cut (s' :: ns') k l (a + s.size + 2) (by simp) hb (by omega) (fun x hx => hv x (List.mem_cons_of_mem _ hx)) (by rw [hm, hr])
      rw [linesF_more k l a s.size ha hn]
      exact ⟨x, List.mem_cons_of_mem _ hx, hxv⟩

theorem entries_table {ns : List ByteArray} (hv : ∀ s ∈ ns, validB s = true) : entriesV (tableV ns) = (ns, 0) := by
  have h := lines_table ns ((tableV ns).length + 1) (tableV ns) 0 (byt_tableV ns) (by omega) hv rfl
  have hl : linesOf (tableV ns) = linesT 0 ns := h
  unfold entriesV
  rw [hl, linesT_names, if_pos]
  refine List.all_eq_true.2 fun x hx => ?_
  have : x.2 ∈ (linesT 0 ns).map (·.2) := List.mem_map_of_mem hx
  rw [linesT_names] at this
  exact hv _ this
theorem entries_ok {l : List Int} (hb : Byt l) (h : (entriesV l).2 = 0) : tableV (entriesV l).1 = l ∧ ∀ s ∈ (entriesV l).1, validB s = true := by
  unfold entriesV at h ⊢
  split at h
  · rename_i hv
    rw [if_pos hv]
    refine ⟨lines_back (l.length + 1) l 0 hb (by omega) (fun x hx => List.all_eq_true.1 hv x hx), fun s hs => ?_⟩
    obtain ⟨x, hx, rfl⟩ := List.mem_map.1 hs
    exact List.all_eq_true.1 hv x hx
  · cases h
theorem entries_bad {l : List Int} (h : (entriesV l).2 ≠ 0) : entriesV l = ([], 7) := by
  unfold entriesV at h ⊢
  split at h
  · exact absurd rfl h
  · rename_i hv
    rw [if_neg hv]
theorem entries_cut {ns : List ByteArray} {l : List Int} (hne : ns ≠ []) (hb : Byt l) (hv : ∀ s ∈ ns, validB s = true) (e : l ++ [10] = tableV ns) : entriesV l = ([], 7) := by
  obtain ⟨x, hx, hxv⟩ := lines_cut ns (l.length + 1) l 0 hne hb (by omega) hv e
  unfold entriesV
  rw [if_neg]
  intro h
  have := List.all_eq_true.1 h x hx
  rw [hxv] at this
  cases this

end Go.Proofs.YtjiokdkgbnakhaaDoor.Own
