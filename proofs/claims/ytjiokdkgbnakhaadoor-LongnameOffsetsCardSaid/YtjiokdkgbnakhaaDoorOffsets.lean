/- LongnameOffsets, in plain terms: it tells true for every input. -/
import Derived.Test.YtjiokdkgbnakhaaDoorBuild
import Derived.Test.YtjiokdkgbnakhaaDoorKx5
set_option linter.unusedVariables false
set_option linter.unusedSimpArgs false
namespace Go.Proofs.YtjiokdkgbnakhaaDoor.Own
open Go.RowKit Go.Proofs.YtjiokdkgbnakhaaDoor Go.Proofs.YtjiokdkgbnakhaaDoorW.PrintWords Go.Proofs.YtjiokdkgbnakhaaDoorW.PrintLast Go.Proofs.YtjiokdkgbnakhaaDoorW.PrintMore

/-! ### decimal digits, written and read -/
theorem digit_toNat (n : Nat) (h : n < 10) : (UInt8.ofNat (48 + n)).toNat = 48 + n := by
  rw [UInt8.toNat_ofNat', Nat.mod_eq_of_lt (by omega)]
theorem digI_small {n : Nat} (h : n < 10) : bytesOf (decB n) = [48 + (n : Int)] := by
  unfold bytesOf decB
  rw [Lib.decDigits, dif_pos h]
  simp only [List.map_cons, List.map_nil]
  rw [digit_toNat n h]
  simp
theorem digI_big {n : Nat} (h : ¬ n < 10) : bytesOf (decB n) = bytesOf (decB (n / 10)) ++ [48 + ((n % 10 : Nat) : Int)] := by
  unfold bytesOf decB
  rw [Lib.decDigits.eq_1 n, dif_neg h]
  simp only [List.map_append, List.map_cons, List.map_nil]
  rw [digit_toNat _ (Nat.mod_lt _ (by decide))]
  simp
theorem digI_ne (n : Nat) : 1 ≤ (bytesOf (decB n)).length := by
  by_cases h : n < 10
  · rw [digI_small h]; exact Nat.le_refl _
  · rw [digI_big h]; simp
theorem digI_dig (n : Nat) : (bytesOf (decB n)).all (isDig 10) = true := by
  induction n using Nat.strongRecOn with
  | _ n ih =>
    by_cases h : n < 10
    · rw [digI_small h]
      simp [isDig]
      omega
    · rw [digI_big h, List.all_append, ih (n / 10) (by omega)]
      simp [isDig]
      omega
theorem digI_num (n : Nat) : numF 10 (bytesOf (decB n)) = n := by
  induction n using Nat.strongRecOn with
  | _ n ih =>
    by_cases h : n < 10
    · rw [digI_small h]
      simp [numF]
      omega
    · rw [digI_big h, numF_snoc, ih (n / 10) (by omega)]
      omega
theorem digI_head (n : Nat) (h1 : 1 ≤ n) : (bytesOf (decB n)).getD 0 0 ≠ 48 := by
  induction n using Nat.strongRecOn with
  | _ n ih =>
    by_cases h : n < 10
    · rw [digI_small h]
      simp
      omega
    · have := ih (n / 10) (by omega) (by omega)
      have hne := digI_ne (n / 10)
      rw [digI_big h]
      rw [List.getD_eq_getElem?_getD, List.getElem?_append_left (by omega), ← List.getD_eq_getElem?_getD]
      exact this
theorem digI_short : ∀ (m n : Nat), n < 10 ^ (m + 1) → (bytesOf (decB n)).length ≤ m + 1
  | 0, n, h => by rw [digI_small (by omega)]; exact Nat.le_refl _
  | m + 1, n, h => by
    by_cases h10 : n < 10
    · rw [digI_small h10]; simp
    · have := digI_short m (n / 10) (by rw [Nat.pow_succ] at h; omega)
      rw [digI_big h10, List.length_append]
      simp
      omega
theorem parse_dig (n : Nat) (h : n < 10 ^ 15) : parseV (bytesOf (decB n)) 10 = ((n : Int), (0 : Int)) := by
  have h1 := digI_ne n
  have h2 := digI_short 14 n h
  have hd := digI_dig n
  have htw : (bytesOf (decB n)).takeWhile (fun c => decide (c ≠ 32)) = bytesOf (decB n) := by
    have := takeWhile_at 10 (bytesOf (decB n)) (bytesOf (decB n)).length (by rw [List.take_length]; exact hd) (Nat.le_refl _) (.inl rfl)
    rwa [List.take_length] at this
  unfold parseV
  rw [if_neg (by omega), htw, if_pos hd]
  unfold parseJ
  rw [if_neg, List.take_length, digI_num]
  rintro (h0 | ⟨ha, hb⟩ | h0)
  · omega
  · by_cases h10 : n < 10
    · rw [digI_small h10] at ha
      simp at ha
    · exact digI_head n (by omega) hb
  · rw [List.drop_length] at h0
    simp at h0
theorem dec_data (n : Nat) : (decB n).data.toList = Lib.decDigits n := rfl
theorem dec_bytes {n : Nat} {b : UInt8} (h : b ∈ Lib.decDigits n) : 48 ≤ b.toNat ∧ b.toNat < 58 := by
  have hm : (b.toNat : Int) ∈ bytesOf (decB n) := List.mem_map_of_mem (f := fun b : UInt8 => (b.toNat : Int)) h
  have := List.all_eq_true.1 (digI_dig n) _ hm
  simp [isDig] at this
  omega
theorem indexByte_no (c : UInt8) : ∀ l : List UInt8, (∀ b ∈ l, b ≠ c) → Lib.indexByte l c = -1
  | [], _ => rfl
  | b :: l, h => by
    have hb : (b == c) = false := beq_eq_false_iff_ne.2 (h b List.mem_cons_self)
    have ih := indexByte_no c l (fun x hx => h x (List.mem_cons_of_mem _ hx))
    simp [Lib.indexByte, hb, ih]
theorem resolve_at (n : Nat) (h : n < 10 ^ 15) (tab : List Int) : resolveV (⟨#[47]⟩ ++ decB n) tab = findLine n (linesOf tab) := by
  have hdata : ((⟨#[47]⟩ : ByteArray) ++ decB n).data.toList = 47 :: Lib.decDigits n := by simp [decB]
  have hne : Lib.decDigits n ≠ [] := fun e => by
    have := digI_ne n
    rw [bytesOf, dec_data, e] at this
    simp at this
  have hlast : ∃ r d, Lib.decDigits n = r ++ [d] := ⟨_, _, (List.dropLast_concat_getLast hne).symm⟩
  obtain ⟨r, d, hrd⟩ := hlast
  have hd := dec_bytes (n := n) (b := d) (by rw [hrd]; simp)
  have hsuf : hasSuf ((⟨#[47]⟩ : ByteArray) ++ decB n) = false := by
    unfold hasSuf Lib.hasSuffix
    rw [hdata, hrd]
    have : ((47 : UInt8) == d) = false := beq_eq_false_iff_ne.2 (by rintro rfl; simp at hd)
    simp [List.isSuffixOf, List.isPrefixOf, this]
  have hpre : hasPre ((⟨#[47]⟩ : ByteArray) ++ decB n) = true := by
    unfold hasPre Lib.hasPrefix
    rw [hdata]
    simp [List.isPrefixOf]
  have hcut : cutPre ((⟨#[47]⟩ : ByteArray) ++ decB n) = decB n := by
    have hp : Lib.hasPrefix (47 :: Lib.decDigits n) [47] = true := by simp [Lib.hasPrefix, List.isPrefixOf]
    unfold cutPre Lib.trimPrefix
    rw [hdata, if_pos hp]
    rfl
  have hsz : (decB n).size ≤ 15 := by rw [← bytesOf_length]; exact digI_short 14 n h
  have hsp : hasSp (decB n) = false := by
    unfold hasSp
    rw [dec_data, indexByte_no 32 _ (fun b hb => by
      have := dec_bytes hb
      rintro rfl
      simp at this)]
    rfl
  unfold resolveV
  rw [hsuf, Bool.false_and, if_neg Bool.false_ne_true, hpre, hcut, hsp, decide_eq_true hsz, if_pos (show (true && true && !false) = true from rfl), parse_dig n h, if_pos rfl]

/-! ### the law -/
theorem findLine_nil (n : Int) : findLine n [] = (⟨#[]⟩, 6) := rfl
theorem findLine_cons (n : Int) (x : Nat × ByteArray) (ls : List (Nat × ByteArray)) : findLine n (x :: ls) = if (x.1 : Int) = n then (x.2, 0) else findLine n ls := by
  unfold findLine
  rw [List.find?_cons]
  by_cases h : (x.1 : Int) = n
  · rw [decide_eq_true h, if_pos h]
  · rw [decide_eq_false h, if_neg h]
theorem table_take (ns : List ByteArray) (i : Nat) (hi : i < ns.length) : (tableV (ns.take (i + 1))).length = (tableV (ns.take i)).length + ns[i].size + 2 := by
  rw [List.take_succ_eq_append_getElem hi, tableV_append, tableV_cons, tableV_nil]
  simp [bytesOf_length]
  omega
theorem offsets_loop (ns : List ByteArray) (hn : ns.length ≤ 40) (hs : ∀ s ∈ ns, s.size ≤ 300) (kk : Nat) : ∀ d i, ns.length = i + d →
    Ev (fun k => K.arlinklaw03_LongnameOffsets.l1 k ns (kk : Int) (findLine kk (linesT (tableV (ns.take i)).length (ns.drop i))).1 (findLine kk (linesT (tableV (ns.take i)).length (ns.drop i))).2 (i : Int)) true
  | 0, i, h => by
    refine Ev.step (f := fun _ => some true) (fun k => ?_) (Ev.now _)
    rw [K.arlinklaw03_LongnameOffsets.l1, if_neg (by omega), List.drop_eq_nil_of_le (by omega), linesT, findLine_nil, if_pos rfl]
    exact congrArg some (by decide +kernel)
  | d + 1, i, h => by
    have hi : i < ns.length := by omega
    have ih := offsets_loop ns hn hs kk d (i + 1) (by omega)
    have hsm : ∀ s ∈ ns.take i, s.size ≤ 300 := fun s hx => hs s (List.mem_of_mem_take hx)
    have hbd := tableV_few hsm
    have hlt : (ns.take i).length ≤ 40 := by rw [List.length_take]; omega
    rw [List.drop_eq_getElem_cons hi, linesT, findLine_cons]
    rw [table_take ns i hi] at ih
    obtain ⟨o, ho⟩ : ∃ o, (tableV (ns.take i)).length = o := ⟨_, rfl⟩
    obtain ⟨R, hR⟩ : ∃ R, (if (((tableV (ns.take i)).length : Nat) : Int) = (kk : Int) then (ns[i], (0 : Int)) else findLine kk (linesT ((tableV (ns.take i)).length + ns[i].size + 2) (ns.drop (i + 1)))) = R := ⟨_, rfl⟩
    have hR' := hR
    simp only [hR]
    refine Ev.step (f := fun k => (K.arlinkref03_Table.f k (ns.take i)).bind fun t142 => (if (t142.length : Int) = (kk : Int) then (if R.2 = 0 then (some (R.1.toList == ns[i].toList)) else (some false)) else (K.arlinklaw03_LongnameOffsets.l1 k ns (kk : Int) R.1 R.2 ((i + 1 : Nat) : Int)))) (fun k => ?_) ?_
    · rw [K.arlinklaw03_LongnameOffsets.l1, if_pos (by omega), if_pos (by omega), if_pos (by omega), Int.toNat_natCast, rdOf_nat _ _ _ hi, wrap_up (by omega)]
    · refine Ev.bind (table_ev _ (by omega) (by omega)) ?_
      by_cases hk : (((tableV (ns.take i)).length : Nat) : Int) = (kk : Int)
      · rw [if_pos hk] at hR
        subst hR
        simp only [if_pos hk, if_true]
        have : (ns[i].toList == ns[i].toList) = true := by simp
        rw [this]
        exact Ev.now _
      · rw [if_neg hk] at hR
        subst hR
        simp only [if_neg hk]
        exact ih
theorem offsets_valid (ns : List ByteArray) (hn : ns.length ≤ 40) (hs : ∀ s ∈ ns, s.size ≤ 300) (a : Int) (ha : 0 ≤ a ∧ a ≤ 65535) : ∀ d i, ns.length = i + d → (∀ s ∈ ns.take i, validB s = true) →
    Ev (fun k => K.arlinklaw03_LongnameOffsets.l0 k ns a (i : Int)) true
  | 0, i, h, hv => by
    have hv' : ∀ s ∈ ns, validB s = true := by rwa [List.take_of_length_le (by omega)] at hv
    have hbd := tableV_few hs
    obtain ⟨L, hL⟩ : ∃ L, (tableV ns).length = L := ⟨_, rfl⟩
    have hw1 : wrap64 ((L : Int) + 2) = ((L + 2 : Nat) : Int) := by unfold wrap64; omega
    obtain ⟨an, rfl⟩ : ∃ an : Nat, a = an := ⟨a.toNat, by omega⟩
    have hw2 : wrap64 (an : Int) = (an : Int) := by unfold wrap64; omega
    have hm : Int.tmod (an : Int) ((L + 2 : Nat) : Int) = ((an % (L + 2) : Nat) : Int) := rfl
    have hlt : an % (L + 2) < L + 2 := Nat.mod_lt _ (by omega)
    obtain ⟨kk, hkk⟩ : ∃ kk, an % (L + 2) = kk := ⟨_, rfl⟩
    rw [hkk] at hm hlt
    have hL12 : L ≤ 12080 := by omega
    have hsz := digI_short 14 kk (by omega)
    rw [bytesOf_length] at hsz
    refine Ev.step (f := fun k => (K.arlinkref03_Table.f k ns).bind fun t135 => (if (wrap64 ((t135.length : Int) + 2)) = 0 then (none) else ((K.arlinkref01_Text.f k (Int.tmod (wrap64 (an : Int)) (wrap64 ((t135.length : Int) + 2))) 10).bind fun t138 => (if 1 + t138.size ≤ 9223372036854775807 then ((longname_Resolve.f ((⟨#[47]⟩ : ByteArray) ++ t138) t135).bind fun bt139 => (K.arlinklaw03_LongnameOffsets.l1 k ns (Int.tmod (wrap64 (an : Int)) (wrap64 ((t135.length : Int) + 2))) bt139.1 bt139.2 0)) else (none))))) (fun k => ?_) ?_
    · rw [K.arlinklaw03_LongnameOffsets.l0, if_neg (by omega)]
    · refine Ev.bind (table_ev ns (by omega) (by omega)) ?_
      simp only [hL, hw1, hw2, hm]
      simp only [if_neg (show ¬ ((L + 2 : Nat) : Int) = 0 by omega)]
      refine Ev.bind (text_lt kk (by omega)) ?_
      have hsz' : 1 + (⟨(Lib.decDigits kk).toArray⟩ : ByteArray).size ≤ 9223372036854775807 := by
        have : (⟨(Lib.decDigits kk).toArray⟩ : ByteArray).size ≤ 15 := hsz
        omega
      simp only [if_pos hsz']
      have hres : longname_Resolve.f ((⟨#[47]⟩ : ByteArray) ++ ⟨(Lib.decDigits kk).toArray⟩) (tableV ns) = some (findLine kk (linesT 0 ns)) := by
        have h1 := resolve_at kk (by omega) (tableV ns)
        have h2 : linesOf (tableV ns) = linesT 0 ns := lines_table ns ((tableV ns).length + 1) (tableV ns) 0 (byt_tableV ns) (by omega) hv' rfl
        rw [h2] at h1
        have hfs : ((⟨#[47]⟩ : ByteArray) ++ ⟨(Lib.decDigits kk).toArray⟩).size = 1 + (decB kk).size := by simp [decB]; rfl
        unfold longname_Resolve.f
        rw [if_pos (show isBytes (tableV ns) = true ∧ (tableV ns).length < 4294967281 ∧ _ from ⟨(byt_tableV ns).to, by omega, by rw [hfs]; omega⟩)]
        exact congrArg some h1
      simp only [hres, Option.bind_some]
      have := offsets_loop ns hn hs kk ns.length 0 (by omega)
      simpa [tableV_nil] using this
  | d + 1, i, h, hv => by
    have hi : i < ns.length := by omega
    refine Ev.step (f := fun k => (K.arlinkref03_Valid.f k ns[i]).bind fun t134 => (if t134 = true then (K.arlinklaw03_LongnameOffsets.l0 k ns a ((i + 1 : Nat) : Int)) else (some true))) (fun k => ?_) ?_
    · rw [K.arlinklaw03_LongnameOffsets.l0, if_pos (by omega), if_pos (by omega), rdOf_nat _ _ _ hi, wrap_up (by omega)]
    · refine Ev.bind (rvalid_ev _) ?_
      by_cases hvi : validB ns[i] = true
      · simp only [if_pos hvi]
        refine offsets_valid ns hn hs a ha d (i + 1) (by omega) (fun s hx => ?_)
        rw [List.take_succ_eq_append_getElem hi] at hx
        exact (List.mem_append.1 hx).elim (hv s) (fun e => by rw [List.mem_singleton.1 e]; exact hvi)
      · simp only [if_neg hvi]
        exact Ev.now _
theorem offsets_true (ns : List ByteArray) (a : Int) (h0 : 0 ≤ a) (h1 : a ≤ 65535) : ∃ k, K.arlinklaw03_LongnameOffsets.f k ns a = some true := by
  apply Ev.rounds
  refine Ev.congr (f := fun k => (K.arlinkref03_Few.f k ns).bind fun t131 => (K.arlinklaw03_LongnameOffsets.j0 k ns a (!t131))) (fun k => rfl) ?_
  refine Ev.bind (few_ev ns) ?_
  by_cases hfew : fewV ns = true
  · obtain ⟨hn, hs⟩ := fewV_iff hfew
    simp only [hfew, Bool.not_true]
    refine Ev.step (f := fun k => K.arlinklaw03_LongnameOffsets.l0 k ns a ((0 : Nat) : Int)) (fun k => ?_) (offsets_valid ns hn hs a ⟨h0, h1⟩ ns.length 0 (by omega) (fun s hx => by simp at hx))
    rw [K.arlinklaw03_LongnameOffsets.j0, if_neg Bool.false_ne_true]
    rfl
  · simp only [Bool.not_eq_true] at hfew
    simp only [hfew, Bool.not_false]
    refine Ev.step (f := fun _ => some true) (fun k => ?_) (Ev.now _)
    rw [K.arlinklaw03_LongnameOffsets.j0, if_pos rfl]
    rfl

end Go.Proofs.YtjiokdkgbnakhaaDoor.Own
