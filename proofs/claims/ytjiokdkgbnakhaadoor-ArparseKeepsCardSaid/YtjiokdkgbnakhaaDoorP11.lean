/- Packed by a program of our own: the texts that the card of this claim needs, part 2 of 7; conditions: those of each theorem. -/
import Derived.ArgAppend
import Derived.Below
import Derived.BigQuiet
import Derived.ChangeOld
import Derived.ChangeSlices
import Derived.Deep.AppendLies
import Derived.Deep.CutBlock
import Derived.Deep.DeepCutAuto
import Derived.Deep.Draws
import Derived.Deep.LoopGhost
import Derived.Deep.OwnRows
import Derived.Deep.QuietTactic
import Derived.Deep.RegionHeld3
import Derived.Deep.WholeRow
import Derived.HandedShaped
import Derived.IntWalk
import Derived.KernelRfl
import Derived.LaidLaws
import Derived.LaidMore
import Derived.Laws.BitsLemmas
import Derived.Laws.BytesArg
import Derived.Laws.IdiomCopy
import Derived.Laws.MakeOwn
import Derived.Laws.OwnMore
import Derived.Laws.RangeAny
import Derived.Laws.Rows
import Derived.Laws.Runes
import Derived.Laws.Slices
import Derived.Laws.Strings3
import Derived.Laws.StructEq
import Derived.Lay
import Derived.Lib.AppendStr
import Derived.Lib.ConvBytes
import Derived.Lib.DecodeN
import Derived.Lib.Hide
import Derived.Lib.IndexAny
import Derived.Lib.IndexLaws
import Derived.Lib.IndexMore
import Derived.Lib.SlBytesConst
import Derived.LoopIn
import Derived.LoopNIn
import Derived.Maps.AppendAt
import Derived.OpenShut
import Derived.OrdersHeld
import Derived.Outline
import Derived.OwnWalk
import Derived.OwnWalkIn
import Derived.ProofKit
import Derived.RangeFuncBox
import Derived.RangeFuncLeaves
import Derived.RangeFuncNested
import Derived.RangeFuncRecord
import Derived.RangeFuncWrites
import Derived.RowKit
import Derived.RowKit3
import Derived.Shelf.Abstract
import Derived.Shelf.Strings.IndexAnyAll
import Derived.ShutString
import Derived.SizedLaws
import Derived.SliceStrings
import Derived.Sort.Grow
import Derived.Tactics
import Derived.TacticsInMore
import Derived.Test.YtjiokdkgbnakhaaDoorCards
import Derived.Test.YtjiokdkgbnakhaaDoorProg
import Derived.Test.YtjiokdkgbnakhaaDoorTie
import Derived.WalkKit
import Derived.WideLaws
import Derived.Test.YtjiokdkgbnakhaaDoorP10
section TWApart
namespace Go.Proofs.YtjiokdkgbnakhaaDoorW.PrintWords
open Go.RowKit
namespace Kd
def tag {α : Type} (f : Nat → Nat) (d : Kd α) : Kd (α × Nat) where
  sz := d.sz
  E := d.E
  K := fun w x cs => d.K w x.1 cs
  M := fun w base ok x cs => d.M w base (fun k => ok k ∧ f k = x.2) x.1 cs
  K_len := fun h => d.K_len h
  K_one := fun h => d.K_one h
  K_below := fun hb h => d.K_below hb h
  K_of_M := fun h => d.K_of_M h
  M_mono := fun hok h => d.M_mono (fun k hk => ⟨hok k hk.1, hk.2⟩) h
  M_bound := fun h => d.M_mono (fun _ hk => ⟨⟨hk.1.1, hk.2⟩, hk.1.2⟩) (d.M_bound h)
  M_move := fun hm h => d.M_move (fun k hk => hm k hk.1) h
  M_lower := fun hb h => d.M_lower hb h
def raw (sz : Nat) : Kd (List Value) where
  sz := sz
  E := []
  K := fun _ x cs => cs = x ∧ cs.length = sz ∧ ∀ u ∈ cs, u.oneCell' = true
  M := fun _ _ _ x cs => cs = x ∧ cs.length = sz ∧ ∀ u ∈ cs, u.oneCell' = true
  K_len := fun h => h.2.1
  K_one := fun h => h.2.2
  K_below := fun _ h => h
  K_of_M := fun h => h
  M_mono := fun _ h => h
  M_bound := fun h => h
  M_move := fun _ h => h
  M_lower := fun _ h => h
def S {α : Type} (d : Kd α) (e : Nat) (w : World) (base : Nat) (ok : Nat → Prop) (v : Value) (xs : List α) : Prop := ∃ f, (tag f d).R e w base ok v xs.zipIdx
section
variable {α β : Type} {d : Kd α} {d' : Kd β} {e e' : Nat} {w w1 W : World} {base b : Nat} {ok ok' okv oku : Nat → Prop} {u v : Value} {xs : List α} {ys : List β}
theorem zip_at {xs : List α} {j : Nat} {p : α} (h : xs[j]? = some p) : xs.zipIdx[j]? = some (p, j) := by rw [List.getElem?_zipIdx, h, Nat.zero_add]; rfl
theorem S_R (h : S d e w base ok v xs) : d.R e w base ok v xs := by
  obtain ⟨f, h0, inner, ho, hr⟩ := h
  rw [List.length_zipIdx] at ho
  exact ⟨h0, inner, ho, by have := hr.1; rw [List.length_zipIdx] at this; exact this, fun j p hj => d.M_mono (fun _ hk => hk.1) (hr.2 j (p, j) (zip_at hj))⟩
theorem R_head {ad : Addr} {n cap : Nat} (h : d.R e w base ok (.slice (some ad) n cap) xs) : ∃ g, ad = ⟨g, 0, none⟩ := by
  obtain ⟨_, inner, ho, hr⟩ := h
  rcases ho.2 with ⟨hv, _⟩ | ⟨g, cap', cur, hv, _⟩
  · cases hv
  · injection hv with ha _ _
    injection ha with ha
    exact ⟨g, ha⟩
theorem R_getA {ad : Addr} {n cap : Nat} (h : d.R e W base ok (.slice (some ad) n cap) xs) (z : α) (i : Int) (h0 : 0 ≤ i) (h1 : i < n) :
    ∃ c, c.length = d.sz ∧ d.M W base (fun k => ok k ∧ some k ≠ (Value.slice (some ad) n cap).ownBlock) (xs.getD i.toNat z) c ∧ ∀ j u, c[j]? = some u → W.cell? (ad.add (i.toNat * d.sz + j)) = some u := by
  obtain ⟨g, rfl⟩ := R_head h
  obtain ⟨c, hcl, hM, hcc, _⟩ := R_elem h z i h0 h1
  refine ⟨c, hcl, d.M_mono (fun k hk => ⟨hk.1, fun he => hk.2 (by simpa [Value.ownBlock] using he)⟩) hM, fun j u hu => ?_⟩
  rw [add_at, Nat.zero_add]
  exact hcc j u hu
theorem R_tight (hE : d.E = []) (h : d.R e w base ok v xs) : d.R e w base (fun k => some k = v.ownBlock) v xs := by
  obtain ⟨h0, inner, ho, hr⟩ := h
  refine ⟨fun k hk => hk.symm, inner, ho, hr.imp_ (fun p c hp => d.M_mono (fun k hk => ?_) (d.M_bound hp))⟩
  obtain ⟨_, _, _, q, hq, _⟩ := hk
  rw [hE] at hq
  cases hq
theorem S_nil (d : Kd α) (e : Nat) (w : World) (base : Nat) (ok : Nat → Prop) : S d e w base ok (.slice none 0 0) [] := ⟨fun _ => 0, R_nil _ _ _ _ _⟩
theorem S_mono (h : S d e w base ok v xs) (hok : ∀ k, ok k → ok' k) : S d e w base ok' v xs := by
  obtain ⟨f, h⟩ := h
  exact ⟨f, R_mono h hok⟩
theorem S_bound (h : S d e w base ok v xs) : S d e w base (fun k => ok k ∧ base ≤ k ∧ k < w.heap.size ∧ ∃ q, q ∈ e :: d.E ∧ ∃ cells, w.heap[k]? = some (.cells cells q (0, 0))) v xs := by
  obtain ⟨f, h⟩ := h
  exact ⟨f, R_bound h⟩
theorem S_move (h : S d e w base ok v xs) (hm : ∀ k, ok k → w1.heap[k]? = w.heap[k]?) : S d e w1 base ok v xs := by
  obtain ⟨f, h⟩ := h
  exact ⟨f, R_move h hm⟩
theorem S_lower {base' : Nat} (h : S d e w base ok v xs) (hb : base' ≤ base) : S d e w base' ok v xs := by
  obtain ⟨f, h⟩ := h
  exact ⟨f, R_lower h hb⟩
theorem S_step (h : S d e w base ok v xs) (hm : ∀ k, ok k → k < w.heap.size → w1.heap[k]? = w.heap[k]?) : S d e w1 base ok v xs :=
  S_mono (S_move (S_bound h) (fun k hk => hm k hk.1 hk.2.2.1)) (fun _ hk => hk.1)
theorem S_below (h : S d e w base ok v xs) (hb : Below w.heap.size w w1) : S d e w1 base ok v xs := S_step h (fun k _ hk => hb.block k hk)
theorem S_alloc (h : S d e w base ok v xs) (o : Obj) : S d e (w.alloc o) base ok v xs := S_below h (below_alloc (Below.refl _ _) o)
theorem S_drew (h : S d e w base ok v xs) : S d e w.drew base ok v xs := S_below h (below_drew (Below.refl _ _))
theorem S_drewN (h : S d e w base ok v xs) (m : Nat) : S d e (w.drewN m) base ok v xs := S_below h (pw_below_drewN (Below.refl _ _) m)
theorem S_far (h : S d e w base ok v xs) {p : Addr} (hok : ∀ k, ok k → k ≠ p.block) (u : Value) : S d e (w.setCell p u) base ok v xs := S_step h (fun k ho _ => Below.heap_setCell w p u k (hok k ho))
theorem S_types (h : S d e w base ok v xs) {g t : Nat} {cells : Array Value} (hb : w.heap[g]? = some (.cells cells t (0, 0))) (ht : ∀ q, q ∈ e :: d.E → q ≠ t) : S d e w base (fun k => ok k ∧ k ≠ g) v xs := by
  obtain ⟨f, h⟩ := h
  exact ⟨f, R_types h hb ht⟩
theorem S_set (h : S d e w base ok v xs) {g t : Nat} {cells : Array Value} (hb : w.heap[g]? = some (.cells cells t (0, 0))) (ht : ∀ q, q ∈ e :: d.E → q ≠ t) (j : Nat) (u : Value) : S d e (w.setCell ⟨g, j, none⟩ u) base ok v xs :=
  S_mono (S_far (p := ⟨g, j, none⟩) (S_types h hb ht) (fun _ hk => hk.2) u) (fun _ hk => hk.1)
theorem S_typed (h : S d e w base ok v xs) : ∀ k, v.ownBlock = some k → ∃ cells, w.heap[k]? = some (.cells cells e (0, 0)) := R_typed (S_R h)
theorem S_base (h : S d e w base ok v xs) : ∀ k, v.ownBlock = some k → base ≤ k := R_base (S_R h)
theorem S_over' (h : S d e W base ok u xs) (hty : ∀ k, v.ownBlock = some k → ∃ cells, W.heap[k]? = some (.cells cells e' (0, 0))) (ht : ∀ q, q ∈ e :: d.E → q ≠ e') (hg : W.grownBy w1 v.ownBlock) : S d e w1 base ok u xs := by
  obtain ⟨f, h⟩ := h
  exact ⟨f, R_over' h hty ht hg⟩
theorem S_elder' (h : S d e W base ok u xs) (hbase : ∀ k, v.ownBlock = some k → W.heap.size ≤ k) (hb : Below W.heap.size W w1) : S d e w1 base (fun k => ok k ∧ some k ≠ v.ownBlock) u xs := by
  obtain ⟨f, h⟩ := h
  exact ⟨f, R_elder' h hbase hb⟩
theorem S_new' (h : S d e w1 W.heap.size ok v xs) (hlt : ∀ k, u.ownBlock = some k → k < W.heap.size) : S d e w1 W.heap.size (fun k => ok k ∧ some k ≠ u.ownBlock) v xs := by
  obtain ⟨f, h⟩ := h
  exact ⟨f, R_new' h hlt⟩
theorem S_after {v1 : Value} (h : S d e W base (fun k => ok k ∧ some k ≠ v.ownBlock) u xs) (hg : W.grownBy w1 v.ownBlock) (hat : v1.ownBlock = v.ownBlock ∨ ∃ b, v1.ownBlock = some b ∧ W.heap.size ≤ b) : S d e w1 base (fun k => ok k ∧ some k ≠ v1.ownBlock) u xs := by
  obtain ⟨f, h⟩ := h
  exact ⟨f, R_after h hg hat⟩
theorem R_tag {f f' : Nat → Nat} {zs : List (α × Nat)} (h : (tag f d).R e w base ok v zs) (hf : ∀ k, ok k → k < w.heap.size → f' k = f k) : (tag f' d).R e w base ok v zs := by
  obtain ⟨h0, inner, ho, hr⟩ := R_bound h
  exact ⟨fun k hk => (h0 k hk).1, inner, ho, hr.1, fun j p hj => d.M_mono (fun k hk => ⟨⟨hk.1.1.1, hk.1.2⟩, (hf k hk.1.1.1 hk.1.1.2.2.1).trans hk.2⟩) (hr.2 j p hj)⟩
end
section
variable {α β : Type} {d : Kd α} {d' : Kd β} {e e' g : Nat} {w w1 W : World} {base b : Nat} {ok ok' okv oku : Nat → Prop} {u v : Value} {xs : List α} {ys : List β}
theorem S_ne (h : S d e w base ok v xs) {t : Nat} {cells : Array Value} (hb : w.heap[g]? = some (.cells cells t (0, 0))) (ht : e ≠ t) : some g ≠ v.ownBlock := R_ne (S_R h) hb ht
theorem S_slice (h : S d e w base ok v xs) : ∃ A c, v = .slice A xs.length c := R_slice (S_R h)
theorem S_reads (h : S d e w base ok v xs) : ∃ A c, v = .slice A xs.length c ∧ xs.length ≤ c ∧ d.C w A xs.length xs := R_reads (S_R h)
theorem S_reads' {A : Option Addr} {n c : Nat} (h : S d e w base ok (.slice A n c) xs) : n = xs.length ∧ n ≤ c ∧ d.C w A xs.length xs := R_reads' (S_R h)
theorem S_get {ad : Addr} {n cap : Nat} (h : S d e W base ok (.slice (some ad) n cap) xs) (z : α) (i : Int) (h0 : 0 ≤ i) (h1 : i < n) :
    ∃ c, c.length = d.sz ∧ d.M W base (fun k => ok k ∧ some k ≠ (Value.slice (some ad) n cap).ownBlock) (xs.getD i.toNat z) c ∧ ∀ j u, c[j]? = some u → W.cell? (ad.add (i.toNat * d.sz + j)) = some u := R_getA (S_R h) z i h0 h1
theorem zip_snoc (xs : List α) (p : α) : (xs ++ [p]).zipIdx = xs.zipIdx ++ [(p, xs.length)] := by rw [List.zipIdx_append]; simp
end
section
open Classical in
theorem S_tag {α : Type} {d : Kd α} {e base : Nat} {okv : Nat → Prop} {w : World} {v : Value} {xs : List α} (h : S d e w base okv v xs) (m : Nat) (okp : Nat → Prop) (hap : ∀ k, okp k → ¬ okv k) : ∃ f, (∀ k, okp k → f k = m) ∧ (tag f d).R e w base okv v xs.zipIdx := by
  obtain ⟨f, h⟩ := h
  exact ⟨fun k => if okp k then m else f k, fun k hk => if_pos hk, R_tag h (fun k hk _ => if_neg (fun h2 => hap k h2 hk))⟩
variable {P : Program} {ops : Array Oper} {rest : List Oper} {o : Oper} {a : Act} {Q : Exit → Act → World → Prop} {Kc : Act → World → Prop} {α : Type}
theorem S_append_step (d : Kd α) {w0 W : World} (base : Nat) (hw : Region.wanted o (yielded ops a.tmps) = true) (s x : Operand) (t e : TypeId) (z : Value) (bytes : Nat)
    (ho : o.op = .call { callee := .builtin .append, args := #[s, x], argTypes := #[t, t] })
    (ht : P.underlying t = some (.slice e)) (hinfo : (P.info? e).map (fun i => (i.zero, i.size, i.bytes)) = some (some z, d.sz, bytes)) (hz : z.cells.size = d.sz) (hs0 : 0 < d.sz) (hb0 : 0 < bytes)
    (v : Value) (xs : List α) (p : α) (cs : List Value) (ok okp : Nat → Prop) (hs : a.eval s = v) (hx : a.eval x = .slice (some ⟨W.heap.size, 0, none⟩) 1 1) (hp : d.M W base okp p cs) (hokp : ∀ k, okp k → ok k ∧ some k ≠ v.ownBlock) (hfresh : ∀ k, W.heap.size ≤ k → ok k)
    (HO : S d e W base (fun k => ok k ∧ ¬ okp k) v xs) (HB : Below base w0 W) (hbase : base ≤ W.heap.size) (hl : (xs.length + 1) * bytes ≤ 140737488355328)
    (h : ∀ v1 w1, S d e w1 base ok v1 (xs ++ [p]) → Below base w0 w1 → W.grownBy w1 v.ownBlock → (v1.ownBlock = v.ownBlock ∨ ∃ b, v1.ownBlock = some b ∧ W.heap.size ≤ b) → Kc (a.put o.dst v1) w1) :
    if Region.wanted o (yielded ops a.tmps) = true then Oper.wp P o a (W.alloc (.cells cs.toArray e)) Kc Q else Kc (a.put o.dst undef) (W.alloc (.cells cs.toArray e)) := by
  obtain ⟨f, hf, hR⟩ := S_tag HO xs.length okp (fun _ hk h2 => h2.2 hk)
  refine R_append_step (tag f d) base hw s x t e z bytes ho ht hinfo hz hs0 hb0 v xs.zipIdx (p, xs.length) cs ok okp hs hx (d.M_mono (fun k hk => ⟨hk, hf k hk⟩) hp) hokp hfresh (R_mono hR (fun _ hk => hk.1)) HB hbase (by rw [List.length_zipIdx]; exact hl) ?_
  intro v1 w1 hr
  rw [← zip_snoc] at hr
  exact h v1 w1 ⟨f, hr⟩
end
def gap {α : Type} (f : Nat → Nat) (d : Kd α) (i : Nat) (c : List Value) : Kd (α × Nat) where
  sz := d.sz
  E := d.E
  K := fun w x cs => (x.2 = i → cs = c ∧ cs.length = d.sz ∧ ∀ u ∈ cs, u.oneCell' = true) ∧ (x.2 ≠ i → d.K w x.1 cs)
  M := fun w base ok x cs => (x.2 = i → cs = c ∧ cs.length = d.sz ∧ ∀ u ∈ cs, u.oneCell' = true) ∧ (x.2 ≠ i → d.M w base (fun k => ok k ∧ f k = x.2) x.1 cs)
  K_len := fun {w x cs} h => by
    by_cases hx : x.2 = i
    · exact (h.1 hx).2.1
    · exact d.K_len (h.2 hx)
  K_one := fun {w x cs} h => by
    by_cases hx : x.2 = i
    · exact (h.1 hx).2.2
    · exact d.K_one (h.2 hx)
  K_below := fun hb h => ⟨h.1, fun hx => d.K_below hb (h.2 hx)⟩
  K_of_M := fun h => ⟨h.1, fun hx => d.K_of_M (h.2 hx)⟩
  M_mono := fun hok h => ⟨h.1, fun hx => d.M_mono (fun k hk => ⟨hok k hk.1, hk.2⟩) (h.2 hx)⟩
  M_bound := fun h => ⟨h.1, fun hx => d.M_mono (fun _ hk => ⟨⟨hk.1.1, hk.2⟩, hk.1.2⟩) (d.M_bound (h.2 hx))⟩
  M_move := fun hm h => ⟨h.1, fun hx => d.M_move (fun k hk => hm k hk.1) (h.2 hx)⟩
  M_lower := fun hb h => ⟨h.1, fun hx => d.M_lower hb (h.2 hx)⟩
def H {α : Type} (d : Kd α) (e : Nat) (w : World) (base : Nat) (ok : Nat → Prop) (v : Value) (xs : List α) (i : Int) (oki : Nat → Prop) (c : List Value) : Prop :=
  (∀ k, oki k → ok k) ∧ ∃ f, (gap f d i.toNat c).R e w base (fun k => ok k ∧ ¬ oki k) v xs.zipIdx
section
variable {α β : Type} {d : Kd α} {e e' g n cap : Nat} {w w1 W : World} {base : Nat} {ok ok' oki okp : Nat → Prop} {u v : Value} {xs : List α} {i : Int} {c : List Value}
theorem S_lend (h : S d e W base ok (.slice (some ⟨g, 0, none⟩) n cap) xs) (z : α) (i : Int) (h0 : 0 ≤ i) (h1 : i < n) :
    ∃ (oki : Nat → Prop) (c : List Value), c.length = d.sz ∧ d.M W base oki (xs.getD i.toNat z) c ∧ (∀ j u, c[j]? = some u → W.cell? ⟨g, i.toNat * d.sz + j, none⟩ = some u) ∧ (∀ k, oki k → ok k ∧ k ≠ g) ∧ H d e W base ok (.slice (some ⟨g, 0, none⟩) n cap) xs i oki c := by
  obtain ⟨f, hR⟩ := h
  have hn := (R_reads' hR).1
  rw [List.length_zipIdx] at hn
  have hgo : some g = (Value.slice (some ⟨g, 0, none⟩) n cap).ownBlock := by simp [Value.ownBlock]
  obtain ⟨hok0, inner, ho, hr⟩ := hR
  have hil : i.toNat < xs.length := by omega
  have hlen : inner.length = xs.length * d.sz := by have := hr.1; rw [List.length_zipIdx] at this; exact this
  have hseg : i.toNat * d.sz + d.sz ≤ inner.length := by rw [hlen, ← Nat.succ_mul]; exact Nat.mul_le_mul_right _ hil
  have hM := hr.2 i.toNat _ (zip_at (List.getElem?_eq_getElem hil))
  have hkg : ∀ k, some k ≠ (Value.slice (some ⟨g, 0, none⟩) n cap).ownBlock → k ≠ g := fun k hk he => hk (by rw [he]; exact hgo)
  refine ⟨fun k => (ok k ∧ k ≠ g) ∧ f k = i.toNat, (inner.drop (i.toNat * d.sz)).take d.sz, by rw [List.length_take, List.length_drop]; omega, ?_, fun j u hu => ?_, fun k hk => hk.1, fun k hk => hk.1.1, f, fun k hk => ⟨hok0 k hk, fun h2 => h2.1.2 ?_⟩, inner, ho, hr.1, fun m p hm => ?_⟩
  · rw [List.getD_eq_getElem?_getD, List.getElem?_eq_getElem hil]
    exact d.M_mono (fun k hk => ⟨⟨hk.1.1, hkg k hk.1.2⟩, hk.2⟩) hM
  · rw [List.getElem?_take] at hu
    split at hu
    · rw [List.getElem?_drop] at hu
      have := ho.cells (g := g) hgo.symm _ u hu
      rwa [add_plain] at this
    · cases hu
  · rw [← hgo] at hk; injection hk with hk; exact hk.symm
  · have hold := hr.2 m p hm
    have hp2 : p.2 = m := by
      rw [List.getElem?_zipIdx, Nat.zero_add] at hm
      obtain ⟨q, _, rfl⟩ := Option.map_eq_some_iff.1 hm
      rfl
    refine ⟨fun hx => ?_, fun hx => d.M_mono (fun k hk => ⟨⟨⟨hk.1.1, fun h2 => hx ?_⟩, hk.1.2⟩, hk.2⟩) hold⟩
    · have hmi : m = i.toNat := by omega
      subst hmi
      exact ⟨rfl, d.K_len (d.K_of_M hM), d.K_one (d.K_of_M hM)⟩
    · rw [← hk.2]; exact h2.2
open Classical in
theorem H_back (h : H d e w base ok v xs i oki c) {x' : α} (hM : d.M w base okp x' c) (hok : ∀ k, okp k → oki k) : S d e w base ok v (xs.set i.toNat x') := by
  obtain ⟨ho, f, h0, inner, hown, hr⟩ := h
  refine ⟨fun k => if oki k then i.toNat else f k, fun k hk => (h0 k hk).1, inner, by rw [List.length_zipIdx, List.length_set]; rw [List.length_zipIdx] at hown; exact hown, by have := hr.1; rw [List.length_zipIdx] at this; rw [List.length_zipIdx, List.length_set]; exact this, fun m p hm => ?_⟩
  rw [List.getElem?_zipIdx, Nat.zero_add] at hm
  obtain ⟨q, hq, rfl⟩ := Option.map_eq_some_iff.1 hm
  have hml : m < xs.length := by
    have := (List.getElem?_eq_some_iff.1 hq).1
    rwa [List.length_set] at this
  by_cases hmi : m = i.toNat
  · subst hmi
    rw [List.getElem?_set_self hml] at hq
    injection hq with hq
    subst hq
    have hc := ((hr.2 i.toNat _ (zip_at (List.getElem?_eq_getElem hml))).1 rfl).1
    show d.M w base _ x' ((inner.drop (i.toNat * d.sz)).take d.sz)
    rw [show (inner.drop (i.toNat * d.sz)).take d.sz = c from hc]
    exact d.M_mono (fun k hk => ⟨⟨ho k (hok k hk), fun he => (h0 k he.symm).2 (hok k hk)⟩, if_pos (hok k hk)⟩) hM
  · rw [List.getElem?_set_ne (Ne.symm hmi)] at hq
    exact d.M_mono (fun k hk => ⟨⟨hk.1.1.1, hk.1.2⟩, (if_neg hk.1.1.2).trans hk.2⟩) ((hr.2 m (q, m) (zip_at hq)).2 hmi)
theorem H_step (h : H d e w base ok v xs i oki c) (hm : ∀ k, ok k → ¬ oki k → k < w.heap.size → w1.heap[k]? = w.heap[k]?) : H d e w1 base ok v xs i oki c := by
  obtain ⟨ho, f, h⟩ := h
  exact ⟨ho, f, R_step h (fun k hk hlt => hm k hk.1 hk.2 hlt)⟩
theorem H_grown (h : H d e w base ok v xs i oki c) {row : Option Nat} (hg : w.grownBy w1 row) (hrow : ∀ k, row = some k → oki k) : H d e w1 base ok v xs i oki c :=
  H_step h (fun k _ hn hlt => hg.block k hlt (fun he => hn (hrow k he.symm)))
theorem S_borrow {ad : Addr} (h : S d e W base ok (.slice (some ad) n cap) xs) (z : α) (i : Int) (h0 : 0 ≤ i) (h1 : i < n) :
    ∃ (oki : Nat → Prop) (c : List Value), c.length = d.sz ∧ d.M W base oki (xs.getD i.toNat z) c ∧ (∀ j u, c[j]? = some u → W.cell? (ad.add (i.toNat * d.sz + j)) = some u) ∧ (∀ k, oki k → ok k ∧ some k ≠ (Value.slice (some ad) n cap).ownBlock) ∧
      ∀ {w1 : World} {row : Option Nat} {x' : α}, W.grownBy w1 row → (∀ k, row = some k → oki k) → d.M w1 base oki x' c → S d e w1 base ok (.slice (some ad) n cap) (xs.set i.toNat x') := by
  obtain ⟨g, rfl⟩ := R_head (S_R h)
  obtain ⟨oki, c, hcl, hM, hcc, hoki, hH⟩ := S_lend h z i h0 h1
  refine ⟨oki, c, hcl, hM, fun j u hu => ?_, fun k hk => ⟨(hoki k hk).1, fun he => (hoki k hk).2 ?_⟩, fun hg hrow hM1 => H_back (H_grown hH hg hrow) hM1 (fun _ hk => hk)⟩
  · rw [add_at, Nat.zero_add]
    exact hcc j u hu
  · simpa [Value.ownBlock] using he
end
section
variable {P : Program} {ops : Array Oper} {rest : List Oper} {o : Oper} {a : Act} {Q : Exit → Act → World → Prop} {α : Type}
end
end Kd
end Go.Proofs.YtjiokdkgbnakhaaDoorW.PrintWords
end TWApart
section TWFoot
namespace Go.Proofs.YtjiokdkgbnakhaaDoorW.PrintWords
open Go.RowKit
namespace Kd
structure Heap {α : Type} (d : Kd α) : Prop where
  K : ∀ {w w1 : World} {x : α} {cs : List Value}, (∀ k, k < w.heap.size → w1.heap[k]? = w.heap[k]?) → d.K w x cs → d.K w1 x cs
section
variable {α : Type} {d : Kd α} {e base g n c : Nat} {ok : Nat → Prop} {w w0 W : World} {A : Option Addr} {xs : List α}
end
end Kd
end Go.Proofs.YtjiokdkgbnakhaaDoorW.PrintWords
end TWFoot
section TWKept
namespace Go.Proofs.YtjiokdkgbnakhaaDoorW.PrintWords
open Go.RowKit
def Kept (w W : World) (S : Nat → Prop) : Prop := w.heap.size ≤ W.heap.size ∧ ∀ i, i < w.heap.size → ¬ S i → W.heap[i]? = w.heap[i]?
section
variable {w W W2 : World} {S S2 S' : Nat → Prop}
theorem cell_kept {a : Addr} {v : Value} (hc : W.cell? a = some v) (hk : Kept W W2 S) (hne : ¬ S a.block) : W2.cell? a = some v := by
  have := hk.2 a.block (World.block_lt_of_cell? W a hc) hne
  simpa [World.cell?, this] using hc
end
namespace Kd
section
variable {α : Type} {d : Kd α} {e base n c : Nat} {ok oki S S2 : Nat → Prop} {w w0 W W1 W2 : World} {v : Value} {A : Option Addr} {xs : List α} {i : Int} {cs : List Value}
end
end Kd
end Go.Proofs.YtjiokdkgbnakhaaDoorW.PrintWords
end TWKept
section TWShare
namespace Go.Proofs.YtjiokdkgbnakhaaDoorW.PrintWords
open Go.RowKit
def Foot (P : World → Prop) (W : World) (ok : Nat → Prop) : Prop := ∀ W' : World, (∀ k, ok k → k < W.heap.size → W'.heap[k]? = W.heap[k]?) → P W'
theorem heap_lt {W W1 : World} {k : Nat} (h : W1.heap[k]? = W.heap[k]?) (hlt : k < W.heap.size) : k < W1.heap.size := by
  rw [Array.getElem?_eq_getElem hlt] at h
  exact (Array.getElem?_eq_some_iff.1 h).1
namespace Foot
variable {P Q : World → Prop} {W W1 : World} {ok ok' : Nat → Prop}
theorem mono (h : Foot P W ok) (hok : ∀ k, ok k → ok' k) : Foot P W ok' := fun W' hW => h W' (fun k hk hlt => hW k (hok k hk) hlt)
theorem step (h : Foot P W ok) (hm : ∀ k, ok k → k < W.heap.size → W1.heap[k]? = W.heap[k]?) : Foot P W1 ok := fun W' hW => h W' (fun k hk hlt => (hW k hk (heap_lt (hm k hk hlt) hlt)).trans (hm k hk hlt))
end Foot
namespace Kd
def F {α : Type} (d : Kd α) (W : World) (ok : Nat → Prop) (A : Option Addr) (n : Nat) (xs : List α) : Prop := Foot (fun W => d.C W A n xs) W ok
def FK {α : Type} (d : Kd α) (W : World) (ok : Nat → Prop) (x : α) (c : List Value) : Prop := Foot (fun W => d.K W x c) W ok
section
variable {α β : Type} {d : Kd α} {e base n n' cc g N : Nat} {ok ok' okp S : Nat → Prop} {w w0 w1 W W1 : World} {A A' : Option Addr} {u v v1 : Value} {xs : List α} {xs' : List β} {d' : Kd β} {x : α} {c : List Value}
theorem F_nil (d : Kd α) (W : World) (ok : Nat → Prop) : F d W ok none ([] : List α).length [] := fun W' _ => C_nil d W'
theorem FK_of_M (h : d.M W base ok x c) : FK d W ok x c := fun _ hW => d.K_of_M (M_step h hW)
end
end Kd
end Go.Proofs.YtjiokdkgbnakhaaDoorW.PrintWords
end TWShare
section TWN
namespace Go.Proofs.YtjiokdkgbnakhaaDoorW.PrintWords
open Go.RowKit
namespace Kd
def chunks (sz : Nat) (n : Nat) (inner : List Value) : List (List Value) := (List.range n).map fun j => (inner.drop (j * sz)).take sz
theorem chunks_length (sz n : Nat) (inner : List Value) : (chunks sz n inner).length = n := by simp [chunks]
theorem chunks_at {sz n : Nat} {inner : List Value} {j : Nat} (hj : j < n) : (chunks sz n inner)[j]? = some ((inner.drop (j * sz)).take sz) := by simp [chunks, hj]
theorem chunks_get {sz n : Nat} {inner : List Value} {j : Nat} {c : List Value} (h : (chunks sz n inner)[j]? = some c) : c = (inner.drop (j * sz)).take sz := by
  have hj : j < n := by have := (List.getElem?_eq_some_iff.1 h).1; rwa [chunks_length] at this
  rw [chunks_at hj] at h
  injection h with h
  exact h.symm
theorem reps_raw {α : Type} {Rr : α → List Value → Prop} {sz : Nat} {xs : List α} {inner : List Value} (h : Reps Rr sz xs inner) (hR : ∀ x c, Rr x c → c.length = sz ∧ ∀ u ∈ c, u.oneCell' = true) : Reps (fun x cs => cs = x ∧ cs.length = sz ∧ ∀ u ∈ cs, u.oneCell' = true) sz (chunks sz xs.length inner) inner := by
  refine ⟨by rw [chunks_length]; exact h.1, fun j p hj => ?_⟩
  have hjl : j < xs.length := by have := (List.getElem?_eq_some_iff.1 hj).1; rwa [chunks_length] at this
  have hp := chunks_get hj
  exact ⟨hp.symm, hR _ _ (h.2 j _ (List.getElem?_eq_getElem hjl))⟩
section
variable {α : Type} {d : Kd α} {e base n cc g : Nat} {ok ok' okp S : Nat → Prop} {w w1 W W1 : World} {A : Option Addr} {u v v1 : Value} {xs : List α} {x : α} {c : List Value}
def N {α : Type} (d : Kd α) (e : Nat) (w : World) (base : Nat) (ok : Nat → Prop) (v : Value) (xs : List α) : Prop :=
  (∀ k, v.ownBlock = some k → ok k) ∧ ∃ rows : List (List Value), rows.length = xs.length ∧ (raw d.sz).R e w base (fun k => some k = v.ownBlock) v rows ∧ ∀ (j : Nat) (x : α) (c : List Value), xs[j]? = some x → rows[j]? = some c → FK d w (fun k => ok k ∧ some k ≠ v.ownBlock) x c
theorem R_N (h : d.R e w base ok v xs) : N d e w base ok v xs := by
  obtain ⟨h0, inner, ho, hr⟩ := h
  refine ⟨h0, chunks d.sz xs.length inner, chunks_length _ _ _, ⟨fun k hk => hk.symm, inner, by rw [chunks_length]; exact ho, reps_raw hr (fun x c hp => ⟨d.K_len (d.K_of_M hp), d.K_one (d.K_of_M hp)⟩)⟩, fun j x c hx hc => ?_⟩
  rw [chunks_get hc]
  exact FK_of_M (hr.2 j x hx)
theorem N_nil (d : Kd α) (e : Nat) (w : World) (base : Nat) (ok : Nat → Prop) : N d e w base ok (.slice none 0 0) [] := R_N (R_nil _ _ _ _ _)
end
end Kd
end Go.Proofs.YtjiokdkgbnakhaaDoorW.PrintWords
end TWN
section TWGuard
namespace Go.Proofs.YtjiokdkgbnakhaaDoorW.PrintWords
open Go.RowKit
section
variable {P : Program} {ops : Array Oper} {rest : List Oper} {o : Oper} {a : Act} {Q : Exit → Act → World → Prop} {W : World}
theorem gate_guard (hw : Region.wanted o (yielded ops a.tmps) = true) (h : wpList P ops Q ({ o with guard := none } :: rest) a W) : wpList P ops Q (o :: rest) a W := by
  have h1 : Region.wanted { o with guard := none } (yielded ops a.tmps) = true := rfl
  unfold wpList at h ⊢
  rw [if_pos h1] at h
  rw [if_pos hw]
  exact h
end
end Go.Proofs.YtjiokdkgbnakhaaDoorW.PrintWords
end TWGuard
section TWMore
namespace Go.Proofs.YtjiokdkgbnakhaaDoorW.PrintMore
open Go.RowKit Go.Proofs.YtjiokdkgbnakhaaDoorW.PrintWords
namespace Kd
open Go.Proofs.YtjiokdkgbnakhaaDoorW.PrintWords.Kd
end Kd
namespace Kd
open Go.Proofs.YtjiokdkgbnakhaaDoorW.PrintWords.Kd
section
variable {α : Type} {d : Kd α} {e base g N : Nat} {ok : Nat → Prop} {W w1 : World} {u v : Value} {xs : List α}
end
end Kd
theorem max2_int (k k' : IntKind) (x y : Int) : Builtin.max2 (.int k x) (.int k' y) = pure (.int k (if x < y then y else x)) := by simp only [Builtin.max2, gt_iff_lt]
theorem min2_int (k k' : IntKind) (x y : Int) : Builtin.min2 (.int k x) (.int k' y) = pure (.int k (if y < x then y else x)) := by simp only [Builtin.min2]
theorem max_two (ats : Array TypeId) (ty : TypeId) (a b : Value) : Builtin.max_ ats ty #[a, b] = (Builtin.max2 a b >>= fun s => pure s) := by simp only [Builtin.max_, List.foldlM_cons, List.foldlM_nil]
theorem min_two (ats : Array TypeId) (ty : TypeId) (a b : Value) : Builtin.min_ ats ty #[a, b] = (Builtin.min2 a b >>= fun s => pure s) := by simp only [Builtin.min_, List.foldlM_cons, List.foldlM_nil]
theorem max_three (ats : Array TypeId) (ty : TypeId) (a b c : Value) : Builtin.max_ ats ty #[a, b, c] = (Builtin.max2 a b >>= fun s => Builtin.max2 s c >>= fun s => pure s) := by simp only [Builtin.max_, List.foldlM_cons, List.foldlM_nil]
theorem min_three (ats : Array TypeId) (ty : TypeId) (a b c : Value) : Builtin.min_ ats ty #[a, b, c] = (Builtin.min2 a b >>= fun s => Builtin.min2 s c >>= fun s => pure s) := by simp only [Builtin.min_, List.foldlM_cons, List.foldlM_nil]
theorem max_four (ats : Array TypeId) (ty : TypeId) (a b c d : Value) : Builtin.max_ ats ty #[a, b, c, d] = (Builtin.max2 a b >>= fun s => Builtin.max2 s c >>= fun s => Builtin.max2 s d >>= fun s => pure s) := by simp only [Builtin.max_, List.foldlM_cons, List.foldlM_nil]
theorem min_four (ats : Array TypeId) (ty : TypeId) (a b c d : Value) : Builtin.min_ ats ty #[a, b, c, d] = (Builtin.min2 a b >>= fun s => Builtin.min2 s c >>= fun s => Builtin.min2 s d >>= fun s => pure s) := by simp only [Builtin.min_, List.foldlM_cons, List.foldlM_nil]
end Go.Proofs.YtjiokdkgbnakhaaDoorW.PrintMore
namespace Go.Proofs.YtjiokdkgbnakhaaDoorW.PrintWords
open Go.RowKit
section
variable {P : Program} {ops : Array Oper} {rest : List Oper} {o : Oper} {a : Act} {Q : Exit → Act → World → Prop} {W : World}
theorem gate_callee {f : FuncId} {as_ : Array Operand} {ts : Array TypeId} (_ho : o.op = .call { callee := .value (.func f), args := as_, argTypes := ts }) (h : wpList P ops Q (o :: rest) a W) : wpList P ops Q (o :: rest) a W := h
theorem gate_builtin {b : Builtin} {xs : Array Operand} {ts : Array TypeId} (_ho : o.op = .call { callee := .builtin b, args := xs, argTypes := ts }) (h : wpList P ops Q (o :: rest) a W) : wpList P ops Q (o :: rest) a W := h
end
namespace Kd
section
variable {α : Type} {d : Kd α} {e base : Nat} {ok : Nat → Prop} {W w1 : World} {v : Value} {xs : List α}
theorem R_grown1 (h : d.R e W base ok v xs) (hE : d.E = []) {row : Option Nat} (hg : W.grownBy w1 row) (hne : row ≠ v.ownBlock) : d.R e w1 base ok v xs :=
  R_mono (R_grown (R_tight hE h) hg (fun _ hk e_ => hne (e_.symm.trans hk))) (fun k hk => h.1 k hk.symm)
end
section
variable {α : Type} {d : Kd α} {e base g n cap : Nat} {ok oki okp : Nat → Prop} {W : World} {xs : List α} {i : Int} {c : List Value}
end
section
variable {α : Type} {d : Kd α} {e base b b' g N : Nat} {ok ok1 : Nat → Prop} {W W2 w1 : World} {u v : Value} {xs ys : List α} {S : Nat → Prop}
end
end Kd
end Go.Proofs.YtjiokdkgbnakhaaDoorW.PrintWords
namespace Go.Proofs.YtjiokdkgbnakhaaDoorW.PrintWords
open Go.RowKit
namespace Kd
def V {α : Type} (d : Kd α) (_e : Nat) (W : World) (_base : Nat) (ok : Nat → Prop) (v : Value) (xs : List α) : Prop := ∃ A c, v = .slice A xs.length c ∧ xs.length ≤ c ∧ F d W ok A xs.length xs
section
variable {α β : Type} {d : Kd α} {e base base' n m c g N' lo hi : Nat} {ok ok' S : Nat → Prop} {w W w1 : World} {A : Option Addr} {ad : Addr} {u v v1 : Value} {xs : List α}
theorem V_nil (d : Kd α) (e : Nat) (W : World) (base : Nat) (ok : Nat → Prop) : V d e W base ok (.slice none 0 0) [] := ⟨none, 0, rfl, Nat.le_refl _, F_nil d W ok⟩
end
end Kd
end Go.Proofs.YtjiokdkgbnakhaaDoorW.PrintWords
end TWMore
section TKx0
namespace Go.Proofs.YtjiokdkgbnakhaaDoor.Own
end Go.Proofs.YtjiokdkgbnakhaaDoor.Own
namespace Go.Proofs.YtjiokdkgbnakhaaDoor.K
open Go.RowKit Go.Proofs.YtjiokdkgbnakhaaDoorW.PrintWords Go.Proofs.YtjiokdkgbnakhaaDoorW.PrintLast Go.Proofs.YtjiokdkgbnakhaaDoorW.PrintMore Go.Proofs.YtjiokdkgbnakhaaDoor.Own
attribute [local go_sem] max2_int min2_int max_two min_two max_three min_three max_four min_four
set_option linter.unusedVariables false
set_option linter.unusedSimpArgs false
def errW : Option Int → Value
  | none => .nilIface
  | some c => .iface 0 (.int .i64 c)
theorem errW_none : errW none = .nilIface := rfl
theorem errW_some (c : Int) : errW (some c) = .iface 0 (.int .i64 c) := rfl
theorem info3 : (Tryd.prog.info? 3).map (fun i => (i.zero, i.size, i.bytes)) = some (some (.int .i64 0), 1, 8) := by kernel_rfl
theorem info5 : (Tryd.prog.info? 5).map (fun i => (i.zero, i.size, i.bytes)) = some (some (.int .u8 0), 1, 1) := by kernel_rfl
theorem info9 : (Tryd.prog.info? 9).map (fun i => (i.zero, i.size, i.bytes)) = some (some (.string ⟨#[]⟩), 1, 16) := by kernel_rfl
theorem info57 : (Tryd.prog.info? 57).map (fun i => (i.zero, i.size, i.bytes)) = some (some (.agg #[(.string ⟨#[]⟩), (.int .i64 0), (.int .i64 0), (.int .i64 0), (.int .i64 0), (.slice none 0 0)]), 6, 72) := by kernel_rfl
structure S57 where
  f0 : ByteArray
  f1 : Int
  f2 : Int
  f3 : Int
  f4 : Int
  f5 : (List Int)
def z57 : S57 := ⟨(⟨#[]⟩ : ByteArray), (0 : Int), (0 : Int), (0 : Int), (0 : Int), ([] : List Int)⟩
def k57 : Kd S57 := Kd.iso (Kd.pair Kd.string (Kd.pair (Kd.int .i64) (Kd.pair (Kd.int .i64) (Kd.pair (Kd.int .i64) (Kd.pair (Kd.int .i64) (Kd.slice 5 (Kd.int .u8))))))) (fun x : S57 => (x.f0, x.f1, x.f2, x.f3, x.f4, x.f5))
theorem k57_open {w : World} {x : S57} {cs : List Value} (h : k57.K w x cs) : ∃ A5 c5, cs = [.string x.f0, .int .i64 x.f1, .int .i64 x.f2, .int .i64 x.f3, .int .i64 x.f4, .slice A5 x.f5.length c5] ∧ x.f5.length ≤ c5 ∧ (Kd.int .u8).C w A5 x.f5.length x.f5 := by
  obtain ⟨_, _, rfl, rfl, ⟨_, _, rfl, rfl, ⟨_, _, rfl, rfl, ⟨_, _, rfl, rfl, ⟨_, _, rfl, rfl, ⟨A5, c5, rfl, l5, g5⟩⟩⟩⟩⟩⟩ := h
  exact ⟨A5, c5, rfl, l5, g5⟩
theorem k57_openM {w : World} {base : Nat} {ok : Nat → Prop} {x : S57} {cs : List Value} (h : k57.M w base ok x cs) : ∃ v5, cs = [.string x.f0, .int .i64 x.f1, .int .i64 x.f2, .int .i64 x.f3, .int .i64 x.f4, v5] ∧ (Kd.int .u8).R 5 w base ok v5 x.f5 := by
  obtain ⟨_, _, rfl, rfl, ⟨_, _, rfl, rfl, ⟨_, _, rfl, rfl, ⟨_, _, rfl, rfl, ⟨_, _, rfl, rfl, ⟨v5, rfl, g5⟩⟩⟩⟩⟩⟩ := h
  exact ⟨v5, rfl, g5⟩
theorem k57_mkM (w : World) (base : Nat) (ok : Nat → Prop) (x : S57) {v5 : Value} (g5 : (Kd.int .u8).R 5 w base ok v5 x.f5) : k57.M w base ok x [.string x.f0, .int .i64 x.f1, .int .i64 x.f2, .int .i64 x.f3, .int .i64 x.f4, v5] := ⟨[.string x.f0], [.int .i64 x.f1, .int .i64 x.f2, .int .i64 x.f3, .int .i64 x.f4, v5], rfl, rfl, ⟨[.int .i64 x.f1], [.int .i64 x.f2, .int .i64 x.f3, .int .i64 x.f4, v5], rfl, rfl, ⟨[.int .i64 x.f2], [.int .i64 x.f3, .int .i64 x.f4, v5], rfl, rfl, ⟨[.int .i64 x.f3], [.int .i64 x.f4, v5], rfl, rfl, ⟨[.int .i64 x.f4], [v5], rfl, rfl, ⟨v5, rfl, g5⟩⟩⟩⟩⟩⟩
def rd_T57 (xs : List S57) (i : Int) : S57 := xs.getD i.toNat z57
theorem at_T57 {w : World} {A : Option Addr} {n : Nat} {xs : List S57} (h : Kd.C k57 w A n xs) (i : Int) (h0 : 0 ≤ i) (h1 : i < n) : ∃ ad A5 c5, A = some ad ∧ w.cell? (ad.add (i.toNat * 6)) = some (.string (rd_T57 xs i).f0) ∧ w.cell? ⟨(ad.add (i.toNat * 6)).block, (ad.add (i.toNat * 6)).off + 1, none⟩ = some (.int .i64 (rd_T57 xs i).f1) ∧ w.cell? ⟨(ad.add (i.toNat * 6)).block, (ad.add (i.toNat * 6)).off + 2, none⟩ = some (.int .i64 (rd_T57 xs i).f2) ∧ w.cell? ⟨(ad.add (i.toNat * 6)).block, (ad.add (i.toNat * 6)).off + 3, none⟩ = some (.int .i64 (rd_T57 xs i).f3) ∧ w.cell? ⟨(ad.add (i.toNat * 6)).block, (ad.add (i.toNat * 6)).off + 4, none⟩ = some (.int .i64 (rd_T57 xs i).f4) ∧ w.cell? ⟨(ad.add (i.toNat * 6)).block, (ad.add (i.toNat * 6)).off + 5, none⟩ = some (.slice A5 (rd_T57 xs i).f5.length c5) ∧ (rd_T57 xs i).f5.length ≤ c5 ∧ (Kd.int .u8).C w A5 (rd_T57 xs i).f5.length (rd_T57 xs i).f5 := by
  obtain ⟨ad, c, e, _, hK, hc0⟩ := Kd.C_get h z57 i h0 h1
  have hc : ∀ j u, c[j]? = some u → w.cell? (ad.add (i.toNat * 6 + j)) = some u := hc0
  obtain ⟨A5, c5, rfl, l5, g5⟩ := k57_open hK
  exact ⟨ad, A5, c5, e, hc 0 _ rfl, by rw [← add_field _ _ 1 (by omega)]; exact hc 1 _ rfl, by rw [← add_field _ _ 2 (by omega)]; exact hc 2 _ rfl, by rw [← add_field _ _ 3 (by omega)]; exact hc 3 _ rfl, by rw [← add_field _ _ 4 (by omega)]; exact hc 4 _ rfl, by rw [← add_field _ _ 5 (by omega)]; exact hc 5 _ rfl, l5, g5⟩
structure S48 where
  f0 : Bool
  f1 : (List Int)
  f2 : (List S57)
  f3 : (List Int)
structure S59 where
  f0 : ByteArray
  f1 : Int
  f2 : Int
  f3 : Int
  f4 : Int
  f5 : Int
structure S84 where
  f0 : ByteArray
  f1 : Int
  f2 : Int
  f3 : Int
  f4 : Int
  f5 : Int
end Go.Proofs.YtjiokdkgbnakhaaDoor.K
end TKx0
section TLines
set_option linter.unusedVariables false
set_option linter.unusedSimpArgs false
namespace Go.Proofs.YtjiokdkgbnakhaaDoor.Own
open Go.RowKit Go.Shelf Go.Proofs.YtjiokdkgbnakhaaDoor Go.Proofs.YtjiokdkgbnakhaaDoorW.PrintWords Go.Proofs.YtjiokdkgbnakhaaDoorW.PrintLast Go.Proofs.YtjiokdkgbnakhaaDoorW.PrintMore
attribute [local go_sem] Oper.semAt_some
def nextSep (l : List Int) : Int := Lib.index (Lib.bytesOf l) [47, 10]
def linesF : Nat → List Int → Nat → List (Nat × ByteArray)
  | 0, _, _ => []
  | k + 1, l, at_ => if at_ < l.length then
      (if nextSep (l.drop at_) < 0 then [(at_, strOfNums (l.drop at_) ++ ⟨#[47]⟩)]
      else (at_, strOfNums ((l.drop at_).take (nextSep (l.drop at_)).toNat)) :: linesF k l (at_ + (nextSep (l.drop at_)).toNat + 2))
    else []
def linesOf (l : List Int) : List (Nat × ByteArray) := linesF (l.length + 1) l 0
theorem linesF_end (k : Nat) (l : List Int) (a : Nat) (h : ¬ a < l.length) : linesF k l a = [] := by cases k <;> simp [linesF, h]
theorem linesF_last (k : Nat) (l : List Int) (a : Nat) (h : a < l.length) (hn : nextSep (l.drop a) < 0) : linesF (k + 1) l a = [(a, strOfNums (l.drop a) ++ ⟨#[47]⟩)] := by simp [linesF, h, hn]
theorem linesF_more (k : Nat) (l : List Int) (a n : Nat) (h : a < l.length) (hn : nextSep (l.drop a) = n) :
    linesF (k + 1) l a = (a, strOfNums ((l.drop a).take n)) :: linesF k l (a + n + 2) := by
  have h0 : ¬ (n : Int) < 0 := by omega
  simp only [linesF, h, if_true, hn, h0, if_false, Int.toNat_natCast]
def KpT (n₀ Bs tb : Nat) (T : Value) (W W' : World) : Prop := Below n₀ W W' ∧ (W.heap[Bs]? = some (.cells #[T] tb (0, 0)) → W'.heap[Bs]? = some (.cells #[T] tb (0, 0)))
theorem KpT_t {n₀ Bs tb : Nat} {T : Value} {A B C : World} (h : KpT n₀ Bs tb T A B) (k : KpT n₀ Bs tb T B C) : KpT n₀ Bs tb T A C := ⟨h.1.trans k.1, fun e => k.2 (h.2 e)⟩
theorem KpT_b {n₀ Bs tb : Nat} {T : Value} {w : World} (hn : n₀ ≤ w.heap.size) (W : World) (l : Nat) (o o' : Obj) (hl : w.heap.size ≤ l) (h : W.heap[l]? = some o) (hc : o.isCells = false) (hw : o.isWalk = false) : KpT n₀ Bs tb T W (W.putObj l o') :=
  ⟨belowK_b hn W l o o' hl h hc hw, fun e => by
    have hne : Bs ≠ l := by
      rintro rfl
      rw [e] at h
      cases h
      cases hc
    rw [World.putObj_heap_other hne]
    exact e⟩
theorem KpT_refl (n₀ Bs tb : Nat) (T : Value) (W : World) : KpT n₀ Bs tb T W W := ⟨Below.refl _ _, fun e => e⟩
theorem KpT_alloc {n₀ Bs tb : Nat} {T : Value} {W W' : World} (h : KpT n₀ Bs tb T W W') (hn : n₀ ≤ W'.heap.size) (o : Obj) : KpT n₀ Bs tb T W (W'.alloc o) :=
  ⟨h.1.alloc hn o, fun e => by
    have h1 := h.2 e
    rw [Below.heap_alloc _ _ _ (Array.getElem?_eq_some_iff.1 h1).1]
    exact h1⟩
theorem KpT_drewN {n₀ Bs tb : Nat} {T : Value} {W W' : World} (h : KpT n₀ Bs tb T W W') (q : Nat) : KpT n₀ Bs tb T W (W'.drewN q) :=
  ⟨h.1.trans ⟨rfl, rfl, rfl, Nat.le_refl _, fun _ _ => rfl⟩, h.2⟩
theorem grownBy_drewN (W : World) (q : Nat) : W.grownBy (W.drewN q) none := ⟨rfl, rfl, rfl, Nat.le_refl _, fun _ _ _ => rfl⟩
theorem below_drewN' (B : Nat) (W : World) (q : Nat) : Below B W (W.drewN q) := ⟨rfl, rfl, rfl, Nat.le_refl _, fun _ _ => rfl⟩
theorem index_lt {l sub : List UInt8} {n : Nat} (h : Lib.index l sub = n) : n + sub.length ≤ l.length := by
  have h0 := Lib.index_room l sub (by omega)
  omega
theorem cell_add_row {w : World} {b t : Nat} {cs : Array Value} {fr : Nat × Nat} (h : w.heap[b]? = some (.cells cs t fr)) (i : Nat) : w.cell? ((⟨b, 0, none⟩ : Addr).add i) = cs[i]? := by
  have e : (⟨b, 0, none⟩ : Addr).add i = ⟨b, i, none⟩ := by
    unfold Addr.add
    by_cases h0 : i = 0
    · subst h0; rfl
    · simp [h0]
  rw [e]
  exact cell_of_row w b i _ _ _ h
theorem cut_read (A : Option Addr) (xs : List Int) (c i n : Nat) (hi : i + n ≤ xs.length) (hlt : i < xs.length) (hc : xs.length ≤ c) (w : World) (hR : (Kd.int .u8).C w A xs.length xs) :
    ReadsInt w .u8 (A.map (fun x => x.add i)) n ((xs.drop i).take n) := by
  have hd := Kd.C_drop (m := i) hR (by omega) hc
  rw [if_neg (by omega)] at hd
  have e1 : (Kd.int .u8).sz = 1 := rfl
  simp only [e1, Nat.mul_one] at hd
  have ht := Kd.C_take (m := n) hd (by simp; omega)
  have := Kd.reads_of_C (enc := Value.int .u8) (d := (0 : Int)) (h1 := fun _ => rfl) ht
  have hl : ((xs.drop i).take n).length = n := by simp; omega
  rw [hl] at this
  exact this
theorem size_strOfNums (xs : List Int) : (strOfNums xs).size = xs.length := by
  rw [Lib.size_eq, ← Lib.toList_data, Lib.strOfNums_toList]
  simp [Lib.bytesOf]
set_option maxRecDepth 100000 in
set_option maxHeartbeats 4000000 in
theorem lines1_in (l Bs n₀ : Nat) (A : Option Addr) (c : Nat) (xs : List Int) (hlen : xs.length ≤ c) (hx4 : xs.length < 4294967281) (hby : ∀ x ∈ xs, 0 ≤ x ∧ x < 256) (J Jx : List (Nat × ByteArray) → World → Prop)
    (hJ : ∀ pre W W', J pre W → W.grownBy W' none → J pre W')
    (hY : ∀ pre x W, J pre W → pre.length < (linesOf xs).length → YieldAt Fence.wide 2 Tryd.prog l #[.int .i64 (x.1 : Int), .string x.2] W fun e W' =>
      (e = .returned (.bool true) ∧ J (pre ++ [x]) W' ∧ KpT n₀ Bs 22 (.slice A xs.length c) W W') ∨ (e = .returned (.bool false) ∧ Jx (pre ++ [x]) W'))
    (W : World) (hn₀ : n₀ ≤ W.heap.size) (hBs : W.heap[Bs]? = some (.cells #[.slice A xs.length c] 22 (0, 0)))
    (hC : ∀ W', Below n₀ W W' → (Kd.int .u8).C W' A xs.length xs) (hM : ∀ W', Below n₀ W W' → Gmaxlen W') (h0 : J [] W) :
    CallsIn Fence.wide 3 Tryd.prog 56 #[.func (.yield l) #[] #[], .pointer (some ⟨Bs, 0, none⟩)] W fun e W' => (∃ v, e = .returned v) ∧
      ((∃ ys, ys = linesOf xs ∧ J ys W') ∨ (∃ pre, pre <+: linesOf xs ∧ Jx pre W')) := by
  obtain ⟨i0, hi, hz0, hz1, hz2⟩ := info_parts K.info5
  have HY := Lib.hid hY
  have HJ := Lib.hid hJ
  have HC := Lib.hid hC
  have HM := Lib.hid hM
  clear hY hJ hC hM
  refine callsIn_of_wp Tryd.func56 rfl trivial ?_ rfl
  simp only [Tryd.ntmps56, List.size_toArray, List.length_cons, List.length_nil, Nat.reduceAdd, Nat.reduceSub, Array.replicate_succ, Array.replicate_zero, List.push_toArray, List.append_toArray, List.nil_append, List.cons_append]
  gi_wp2
  gi_loopw [3] (fun i wr => ∃ (pre : List (Nat × ByteArray)) (k a : Nat), i = .int .i64 (a : Int) ∧ Hid (linesOf xs = pre ++ linesF k xs a) ∧ xs.length < a + k ∧ a ≤ xs.length ∧ J pre wr ∧ KpT n₀ Bs 22 (.slice A xs.length c) W wr ∧ n₀ ≤ wr.heap.size)
    (fun i _ => xs.length - (intOf i).toNat)
  case atStart => exact ⟨[], xs.length + 1, 0, rfl, rfl, by omega, by omega, h0, KpT_refl _ _ _ _ _, hn₀⟩
  case round =>
    obtain ⟨pre, k, a, rfl, HL, hk, hak, hJs, hKp, hnr⟩ := hrel
    have hbx := hKp.2 hBs
    have hcell : wr.cell? ⟨Bs, 0, none⟩ = some (.slice A xs.length c) := cell_of_row wr Bs 0 _ _ _ hbx
    by_cases hlt : a < xs.length
    · obtain ⟨k, rfl⟩ : ∃ m, k = m + 1 := ⟨k - 1, by omega⟩
      obtain ⟨A', hcut, hA'⟩ := print_cut 22 5 .i64 Tryd.underlying22 hi hz1 A xs.length c a hak
      have hR := hA' wr .u8 xs hlen (Kd.reads_of_C (enc := Value.int .u8) (d := (0 : Int)) (h1 := fun _ => rfl) (HC.out wr hKp.1))
      obtain ⟨ad, rfl, hrd⟩ := hR.2.2 (by omega)
      clear hA'
      have HP := Lib.hid hKp
      have HR := Lib.hid hR
      have HX := Lib.hid hbx
      have hidx : Calls Tryd.prog 57 #[.slice (some ad) (xs.length - a) (c - a), .slice (some ⟨wr.heap.size, 0, none⟩) 2 2] (wr.alloc (.cells #[.int .u8 47, .int .u8 10] 5 (2, 3))) fun e w' => e = .returned (.int .i64 (nextSep (xs.drop a))) ∧ ∃ q, w' = (wr.alloc (.cells #[.int .u8 47, .int .u8 10] 5 (2, 3))).drewN q := by
        obtain ⟨m, hm⟩ := (HM.out wr HP.out.1).below (w' := wr.alloc (.cells #[.int .u8 47, .int .u8 10] 5 (2, 3))) ((Below.refl _ _).alloc (Nat.le_refl _) _)
        refine Tryd.bytes_Index_at ad ⟨wr.heap.size, 0, none⟩ _ _ _ _ (xs.drop a) [47, 10] m _ (by simp) rfl (fun x hx => hby x (List.mem_of_mem_drop hx)) (by decide) ?_ ?_ (by omega) (by omega) (by omega) hm
        · intro i hi
          obtain ⟨ad', e1, h2⟩ := HR.out.2.2 (by omega)
          cases e1
          have h3 := h2 i hi
          exact (((Below.refl wr.heap.size wr).alloc (Nat.le_refl _) _).cell (p := ad.add i) (lt_of_cell h3)).trans h3
        · intro i hi
          have hx := World.alloc_heap_new wr (.cells #[.int .u8 47, .int .u8 10] 5 (2, 3))
          rw [cell_add_row hx]
          rcases (by omega : i = 0 ∨ i = 1) with rfl | rfl <;> rfl
      obtain ⟨z, hz⟩ : ∃ z, nextSep (xs.drop a) = z := ⟨_, rfl⟩
      rw [hz] at hidx
      have HZ := Lib.hid hz
      have hidx2 : Calls Tryd.prog 57 #[.slice (some ad) (xs.length - a) (c - a), .slice (some ⟨wr.heap.size, 0, none⟩) 2 2] (wr.alloc (.cells #[.int .u8 47, .int .u8 10] 5 (2, 3))) fun e w' => e = .returned (.int .i64 z) ∧ w'.cell? ⟨Bs, 0, none⟩ = some (.slice A xs.length c) ∧
          Hid (J pre w' ∧ KpT n₀ Bs 22 (.slice A xs.length c) W w' ∧ n₀ ≤ w'.heap.size ∧ ReadsInt w' .u8 (some ad) (xs.length - a) (xs.drop a)) := by
        refine hidx.mono ?_
        rintro e w' ⟨he, q, rfl⟩
        have k2 := KpT_drewN (KpT_alloc HP.out hnr (.cells #[.int .u8 47, .int .u8 10] 5 (2, 3))) q
        refine ⟨he, cell_of_row _ Bs 0 _ _ _ (k2.2 hBs), HJ.out _ _ _ (HJ.out _ _ _ hJs (World.grownBy_alloc _ _ _)) (grownBy_drewN _ _), k2, by simp; omega, ?_⟩
        exact ReadsInt.below HR.out ((Below.refl _ _).alloc (Nat.le_refl _) _ |>.trans (below_drewN' _ _ _))
      have HI := Lib.hid hidx2
      have hpl : pre.length < (linesOf xs).length := by
        rw [HL.out, List.length_append]
        have : 0 < (linesF (k + 1) xs a).length := by
          simp only [linesF, hlt, if_true]
          split <;> simp
        omega
      clear hKp hR hbx hrd hidx hidx2 hby hz hJs
      have kc := fun (w : World) (C : Array Value) (n c : Nat) => Lib.run_convert_bytes_const (P := Tryd.prog) w 22 5 C n c Tryd.underlying22 Tryd.underlying5
      by_cases hneg : z < 0
      · have hss : (strOfNums (xs.drop a)).size + 1 ≤ 9223372036854775807 := by rw [size_strOfNums, List.length_drop]; omega
        gi_wp2_with (refine ⟨trivial, ?_⟩; gi_at_call 57; refine (callsIn_wide.2 HI.out).mono ?_; rintro e w2 ⟨rfl, hc2, HQ⟩; have hstr := string_of_reads (P := Tryd.prog) (src := 22) (dst := 9) (c := c - a) Tryd.underlying22 Tryd.underlying5 Tryd.underlying9 HQ.out.2.2.2; obtain ⟨fn, tmps, assign, body, hy, hR⟩ := HY.out pre (a, strOfNums (xs.drop a) ++ ⟨#[47]⟩) w2 HQ.out.1 hpl; dsimp only at hy; have HRd := Lib.hid hR; clear hR)
        have hall : linesOf xs = pre ++ [(a, strOfNums (xs.drop a) ++ ⟨#[47]⟩)] := by rw [HL.out, linesF_last k xs a hlt (by rw [HZ.out]; exact hneg)]
        have HA := Lib.hid hall
        clear hall
        refine HRd.out.mono ?_
        rintro e W3 (⟨rfl, hJ3, hk3⟩ | ⟨rfl, hJx3⟩)
        · gi_wp2
          refine bodyPost_ret (results_none rfl _ _ _) rfl ?_
          exact ⟨⟨_, rfl⟩, .inl ⟨_, rfl, by rw [HA.out]; exact hJ3⟩⟩
        · gi_wp2
          refine bodyPost_ret (results_none rfl _ _ _) rfl ?_
          exact ⟨⟨_, rfl⟩, .inr ⟨_, ⟨[], by rw [List.append_nil]; exact HA.out.symm⟩, hJx3⟩⟩
      · obtain ⟨n, rfl⟩ := Int.eq_ofNat_of_zero_le (Int.not_lt.1 hneg)
        have hn2 : n + 2 ≤ xs.length - a := by
          have := index_lt (sub := [47, 10]) HZ.out
          simpa [Lib.bytesOf] using this
        gi_wp2_with (refine ⟨trivial, ?_⟩; gi_at_call 57; refine (callsIn_wide.2 HI.out).mono ?_; rintro e w2 ⟨rfl, hc2, HQ⟩; have hstr := string_of_reads (P := Tryd.prog) (src := 22) (dst := 9) (c := c - a) Tryd.underlying22 Tryd.underlying5 Tryd.underlying9 (cut_read A xs c a n (by omega) hlt hlen w2 (HC.out w2 HQ.out.2.1.1)); obtain ⟨fn, tmps, assign, body, hy, hR⟩ := HY.out pre (a, strOfNums ((xs.drop a).take n)) w2 HQ.out.1 hpl; dsimp only at hy; have HRd := Lib.hid hR; clear hR)
        have hall : linesOf xs = pre ++ (a, strOfNums ((xs.drop a).take n)) :: linesF k xs (a + n + 2) := by rw [HL.out, linesF_more k xs a n hlt HZ.out]
        have HA := Lib.hid hall
        clear hall
        refine HRd.out.mono ?_
        rintro e W3 (⟨rfl, hJ3, hk3⟩ | ⟨rfl, hJx3⟩)
        · gi_wp2
          go_roundw
          case rel => exact ⟨pre ++ [(a, strOfNums ((xs.drop a).take n))], k, a + n + 2, by go_num, by rw [List.append_assoc]; exact HA.out, by omega, by omega, hJ3, KpT_t HQ.out.2.1 hk3, Nat.le_trans HQ.out.2.2.1 hk3.1.size⟩
          case measure => simp [intOf]; omega
        · gi_wp2
          refine bodyPost_ret (results_none rfl _ _ _) rfl ?_
          exact ⟨⟨_, rfl⟩, .inr ⟨_, ⟨linesF k xs (a + n + 2), by rw [List.append_assoc]; exact HA.out.symm⟩, hJx3⟩⟩
    · obtain rfl : a = xs.length := by omega
      gi_wp2
      go_end0
      exact ⟨⟨_, rfl⟩, .inl ⟨pre, by rw [HL.out, linesF_end k xs _ (by omega), List.append_nil], hJs⟩⟩
end Go.Proofs.YtjiokdkgbnakhaaDoor.Own
end TLines
section TAny
set_option linter.unusedVariables false
set_option linter.unusedSimpArgs false
namespace Go.Proofs.YtjiokdkgbnakhaaDoor.Own
open Go.RowKit
def AsciiL (l : List UInt8) : Prop := ∀ (j : Nat) b, l[j]? = some b → b.toNat < 128
theorem below_drewN (w : World) (n : Nat) : Below w.heap.size w (w.drewN n) := by
  induction n with
  | zero => exact Below.refl _ _
  | succ n ih => rw [← World.drew_drewN]; exact ih.drew
theorem indexByte_high (l : List UInt8) (h : AsciiL l) (c : UInt8) (hc : 128 ≤ c.toNat) : Lib.indexByte l c = -1 := by
  have hge := Lib.indexByte_ge l c
  rcases Int.lt_or_le (Lib.indexByte l c) 0 with h0 | h0
  · omega
  · obtain ⟨o, ho⟩ := Int.eq_ofNat_of_zero_le h0
    have := (Lib.indexByte_some (l := l) (c := c) (o := o) ho).1
    have := h _ _ this
    omega
set_option maxRecDepth 100000 in
set_option maxHeartbeats 2000000 in
theorem IndexRune_err (s : ByteArray) (w : World) (hs : AsciiL s.data.toList) :
    Calls Tryd.prog 81 #[.string s, .int .i32 65533] w fun e w' => e = .returned (.int .i64 (-1)) ∧ Below w.heap.size w w' := by
  have HA : Hid (AsciiL s.data.toList) := Lib.hid hs
  clear hs
  go_enter Tryd.func81, Tryd.ntmps81
  go_wp2
  go_loopg [5, 6] s.size (fun g _ _ wx => ∃ i : Nat, i + g = s.size ∧ wx = w.iter s i)
  case atStart => exact ⟨0, by omega, rfl⟩
  case round =>
    obtain ⟨i, hig, rfl⟩ := hrel
    cases gk with
    | zero =>
      obtain rfl : i = s.size := by omega
      have hnx := run_next_end (P := Tryd.prog) w s s.size
      go_wp2
      go_ret
      exact ⟨rfl, (Below.refl _ _).alloc (Nat.le_refl _) _⟩
    | succ g =>
      have hi : i < s.size := by omega
      obtain ⟨x, hx⟩ : ∃ x : UInt8, s[i]'hi = x := ⟨_, rfl⟩
      have hxl : s.data.toList[i]? = some x := by rw [← hx]; exact Lib.data_getElem? s i hi
      have hx128 : x.toNat < 128 := HA.out i x hxl
      have hnx := fun ty => run_next_ascii (P := Tryd.prog) w s i ty hi (by rw [hx]; exact hx128)
      rw [hx] at hnx
      clear hx hxl
      have hne : ((x.toNat : Int) == 65533) = false := beq_eq_false_iff_ne.2 (by omega)
      go_wp2
      go_roundg g
      case measure => omega
      case rel => exact ⟨i + 1, by omega, rfl⟩
set_option maxRecDepth 100000 in
set_option maxHeartbeats 2000000 in
theorem IndexRune_bad (s : ByteArray) (r : Int) (w : World) (h1 : 128 ≤ r) (h2 : r ≤ 2147483647) (hne : r ≠ 65533) (hv : Lib.validRune r = false) :
    Calls Tryd.prog 81 #[.string s, .int .i32 r] w fun e w' => e = .returned (.int .i64 (-1)) ∧ w' = w := by
  have hq : (r == 65533) = false := beq_eq_false_iff_ne.2 hne
  clear hne
  go_enter Tryd.func81, Tryd.ntmps81
  go_wp2_with (go_at_call 98; refine (Tryd.utf8_ValidRune _ _).mono ?_; rintro e w' ⟨rfl, rfl⟩)
  go_ret
  exact ⟨rfl, rfl⟩
set_option maxRecDepth 100000 in
set_option maxHeartbeats 4000000 in
theorem IndexRune_high (s : ByteArray) (r : Int) (w : World) (h1 : 128 ≤ r) (h2 : r ≤ 2147483647) (hA : AsciiL s.data.toList) (hne : r ≠ 65533) (hv : Lib.validRune r = true) :
    Calls Tryd.prog 81 #[.string s, .int .i32 r] w fun e w' => e = .returned (.int .i64 (-1)) ∧ Below w.heap.size w w' := by
  have hq : (r == 65533) = false := beq_eq_false_iff_ne.2 hne
  clear hne
  obtain ⟨r1, r2, r3⟩ := encode_facts r ((validRune_eq r).trans hv) h1
  obtain ⟨rs, hrs⟩ : ∃ rs, Utf8.encode r = rs := ⟨_, rfl⟩
  rw [hrs] at r1 r2 r3
  obtain ⟨n, hn⟩ : ∃ n, rs.size = n := ⟨_, rfl⟩
  have r4 : 128 ≤ (rs[rs.size - 1]'(by omega)).toNat := r3 (by omega)
  obtain ⟨c, hc⟩ : ∃ c, rs[rs.size - 1]'(by omega) = c := ⟨_, rfl⟩
  rw [hc] at r4
  clear r3
  have HA := Lib.hid hA
  clear hA
  go_enter Tryd.func81, Tryd.ntmps81
  go_wp2_with (go_at_call 98; refine (Tryd.utf8_ValidRune _ _).mono ?_; rintro e w' ⟨rfl, rfl⟩)
  refine wp_scope_straight ?_
  go_wp2
  go_loopg [9] 0 (fun _ v9 wx => v9 = .int .i64 ((n : Int) - 1) ∧ wx = w')
  case atStart => exact ⟨rfl, rfl⟩
  case round =>
    obtain ⟨rfl, rfl⟩ := hrel
    have hn1 : 2 ≤ n := by omega
    have hn4 : n ≤ 4 := by omega
    by_cases hlt : (n : Int) - 1 < (s.size : Int)
    · obtain ⟨x, hx⟩ : ∃ x : UInt8, s[n - 1]'(by omega) = x := ⟨_, rfl⟩
      have hx128 : x.toNat < 128 := HA.out (n - 1) x (by rw [← hx]; exact Lib.data_getElem? s (n - 1) (by omega))
      have ht : ((n : Int) - 1).toNat = n - 1 := by omega
      have hni : (((x.toNat : Int)) != (c.toNat : Int)) = true := bne_iff_ne.2 (by omega)
      have hxy : (((x.toNat : Int)) == (c.toNat : Int)) = false := beq_eq_false_iff_ne.2 (by omega)
      have hsz : 0 ≤ (n : Int) - 1 := by omega
      have hi1 : ∀ W, (Instr.index 9 (.string s) (.int .i64 ((n : Int) - 1))).run Tryd.prog W = .ok (.int .u8 x.toNat) W := fun W => by
        rw [run_index_string W _ _ _ _ Tryd.underlying9, dif_pos ⟨hsz, hlt⟩]
        subst hx
        simp only [ht]
      have hi2 : ∀ W, (Instr.index 9 (.string rs) (.int .i64 ((n : Int) - 1))).run Tryd.prog W = .ok (.int .u8 c.toNat) W := fun W => by
        rw [run_index_string W _ _ _ _ Tryd.underlying9, dif_pos ⟨hsz, by omega⟩]
        subst hc hn
        simp only [ht]
      have hsl : ∀ W, (Instr.slice 9 (.string s) (some (.int .i64 (n : Int))) none none).run Tryd.prog W = .ok (.string (s.extract n s.size)) W := fun W => by
        rw [run_slice_string_from_if _ _ _ _ _ Tryd.underlying9, if_pos ⟨by omega, by omega⟩]
        simp only [Int.toNat_natCast]
      have hws : IntKind.i64.wrap (n : Int) = (n : Int) := IntWalk.i64_in _ (by omega)
      have hib : ∀ W, Calls Tryd.prog 97 #[.string (s.extract n s.size), .int .u8 c.toNat] W fun e w' => e = .returned (.int .i64 (-1)) ∧ w' = W := fun W => by
        refine (Tryd.strings_IndexByte _ _ _).mono ?_
        rintro e w' ⟨rfl, rfl⟩
        refine ⟨?_, rfl⟩
        rw [indexByte_high]
        · intro j b hj
          exact HA.out (n + j) b (by rw [Lib.extract_data] at hj; rw [List.getElem?_take, List.getElem?_drop] at hj; split at hj; exact hj; cases hj)
        · simpa using r4
      have HIB := Lib.hid hib
      clear hib hx hc
      go_wp2
      refine wp_scope_straight ?_
      go_wp2
      go_quiet (fail)
      go_wp2
      generalize hW1 : wr.drewN nq = W1
      have HW1 := Lib.hid hW1
      clear hW1
      go_quiet ((go_at_call 97; exact Calls.quiet_of_same (HIB.out _)))
      go_wp2
      simp only [Exit.noGoto_ret, Exit.inBlock, Exit.then]
      go_ret
      exact ⟨rfl, by rw [← HW1.out, World.drewN_drewN]; exact below_drewN _ _⟩
    · go_wp2
      go_ret
      exact ⟨rfl, Below.refl _ _⟩
end Go.Proofs.YtjiokdkgbnakhaaDoor.Own
end TAny
section TAnyB
set_option linter.unusedVariables false
set_option linter.unusedSimpArgs false
namespace Go.Proofs.YtjiokdkgbnakhaaDoor.Own
open Go.RowKit
theorem get_pos (s : ByteArray) (i : Nat) (h : i < s.size) : s.get! i = s[i]'h := by
  simp [ByteArray.get!, getElem!_pos, h]
  rfl
theorem decode_span (s : ByteArray) (pos : Nat) (h : pos < s.size) (ha : 128 ≤ (s[pos]'h).toNat) :
    ∀ j, pos ≤ j → j < pos + (Utf8.decode s pos).2 → ∃ hj : j < s.size, 128 ≤ (s[j]'hj).toNat := by
  intro j h1 h2
  by_cases e0 : j = pos
  · subst e0; exact ⟨h, ha⟩
  have hw : ∀ k, j = pos + k → decide (pos + k < s.size) = true ∧ ((s.get! (pos + k)).toNat / 64 == 2) = true → ∃ hj : j < s.size, 128 ≤ (s[j]'hj).toNat := by
    intro k hk hc
    subst hk
    simp only [decide_eq_true_eq, beq_iff_eq] at hc
    refine ⟨hc.1, ?_⟩
    rw [← get_pos s (pos + k) hc.1]
    omega
  have hn : ¬ (s.get! (pos + 0)).toNat < 128 := by rw [Nat.add_zero, get_pos s pos h]; omega
  simp only [Utf8.decode, hn, if_false] at h2
  split at h2
  · rename_i hc
    simp only [Bool.and_eq_true] at hc
    split at h2
    · exact hw 1 (by simp at h2; omega) hc.2
    · simp at h2; omega
  · split at h2
    · rename_i hc
      simp only [Bool.and_eq_true] at hc
      split at h2
      · simp at h2
        rcases (by omega : j = pos + 1 ∨ j = pos + 2) with e | e
        · exact hw 1 e hc.1.2
        · exact hw 2 e hc.2
      · simp at h2; omega
    · split at h2
      · rename_i hc
        simp only [Bool.and_eq_true] at hc
        split at h2
        · simp at h2
          rcases (by omega : j = pos + 1 ∨ j = pos + 2 ∨ j = pos + 3) with e | e | e
          · exact hw 1 e hc.1.1.2
          · exact hw 2 e hc.1.2
          · exact hw 3 e hc.2
        · simp at h2; omega
      · simp at h2; omega
theorem noAny_span {s chars : List UInt8} {i n : Nat} (h : Lib.NoAny s chars i) (hc : AsciiL chars) (hh : ∀ j b, i ≤ j → j < i + n → s[j]? = some b → 128 ≤ b.toNat) : Lib.NoAny s chars (i + n) := by
  intro j b hj hb
  by_cases e : j < i
  · exact h j b e hb
  · have := hh j b (by omega) hj hb
    cases hx : chars.contains b with
    | false => rfl
    | true =>
      rw [List.contains_iff_mem] at hx
      obtain ⟨q, hq⟩ := List.getElem?_of_mem hx
      have := hc q b hq
      omega
section
variable {P : Program} (W : World) (b : Nat) (s : ByteArray) (pos : Nat) (ty : TypeId)
theorem run_next_in (hW : W.heap[b]? = some (.stringIter s pos)) (h : pos < s.size) :
    (Instr.next (.pointer (some ⟨b, 0, none⟩)) true ty).run P W = .ok (.tuple #[.bool true, .int .i64 pos, .int .i32 (Utf8.decode s pos).1]) (W.putObj b (.stringIter s (pos + (Utf8.decode s pos).2))) := by
  simp only [Instr.next, getObj, setObj, Sem.run_bind, Sem.run, hW, Result.andThen, h, if_true]
  simp [goInt, World.putObj]
theorem run_next_out (hW : W.heap[b]? = some (.stringIter s pos)) (h : ¬ pos < s.size) :
    (Instr.next (.pointer (some ⟨b, 0, none⟩)) true ty).run P W = .ok (.tuple #[.bool false]) W := by
  simp [Instr.next, getObj, Sem.run, hW, h]
end
theorem IndexRune_ge (s : ByteArray) (r : Int) (w : World) (h1 : 128 ≤ r) (h2 : r ≤ 2147483647) (hA : AsciiL s.data.toList) :
    Calls Tryd.prog 81 #[.string s, .int .i32 r] w fun e w' => e = .returned (.int .i64 (-1)) ∧ Below w.heap.size w w' := by
  by_cases hne : r = 65533
  · subst hne
    exact IndexRune_err s w hA
  · cases hv : Lib.validRune r with
    | true => exact IndexRune_high s r w h1 h2 hA hne hv
    | false => exact (IndexRune_bad s r w h1 h2 hne hv).mono fun e w' ⟨he, hw⟩ => ⟨he, hw ▸ Below.refl _ _⟩
theorem below_put (w : World) (s : ByteArray) (q : Nat) (W : World) (hB : Below w.heap.size w W) : Below w.heap.size w (W.putObj w.heap.size (.stringIter s q)) :=
  hB.trans ⟨rfl, rfl, rfl, by simp, fun k hk => World.putObj_heap_other (by omega)⟩
set_option maxRecDepth 100000 in
set_option maxHeartbeats 4000000 in
theorem IndexAny_short (s chars : ByteArray) (w : World) (h2 : 2 ≤ chars.size) (h8 : s.size ≤ 8) (hA : AsciiL chars.data.toList) :
    Calls Tryd.prog 69 #[.string s, .string chars] w fun e w' => e = .returned (.int .i64 (Lib.indexAny s.data.toList chars.data.toList)) ∧ Below w.heap.size w w' := by
  have hemp : chars.toList.isEmpty = false := by
    rw [Lib.toList_data]
    cases h : chars.data.toList with
    | nil => have := Lib.size_eq chars; rw [h, List.length_nil] at this; omega
    | cons _ _ => rfl
  have hn1 : ((chars.size : Int) == 1) = false := beq_eq_false_iff_ne.2 (by omega)
  have h8z : decide ((8 : Int) < (s.size : Int)) = false := decide_eq_false (by omega)
  have HA := Lib.hid hA
  clear hA
  go_enter Tryd.func69, Tryd.ntmps69
  go_wp2_with (go_at_call 82; refine (Tryd.strings_shouldUseASCIISet _ _).mono ?_; rintro e w' ⟨rfl, hw⟩; rw [hw, h8z])
  go_loopg [9, 10] s.size (fun g _ _ wx => ∃ i : Nat, i + g = s.size ∧ wx.heap[w.heap.size]? = some (.stringIter s i) ∧ Below w.heap.size w wx ∧ w.heap.size < wx.heap.size ∧ Hid (Lib.NoAny s.data.toList chars.data.toList i))
  case atStart => exact ⟨0, by omega, World.iter_heap _ _ _, (Below.refl _ _).alloc (Nat.le_refl _) _, by simp [World.iter], Lib.NoAny.zero _ _⟩
  case round =>
    obtain ⟨i, hig, hheap, hB, hlt, HN⟩ := hrel
    cases gk with
    | zero =>
      obtain rfl : i = s.size := by omega
      have hnx := fun ty => run_next_out (P := Tryd.prog) wr w.heap.size s s.size ty hheap (by omega)
      have HH := Lib.hid hheap
      have HB := Lib.hid hB
      clear hheap hB
      go_wp2
      go_ret
      exact ⟨by rw [Lib.indexAny_none (by rw [← Lib.size_eq]; exact HN.out)]; rfl, HB.out⟩
    | succ g =>
      have hi : i < s.size := by omega
      obtain ⟨x, hx⟩ : ∃ x : UInt8, s[i]'hi = x := ⟨_, rfl⟩
      have hxl : s.data.toList[i]? = some x := by rw [← hx]; exact Lib.data_getElem? s i hi
      have hnx := fun ty => run_next_in (P := Tryd.prog) wr w.heap.size s i ty hheap hi
      have HH := Lib.hid hheap
      have HB := Lib.hid hB
      clear hheap hB
      by_cases h128 : x.toNat < 128
      · have hdec := decode_ascii s i hi (by rw [hx]; exact h128)
        rw [hdec, hx] at hnx
        have Hx := Lib.hid hxl
        clear hxl hx hdec
        have hcon := Lib.contains_iff_indexByte chars.data.toList x
        have hback : ((x.toNat : Int)).toNat.toUInt8 = x := by simp
        generalize hW2 : wr.putObj w.heap.size (.stringIter s (i + 1)) = W2 at hnx
        have HW2 := Lib.hid hW2
        clear hW2
        cases hin : chars.data.toList.contains x
        · rw [hin] at hcon
          have hlt : ¬ ((0 : Int) ≤ Lib.indexByte chars.data.toList x) := of_decide_eq_false hcon.symm
          clear hcon
          go_wp2_with (go_at_call 81; refine (Tryd.strings_IndexRune_ascii _ _ _ (by omega) (by omega)).mono ?_; rintro e w' ⟨rfl, hw⟩; rw [hw, hback])
          go_roundg g
          case measure => omega
          case rel => exact ⟨i + 1, by omega, by rw [← HW2.out]; exact World.putObj_heap_same (by assumption), by rw [← HW2.out]; exact below_put w s _ wr HB.out, by rw [← HW2.out]; simpa using (by assumption : w.heap.size < wr.heap.size), HN.out.succ Hx.out hin⟩
        · rw [hin] at hcon
          have hge : (0 : Int) ≤ Lib.indexByte chars.data.toList x := of_decide_eq_true hcon.symm
          clear hcon
          go_wp2_with (go_at_call 81; refine (Tryd.strings_IndexRune_ascii _ _ _ (by omega) (by omega)).mono ?_; rintro e w' ⟨rfl, hw⟩; rw [hw, hback])
          go_ret
          exact ⟨by rw [Lib.indexAny_hit HN.out Hx.out hin]; rfl, by rw [← HW2.out]; exact below_put w s _ wr HB.out⟩
      · have hhi := decode_high s i hi (by rw [hx]; omega)
        have hle := decode_le s i
        have hsp := decode_span s i hi (by rw [hx]; omega)
        obtain ⟨r, n, hd⟩ : ∃ r n, Utf8.decode s i = (r, n) := ⟨_, _, rfl⟩
        rw [hd] at hnx hhi hle hsp
        simp only at hnx hhi hle hsp
        obtain ⟨hr1, hn1'⟩ := hhi
        have hend : i + n ≤ s.size := by
          have := (hsp (i + n - 1) (by omega) (by omega)).1
          omega
        have HS := Lib.hid hsp
        clear hsp hx hd hxl
        generalize hW2 : wr.putObj w.heap.size (.stringIter s (i + n)) = W2 at hnx
        have HW2 := Lib.hid hW2
        clear hW2
        go_wp2_with (go_at_call 81; refine (IndexRune_ge chars (r : Int) _ (by omega) (by omega) HA.out).mono ?_; rintro e w' ⟨rfl, hb⟩; have HB2 := Lib.hid hb; clear hb)
        go_roundg (s.size - (i + n))
        case measure => omega
        case rel =>
          have hsz : w.heap.size < W2.heap.size := by rw [← HW2.out]; simpa using hlt
          refine ⟨i + n, by omega, (HB2.out.block _ hsz).trans (by rw [← HW2.out]; exact World.putObj_heap_same hlt), (below_put w s (i + n) wr HB.out).trans ?_, Nat.lt_of_lt_of_le hsz HB2.out.size, ?_⟩
          · rw [HW2.out]; exact HB2.out.mono (Nat.le_of_lt hsz)
          · refine noAny_span HN.out HA.out ?_
            intro j b hj1 hj2 hb
            obtain ⟨hj, hh⟩ := HS.out j hj1 hj2
            rw [Lib.data_getElem? s j hj] at hb
            cases hb
            exact hh
theorem IndexAny_any (s chars : ByteArray) (w : World) (h2 : 2 ≤ chars.size) (hs : s.size < 4294967281) (hcs : chars.size < 4294967281) (hA : AsciiL chars.data.toList) :
    Calls Tryd.prog 69 #[.string s, .string chars] w fun e w' => e = .returned (.int .i64 (Lib.indexAny s.data.toList chars.data.toList)) ∧ Below w.heap.size w w' := by
  by_cases h8 : s.size ≤ 8
  · exact IndexAny_short s chars w h2 h8 hA
  · refine (Tryd.strings_IndexAny_long (zero_of_info (n := 256) (by kernel_rfl)).1 s chars w h2 (by omega) hs hcs hA).mono ?_
    rintro e w' ⟨he, rfl⟩
    exact ⟨he, ((Below.refl _ _).alloc (Nat.le_refl _) _).alloc (by simp) _⟩
def strings_ContainsAny.f (a0 : ByteArray) (a1 : ByteArray) : Option Bool :=
  if a0.size < 4294967281 ∧ 2 ≤ a1.size ∧ a1.size < 4294967281 ∧ a1.data.toList.all (fun b => decide (b.toNat < 128)) = true then some (Lib.containsAny a0.data.toList a1.data.toList) else none
set_option maxHeartbeats 1000000 in
theorem strings_ContainsAny.calls (a0 : ByteArray) (a1 : ByteArray) (r : Bool) (w : World) (h : strings_ContainsAny.f a0 a1 = some r) :
    Calls Tryd.prog 55 #[.string a0, .string a1] w fun e w' => e = .returned (.bool r) ∧ Below w.heap.size w w' := by
  unfold strings_ContainsAny.f at h
  split at h
  · rename_i hc
    obtain ⟨h1, h2, h3, h4⟩ := hc
    cases h
    have hA : AsciiL a1.data.toList := fun j b hb => by
      have := List.all_eq_true.1 h4 b (List.mem_of_getElem? hb)
      simpa using this
    have c := Lib.hid (fun W => IndexAny_any a0 a1 W h2 h1 h3 hA)
    clear h1 h2 h3 h4 hA
    go_enter Tryd.func55, Tryd.ntmps55
    go_wp2_with (go_at_call 69; refine (c.out _).mono ?_; rintro e w' ⟨rfl, hb⟩; have HB := Lib.hid hb; clear hb)
    go_ret
    exact ⟨rfl, HB.out⟩
  · cases h
end Go.Proofs.YtjiokdkgbnakhaaDoor.Own
end TAnyB
section TKx6
namespace Go.Proofs.YtjiokdkgbnakhaaDoor.Own
end Go.Proofs.YtjiokdkgbnakhaaDoor.Own
namespace Go.Proofs.YtjiokdkgbnakhaaDoor.K
open Go.RowKit Go.Proofs.YtjiokdkgbnakhaaDoorW.PrintWords Go.Proofs.YtjiokdkgbnakhaaDoorW.PrintLast Go.Proofs.YtjiokdkgbnakhaaDoorW.PrintMore Go.Proofs.YtjiokdkgbnakhaaDoor.Own
attribute [local go_sem] max2_int min2_int max_two min_two max_three min_three max_four min_four
set_option linter.unusedVariables false
set_option linter.unusedSimpArgs false
def longname_Valid.f (a0 : ByteArray) : Option (Bool) := if (a0.size : Int) ≥ 1 then (if (a0.size : Int) ≤ 255 then ((strings_ContainsAny.f a0 (⟨#[47, 10, 0]⟩ : ByteArray)).bind fun t146 => (some (!t146))) else (some false)) else (some false)
set_option maxHeartbeats 8000000 in
set_option maxRecDepth 100000 in
theorem longname_Valid.calls (a0 : ByteArray) (r : Bool) (w : World) (h : longname_Valid.f a0 = some r) :
    Calls Tryd.prog 35 #[.string a0] w fun e w' => e = .returned (.bool r) ∧ Below w.heap.size w w' := by
  have HB := Aside0.mk (Below.refl w.heap.size w)
  have H : (if (a0.size : Int) ≥ 1 then (if (a0.size : Int) ≤ 255 then ((strings_ContainsAny.f a0 (⟨#[47, 10, 0]⟩ : ByteArray)).bind fun t146 => (some (!t146))) else (some false)) else (some false)) = some r := h
  clear h
  by_cases c2 : (a0.size : Int) ≥ 1
  · rw [if_pos c2] at H
    have c2b0 : decide (1 ≤ (a0.size : Int)) = true := decide_eq_true c2
    have c2b1 : decide (1 ≤ a0.size) = true := decide_eq_true (by omega)
    clear c2
    by_cases c3 : (a0.size : Int) ≤ 255
    · rw [if_pos c3] at H
      have c3b0 : decide ((a0.size : Int) ≤ 255) = true := decide_eq_true c3
      have c3b1 : decide (a0.size ≤ 255) = true := decide_eq_true (by omega)
      clear c3
      replace H := Option.bind_eq_some_iff.mp H
      obtain ⟨t146, A40, H⟩ := H
      replace H : (some (!t146)) = some r := H
      have A4 := Aside0.mk A40
      clear A40
      obtain rfl := Option.some.inj H
      go_enter Tryd.func35, Tryd.ntmps35
      go_wp2_with (first | (go_at_call 55; (with_reducible refine (strings_ContainsAny.calls a0 (⟨#[47, 10, 0]⟩ : ByteArray) t146 _ A4.out).mono ?_); rintro e w5 ⟨rfl, hb⟩; have n0_ := Aside0.mk (below_step (by repeat (first | (with_reducible first | exact HB.out | apply below_alloc | apply pw_below_drewN | apply below_drew1) | exact HB.out)) hb); clear HB; have HB := n0_; clear n0_; (try clear hb); (try clear hb2); (try clear hk); (try clear hi)))
      go_ret
      exact ⟨by first | rfl | (simp [errW_none, errW_some] <;> rfl) | (simp [*, errW_none, errW_some] <;> rfl), by repeat (first | (with_reducible first | exact HB.out | apply below_alloc | apply pw_below_drewN | apply below_drew1) | exact HB.out)⟩
    · rw [if_neg c3] at H
      have c3b0 : decide ((a0.size : Int) ≤ 255) = false := decide_eq_false c3
      have c3b1 : decide (a0.size ≤ 255) = false := decide_eq_false (by omega)
      clear c3
      obtain rfl := Option.some.inj H
      go_enter Tryd.func35, Tryd.ntmps35
      go_wp2
      go_ret
      exact ⟨by first | rfl | (simp [errW_none, errW_some] <;> rfl) | (simp [*, errW_none, errW_some] <;> rfl), by repeat (first | (with_reducible first | exact HB.out | apply below_alloc | apply pw_below_drewN | apply below_drew1) | exact HB.out)⟩
  · rw [if_neg c2] at H
    have c2b0 : decide (1 ≤ (a0.size : Int)) = false := decide_eq_false c2
    have c2b1 : decide (1 ≤ a0.size) = false := decide_eq_false (by omega)
    clear c2
    obtain rfl := Option.some.inj H
    go_enter Tryd.func35, Tryd.ntmps35
    go_wp2
    go_ret
    exact ⟨by first | rfl | (simp [errW_none, errW_some] <;> rfl) | (simp [*, errW_none, errW_some] <;> rfl), by repeat (first | (with_reducible first | exact HB.out | apply below_alloc | apply pw_below_drewN | apply below_drew1) | exact HB.out)⟩
def longname_Short.f (a0 : ByteArray) : Option (Bool) := (longname_Valid.f a0).bind fun t147 => (if t147 = true then (if (a0.size : Int) ≤ 15 then (if 0 ≤ (wrap64 ((a0.size : Int) - 1)) then (if (wrap64 ((a0.size : Int) - 1)) < (a0.size : Int) then (some ((bt a0 (wrap64 ((a0.size : Int) - 1))) != 32)) else (none)) else (none)) else (some false)) else (some false))
set_option maxHeartbeats 8000000 in
set_option maxRecDepth 100000 in
theorem longname_Short.calls (a0 : ByteArray) (r : Bool) (w : World) (h : longname_Short.f a0 = some r) :
    Calls Tryd.prog 36 #[.string a0] w fun e w' => e = .returned (.bool r) ∧ Below w.heap.size w w' := by
  have HB := Aside0.mk (Below.refl w.heap.size w)
  have H : ((longname_Valid.f a0).bind fun t147 => (if t147 = true then (if (a0.size : Int) ≤ 15 then (if 0 ≤ (wrap64 ((a0.size : Int) - 1)) then (if (wrap64 ((a0.size : Int) - 1)) < (a0.size : Int) then (some ((bt a0 (wrap64 ((a0.size : Int) - 1))) != 32)) else (none)) else (none)) else (some false)) else (some false))) = some r := h
  clear h
  replace H := Option.bind_eq_some_iff.mp H
  obtain ⟨t147, A20, H⟩ := H
  replace H : (if t147 = true then (if (a0.size : Int) ≤ 15 then (if 0 ≤ (wrap64 ((a0.size : Int) - 1)) then (if (wrap64 ((a0.size : Int) - 1)) < (a0.size : Int) then (some ((bt a0 (wrap64 ((a0.size : Int) - 1))) != 32)) else (none)) else (none)) else (some false)) else (some false)) = some r := H
  have A2 := Aside0.mk A20
  clear A20
  by_cases c3 : t147 = true
  · subst c3
    have H1 : (if (a0.size : Int) ≤ 15 then (if 0 ≤ (wrap64 ((a0.size : Int) - 1)) then (if (wrap64 ((a0.size : Int) - 1)) < (a0.size : Int) then (some ((bt a0 (wrap64 ((a0.size : Int) - 1))) != 32)) else (none)) else (none)) else (some false)) = some r := by rw [if_pos rfl] at H; exact H
    clear H
    have H := H1
    clear H1
    by_cases c4 : (a0.size : Int) ≤ 15
    · rw [if_pos c4] at H
      have c4b0 : decide ((a0.size : Int) ≤ 15) = true := decide_eq_true c4
      have c4b1 : decide (a0.size ≤ 15) = true := decide_eq_true (by omega)
      clear c4
      obtain ⟨ji5, hji5⟩ : ∃ j_ : Int, (wrap64 ((a0.size : Int) - 1)) = j_ := ⟨_, rfl⟩
      replace H : (if 0 ≤ (ji5) then (if (ji5) < (a0.size : Int) then (some ((bt a0 (ji5)) != 32)) else (none)) else (none)) = some r := by first | (rw [hji5] at H; exact H) | (simp only [hji5] at H ⊢; exact H)
      (try rw [hji5] at A2)
      have hji5w : (IntKind.i64.wrap ((a0.size : Int) - 1)) = ji5 := (i64_w _).trans hji5
      by_cases c6 : 0 ≤ (ji5)
      · rw [if_pos c6] at H
        have c6b0 : decide (0 ≤ (ji5)) = true := decide_eq_true c6
        clear c6
        by_cases c7 : (ji5) < (a0.size : Int)
        · rw [if_pos c7] at H
          have c7b0 : decide ((ji5) < (a0.size : Int)) = true := decide_eq_true c7
          clear c7
          obtain rfl := Option.some.inj H
          go_enter Tryd.func36, Tryd.ntmps36
          go_wp2_with (first | ((with_reducible refine gate_callee (f := 35) rfl ?_); refine goesL_ (some 4) rfl rfl Tryd.func35 (by kernel_rfl) rfl #[.string a0] rfl (by (try simp only [List.map_toArray, List.map_cons, List.map_nil]); first | done | rfl | (simp only [List.length_drop, List.length_take]; rfl)) ?_; (with_reducible refine (longname_Valid.calls a0 true _ A2.out).mono ?_); rintro e w9 ⟨rfl, hb⟩; refine ⟨_, rfl, ?_⟩; have n0_ := Aside0.mk (below_step (by repeat (first | (with_reducible first | exact HB.out | apply below_alloc | apply pw_below_drewN | apply below_drew1) | exact HB.out)) hb); clear HB; have HB := n0_; clear n0_; (try clear hb); (try clear hb2); (try clear hk); (try clear hi); have p8 : 0 ≤ ((ji5) : Int) := of_decide_eq_true (by first | (with_reducible assumption) | assumption); have q8 : (ji5) < (a0.size : Int) := of_decide_eq_true (by first | (with_reducible assumption) | assumption); have hx8 := bt_at a0 (ji5); replace p8 := eq_true p8; replace q8 := eq_true q8))
          go_ret
          exact ⟨by first | rfl | (simp [errW_none, errW_some] <;> rfl) | (simp only [← hji5]; first | rfl | (simp [errW_none, errW_some] <;> rfl)) | (simp [*, errW_none, errW_some] <;> rfl), by repeat (first | (with_reducible first | exact HB.out | apply below_alloc | apply pw_below_drewN | apply below_drew1) | exact HB.out)⟩
        · rw [if_neg c7] at H
          exact absurd H (by simp)
      · rw [if_neg c6] at H
        exact absurd H (by simp)
    · rw [if_neg c4] at H
      have c4b0 : decide ((a0.size : Int) ≤ 15) = false := decide_eq_false c4
      have c4b1 : decide (a0.size ≤ 15) = false := decide_eq_false (by omega)
      clear c4
      obtain rfl := Option.some.inj H
      go_enter Tryd.func36, Tryd.ntmps36
      go_wp2_with (first | ((with_reducible refine gate_callee (f := 35) rfl ?_); refine goesL_ (some 4) rfl rfl Tryd.func35 (by kernel_rfl) rfl #[.string a0] rfl (by (try simp only [List.map_toArray, List.map_cons, List.map_nil]); first | done | rfl | (simp only [List.length_drop, List.length_take]; rfl)) ?_; (with_reducible refine (longname_Valid.calls a0 true _ A2.out).mono ?_); rintro e w10 ⟨rfl, hb⟩; refine ⟨_, rfl, ?_⟩; have n0_ := Aside0.mk (below_step (by repeat (first | (with_reducible first | exact HB.out | apply below_alloc | apply pw_below_drewN | apply below_drew1) | exact HB.out)) hb); clear HB; have HB := n0_; clear n0_; (try clear hb); (try clear hb2); (try clear hk); (try clear hi)))
      go_ret
      exact ⟨by first | rfl | (simp [errW_none, errW_some] <;> rfl) | (simp [*, errW_none, errW_some] <;> rfl), by repeat (first | (with_reducible first | exact HB.out | apply below_alloc | apply pw_below_drewN | apply below_drew1) | exact HB.out)⟩
  · replace c3 := Bool.eq_false_iff.mpr c3
    subst c3
    have H1 : (some false) = some r := by rw [if_neg (show ¬ (false = true) by decide)] at H; exact H
    clear H
    have H := H1
    clear H1
    obtain rfl := Option.some.inj H
    go_enter Tryd.func36, Tryd.ntmps36
    go_wp2_with (first | ((with_reducible refine gate_callee (f := 35) rfl ?_); refine goesL_ (some 4) rfl rfl Tryd.func35 (by kernel_rfl) rfl #[.string a0] rfl (by (try simp only [List.map_toArray, List.map_cons, List.map_nil]); first | done | rfl | (simp only [List.length_drop, List.length_take]; rfl)) ?_; (with_reducible refine (longname_Valid.calls a0 false _ A2.out).mono ?_); rintro e w11 ⟨rfl, hb⟩; refine ⟨_, rfl, ?_⟩; have n0_ := Aside0.mk (below_step (by repeat (first | (with_reducible first | exact HB.out | apply below_alloc | apply pw_below_drewN | apply below_drew1) | exact HB.out)) hb); clear HB; have HB := n0_; clear n0_; (try clear hb); (try clear hb2); (try clear hk); (try clear hi)))
    go_ret
    exact ⟨by first | rfl | (simp [errW_none, errW_some] <;> rfl) | (simp [*, errW_none, errW_some] <;> rfl), by repeat (first | (with_reducible first | exact HB.out | apply below_alloc | apply pw_below_drewN | apply below_drew1) | exact HB.out)⟩
end Go.Proofs.YtjiokdkgbnakhaaDoor.K
end TKx6
section TLinesB
set_option linter.unusedVariables false
set_option linter.unusedSimpArgs false
namespace Go.Proofs.YtjiokdkgbnakhaaDoor.Own
open Go.RowKit Go.Shelf Go.Proofs.YtjiokdkgbnakhaaDoor Go.Proofs.YtjiokdkgbnakhaaDoorW.PrintWords Go.Proofs.YtjiokdkgbnakhaaDoorW.PrintLast Go.Proofs.YtjiokdkgbnakhaaDoorW.PrintMore
attribute [local go_sem] Oper.semAt_some
set_option maxHeartbeats 1000000 in
theorem lines_in (A : Option Addr) (n c : Nat) (w : World) :
    Calls Tryd.prog 37 #[.slice A n c] w fun e w' => e = .returned (.func (.func 56) #[] #[.pointer (some ⟨w.heap.size, 0, none⟩)]) ∧ w' = w.alloc (.cells #[.slice A n c] 22) := by
  go_enter Tryd.func37, Tryd.ntmps37
  go_wp2
  go_ret
  exact ⟨rfl, rfl⟩
theorem lines_stops (Bs n₀ : Nat) (A : Option Addr) (c : Nat) (xs : List Int) (hlen : xs.length ≤ c) (hx4 : xs.length < 4294967281) (hby : ∀ x ∈ xs, 0 ≤ x ∧ x < 256) (w : World)
    (hn₀ : n₀ ≤ w.heap.size) (hBs : w.heap[Bs]? = some (.cells #[.slice A xs.length c] 22 (0, 0)))
    (hC : ∀ W', Below n₀ w W' → (Kd.int .u8).C W' A xs.length xs) (hM : ∀ W', Below n₀ w W' → Gmaxlen W') :
    SeqStopsK Fence.wide 3 Tryd.prog 56 #[.pointer (some ⟨Bs, 0, none⟩)] (fun x : Nat × ByteArray => #[Value.int .i64 (x.1 : Int), Value.string x.2]) (KpT n₀ Bs 22 (.slice A xs.length c))
      (fun ys => ys = linesOf xs) (fun pre => pre <+: linesOf xs) (linesOf xs).length w := fun l J Jx W hW hJ _ hY h0 =>
  lines1_in l Bs n₀ A c xs hlen hx4 hby J Jx (fun pre W1 W2 hj hg => hJ pre W1 W2 none hj hg (fun r e => by cases e)) hY W (Nat.le_trans hn₀ hW.size)
    ((hW.block Bs (Array.getElem?_eq_some_iff.1 hBs).1).trans hBs)
    (fun W' hb => hC W' ((hW.mono hn₀).trans hb)) (fun W' hb => hM W' ((hW.mono hn₀).trans hb)) h0
def validB (s : ByteArray) : Bool := decide (1 ≤ s.size) && decide (s.size ≤ 255) && !Lib.containsAny s.data.toList [47, 10, 0]
theorem valid_f (s : ByteArray) : K.longname_Valid.f s = some (validB s) := by
  unfold K.longname_Valid.f validB
  by_cases h1 : (s.size : Int) ≥ 1
  · rw [if_pos h1, decide_eq_true (by omega)]
    by_cases h2 : (s.size : Int) ≤ 255
    · rw [if_pos h2, decide_eq_true (by omega)]
      have : strings_ContainsAny.f s ⟨#[47, 10, 0]⟩ = some (Lib.containsAny s.data.toList [47, 10, 0]) := by
        unfold strings_ContainsAny.f
        rw [if_pos ⟨by omega, by decide, by decide, by decide⟩]
      rw [this]
      rfl
    · rw [if_neg h2, decide_eq_false (by omega)]
      rfl
  · rw [if_neg h1, decide_eq_false (by omega)]
    rfl
def isBytes (l : List Int) : Bool := l.all fun x => decide (0 ≤ x) && decide (x < 256)
theorem isBytes_iff {l : List Int} (h : isBytes l = true) : ∀ x ∈ l, 0 ≤ x ∧ x < 256 := fun x hx => by
  have := List.all_eq_true.1 h x hx
  simpa using this
def entriesV (l : List Int) : List ByteArray × Int :=
  if (linesOf l).all (fun x => validB x.2) = true then ((linesOf l).map (·.2), 0) else ([], 7)
def longname_Entries.f (l0 : List Int) : Option (List ByteArray × Int) := if isBytes l0 = true ∧ l0.length < 4294967281 then some (entriesV l0) else none
theorem linesF_len : ∀ (k : Nat) (l : List Int) (a : Nat), (linesF k l a).length ≤ l.length - a
  | 0, _, _ => Nat.zero_le _
  | k + 1, l, a => by
    unfold linesF
    split
    · split
      · simp; omega
      · have := linesF_len k l (a + (nextSep (l.drop a)).toNat + 2)
        simp only [List.length_cons]
        omega
    · exact Nat.zero_le _
theorem valid_calls (s : ByteArray) (w : World) : Calls Tryd.prog 35 #[.string s] w fun e w' => e = .returned (.bool (validB s)) ∧ Below w.heap.size w w' :=
  K.longname_Valid.calls s (validB s) w (valid_f s)
end Go.Proofs.YtjiokdkgbnakhaaDoor.Own
end TLinesB
section TKx1
namespace Go.Proofs.YtjiokdkgbnakhaaDoor.Own
end Go.Proofs.YtjiokdkgbnakhaaDoor.Own
namespace Go.Proofs.YtjiokdkgbnakhaaDoor.K
open Go.RowKit Go.Proofs.YtjiokdkgbnakhaaDoorW.PrintWords Go.Proofs.YtjiokdkgbnakhaaDoorW.PrintLast Go.Proofs.YtjiokdkgbnakhaaDoorW.PrintMore Go.Proofs.YtjiokdkgbnakhaaDoor.Own
attribute [local go_sem] max2_int min2_int max_two min_two max_three min_three max_four min_four
set_option linter.unusedVariables false
set_option linter.unusedSimpArgs false
def arlinkref01_Same.l0 : Nat → List Int → List Int → Int → Option (Bool)
  | 0, _, _, _ => none
  | k + 1, x0, x1, x5 => if x5 < (x0.length : Int) then (if 0 ≤ x5 then (if x5 < (x1.length : Int) then (if (rd x0 x5) = (rd x1 x5) then (arlinkref01_Same.l0 k x0 x1 (wrap64 (x5 + 1))) else (some false)) else (none)) else (none)) else (some true)
def arlinkref01_Same.f (k : Nat) (l0 : List Int) (l1 : List Int) : Option (Bool) := if (l0.length : Int) = (l1.length : Int) then (arlinkref01_Same.l0 k l0 l1 0) else (some false)
set_option maxHeartbeats 8000000 in
set_option maxRecDepth 100000 in
theorem arlinkref01_Same.calls (k : Nat) (A0 : Option Addr) (c0 : Nat) (l0 : List Int) (A1 : Option Addr) (c1 : Nat) (l1 : List Int) (r : Bool) (w : World) (hr0 : Kd.C (Kd.int .u8) w A0 l0.length l0) (hc0 : l0.length ≤ c0) (hr1 : Kd.C (Kd.int .u8) w A1 l1.length l1) (hc1 : l1.length ≤ c1) (h : arlinkref01_Same.f k l0 l1 = some r) :
    Calls Tryd.prog 14 #[.slice A0 l0.length c0, .slice A1 l1.length c1] w fun e w' => e = .returned (.bool r) ∧ Drawn0 w w' := by
  have HR0 := Aside0.mk hr0
  have HC0 := Aside0.mk hc0
  clear hr0 hc0
  have HR1 := Aside0.mk hr1
  have HC1 := Aside0.mk hc1
  clear hr1 hc1
  have H : (if (l0.length : Int) = (l1.length : Int) then (arlinkref01_Same.l0 k l0 l1 0) else (some false)) = some r := h
  clear h
  by_cases c3 : (l0.length : Int) = (l1.length : Int)
  · rw [if_pos c3] at H
    have c3b0 : ((l0.length : Int) == (l1.length : Int)) = true := beq_iff_eq.mpr c3
    have c3b1 : ((l0.length : Int) != (l1.length : Int)) = false := bne_eq_false_iff_eq.mpr c3
    have c3b2 : (l0.length == l1.length) = true := by first | simpa using c3 | (simp at c3 ⊢; omega)
    clear c3
    have H' := Aside0.mk H
    clear H
    go_enter Tryd.func14, Tryd.ntmps14
    go_wp2
    repeat (go_quiet (fail); try go_wp2)
    go_loopg [5] k (fun kq v5 w' => ∃ (x5_1 : Int), v5 = .int .i64 x5_1 ∧ Aside0 (arlinkref01_Same.l0 kq l0 l1 x5_1 = some r) ∧ Aside0 (kq ≤ k) ∧ Drawn0 w w')
    case atStart => exact ⟨(0), (by first | rfl | (simp; done) | (simp [*]; done)), H', ⟨Nat.le_refl _⟩, by repeat (first | exact Drawn0.refl _ | apply Drawn0.step)⟩
    case round =>
      clear H'
      try clear c1
      try clear p2
      try clear c3
      try clear c3b0
      try clear c3b1
      try clear c3b2
      obtain ⟨x5_1, rfl, HA, HK1, ⟨m1, rfl⟩⟩ := hrel
      cases gk with
      | zero => exact absurd HA.out (by simp [arlinkref01_Same.l0])
      | succ k1 =>
        have H := HA.out
        clear HA
        simp only [arlinkref01_Same.l0] at H
        by_cases c4 : x5_1 < (l0.length : Int)
        · rw [if_pos c4] at H
          have c4b0 : decide (x5_1 < (l0.length : Int)) = true := decide_eq_true c4
          clear c4
          by_cases c5 : 0 ≤ x5_1
          · rw [if_pos c5] at H
            have c5b0 : decide (0 ≤ x5_1) = true := decide_eq_true c5
            clear c5
            by_cases c6 : x5_1 < (l1.length : Int)
            · rw [if_pos c6] at H
              have c6b0 : decide (x5_1 < (l1.length : Int)) = true := decide_eq_true c6
              clear c6
              by_cases c7 : (rd l0 x5_1) = (rd l1 x5_1)
              · rw [if_pos c7] at H
                have c7b0 : ((rd l0 x5_1) == (rd l1 x5_1)) = true := beq_iff_eq.mpr c7
                have c7b1 : ((rd l0 x5_1) != (rd l1 x5_1)) = false := bne_eq_false_iff_eq.mpr c7
                clear c7
                have H' := Aside0.mk H
                clear H
                have p101 : 0 ≤ (x5_1 : Int) := of_decide_eq_true (by first | (with_reducible assumption) | assumption)
                have q101 : x5_1 < (l0.length : Int) := of_decide_eq_true (by first | (with_reducible assumption) | assumption)
                obtain ⟨ad101, e101, hx101_0⟩ := Kd.at_int HR0.out x5_1 p101 q101
                cases e101
                replace p101 := eq_true p101
                replace q101 := eq_true q101
                have p102 : 0 ≤ (x5_1 : Int) := of_decide_eq_true (by first | (with_reducible assumption) | assumption)
                have q102 : x5_1 < (l1.length : Int) := of_decide_eq_true (by first | (with_reducible assumption) | assumption)
                obtain ⟨ad102, e102, hx102_0⟩ := Kd.at_int HR1.out x5_1 p102 q102
                cases e102
                replace p102 := eq_true p102
                replace q102 := eq_true q102
                go_wp2
                repeat (go_quiet (fail); try go_wp2)
                go_roundg k1
                case measure => have := HK1.out; omega
                case rel => exact ⟨(wrap64 (x5_1 + 1)), (by first | rfl | (simp; done) | (simp [*]; done)), H', ⟨by have := HK1.out; omega⟩, by repeat (first | exact Drawn0.refl _ | apply Drawn0.step)⟩
              · rw [if_neg c7] at H
                have c7b0 : ((rd l0 x5_1) == (rd l1 x5_1)) = false := beq_eq_false_iff_ne.mpr c7
                have c7b1 : ((rd l0 x5_1) != (rd l1 x5_1)) = true := bne_iff_ne.mpr c7
                obtain rfl := Option.some.inj H
                have p101 : 0 ≤ (x5_1 : Int) := of_decide_eq_true (by first | (with_reducible assumption) | assumption)
                have q101 : x5_1 < (l0.length : Int) := of_decide_eq_true (by first | (with_reducible assumption) | assumption)
                obtain ⟨ad101, e101, hx101_0⟩ := Kd.at_int HR0.out x5_1 p101 q101
                cases e101
                replace p101 := eq_true p101
                replace q101 := eq_true q101
                have p102 : 0 ≤ (x5_1 : Int) := of_decide_eq_true (by first | (with_reducible assumption) | assumption)
                have q102 : x5_1 < (l1.length : Int) := of_decide_eq_true (by first | (with_reducible assumption) | assumption)
                obtain ⟨ad102, e102, hx102_0⟩ := Kd.at_int HR1.out x5_1 p102 q102
                cases e102
                replace p102 := eq_true p102
                replace q102 := eq_true q102
                go_wp2
                repeat (go_quiet (fail); try go_wp2)
                go_ret
                exact ⟨by first | rfl | (simp; done) | (simp [*]; done), by repeat (first | exact Drawn0.refl _ | apply Drawn0.step)⟩
            · rw [if_neg c6] at H
              exact absurd H (by simp)
          · rw [if_neg c5] at H
            exact absurd H (by simp)
        · rw [if_neg c4] at H
          have c4b0 : decide (x5_1 < (l0.length : Int)) = false := decide_eq_false c4
          clear c4
          obtain rfl := Option.some.inj H
          go_wp2
          repeat (go_quiet (fail); try go_wp2)
          go_ret
          exact ⟨by first | rfl | (simp; done) | (simp [*]; done), by repeat (first | exact Drawn0.refl _ | apply Drawn0.step)⟩
  · rw [if_neg c3] at H
    have c3b0 : ((l0.length : Int) == (l1.length : Int)) = false := beq_eq_false_iff_ne.mpr c3
    have c3b1 : ((l0.length : Int) != (l1.length : Int)) = true := bne_iff_ne.mpr c3
    have c3b2 : (l0.length == l1.length) = false := by first | simpa using c3 | (simp at c3 ⊢; omega)
    obtain rfl := Option.some.inj H
    go_enter Tryd.func14, Tryd.ntmps14
    go_wp2
    repeat (go_quiet (fail); try go_wp2)
    go_ret
    exact ⟨by first | rfl | (simp; done) | (simp [*]; done), by repeat (first | exact Drawn0.refl _ | apply Drawn0.step)⟩
end Go.Proofs.YtjiokdkgbnakhaaDoor.K
end TKx1
section TKx3
namespace Go.Proofs.YtjiokdkgbnakhaaDoor.Own
end Go.Proofs.YtjiokdkgbnakhaaDoor.Own
namespace Go.Proofs.YtjiokdkgbnakhaaDoor.K
open Go.RowKit Go.Proofs.YtjiokdkgbnakhaaDoorW.PrintWords Go.Proofs.YtjiokdkgbnakhaaDoorW.PrintLast Go.Proofs.YtjiokdkgbnakhaaDoorW.PrintMore Go.Proofs.YtjiokdkgbnakhaaDoor.Own
attribute [local go_sem] max2_int min2_int max_two min_two max_three min_three max_four min_four
set_option linter.unusedVariables false
set_option linter.unusedSimpArgs false
end Go.Proofs.YtjiokdkgbnakhaaDoor.K
end TKx3
section TKx4
namespace Go.Proofs.YtjiokdkgbnakhaaDoor.Own
end Go.Proofs.YtjiokdkgbnakhaaDoor.Own
namespace Go.Proofs.YtjiokdkgbnakhaaDoor.K
open Go.RowKit Go.Proofs.YtjiokdkgbnakhaaDoorW.PrintWords Go.Proofs.YtjiokdkgbnakhaaDoorW.PrintLast Go.Proofs.YtjiokdkgbnakhaaDoorW.PrintMore Go.Proofs.YtjiokdkgbnakhaaDoor.Own
attribute [local go_sem] max2_int min2_int max_two min_two max_three min_three max_four min_four
set_option linter.unusedVariables false
set_option linter.unusedSimpArgs false
def arlinkref01_Text.f : Nat → Int → Int → Option (ByteArray)
  | 0, _, _ => none
  | k + 1, a0, a1 => if a1 = 0 then (none) else (if 0 ≤ (Int.tmod a0 a1) then (if (Int.tmod a0 a1) ≤ (wrap64 ((Int.tmod a0 a1) + 1)) then (if (wrap64 ((Int.tmod a0 a1) + 1)) ≤ 10 then (if a0 < a1 then (some ((⟨#[48, 49, 50, 51, 52, 53, 54, 55, 56, 57]⟩ : ByteArray).extract ((Int.tmod a0 a1) : Int).toNat ((wrap64 ((Int.tmod a0 a1) + 1)) : Int).toNat)) else ((arlinkref01_Text.f k (wrap64 (Int.tdiv a0 a1)) a1).bind fun t129 => (if t129.size + ((⟨#[48, 49, 50, 51, 52, 53, 54, 55, 56, 57]⟩ : ByteArray).extract ((Int.tmod a0 a1) : Int).toNat ((wrap64 ((Int.tmod a0 a1) + 1)) : Int).toNat).size ≤ 9223372036854775807 then (some (t129 ++ ((⟨#[48, 49, 50, 51, 52, 53, 54, 55, 56, 57]⟩ : ByteArray).extract ((Int.tmod a0 a1) : Int).toNat ((wrap64 ((Int.tmod a0 a1) + 1)) : Int).toNat))) else (none)))) else (none)) else (none)) else (none))
set_option maxHeartbeats 8000000 in
set_option maxRecDepth 100000 in
theorem arlinkref01_Text.calls (k : Nat) : ∀ (a0 : Int) (a1 : Int) (r : ByteArray) (w : World) (h : arlinkref01_Text.f k a0 a1 = some r),
    Calls Tryd.prog 19 #[.int .i64 a0, .int .i64 a1] w fun e w' => e = .returned (.string r) ∧ Drawn0 w w' := by
  induction k using Nat.strongRecOn with
  | _ k ih =>
  intro a0 a1 r w h
  cases k with
  | zero => exact absurd h (by simp [arlinkref01_Text.f])
  | succ k =>
  simp only [arlinkref01_Text.f] at h
  have H : (if a1 = 0 then (none) else (if 0 ≤ (Int.tmod a0 a1) then (if (Int.tmod a0 a1) ≤ (wrap64 ((Int.tmod a0 a1) + 1)) then (if (wrap64 ((Int.tmod a0 a1) + 1)) ≤ 10 then (if a0 < a1 then (some ((⟨#[48, 49, 50, 51, 52, 53, 54, 55, 56, 57]⟩ : ByteArray).extract ((Int.tmod a0 a1) : Int).toNat ((wrap64 ((Int.tmod a0 a1) + 1)) : Int).toNat)) else ((arlinkref01_Text.f k (wrap64 (Int.tdiv a0 a1)) a1).bind fun t129 => (if t129.size + ((⟨#[48, 49, 50, 51, 52, 53, 54, 55, 56, 57]⟩ : ByteArray).extract ((Int.tmod a0 a1) : Int).toNat ((wrap64 ((Int.tmod a0 a1) + 1)) : Int).toNat).size ≤ 9223372036854775807 then (some (t129 ++ ((⟨#[48, 49, 50, 51, 52, 53, 54, 55, 56, 57]⟩ : ByteArray).extract ((Int.tmod a0 a1) : Int).toNat ((wrap64 ((Int.tmod a0 a1) + 1)) : Int).toNat))) else (none)))) else (none)) else (none)) else (none))) = some r := h
  clear h
  by_cases c3 : a1 = 0
  · rw [if_pos c3] at H
    exact absurd H (by simp)
  · rw [if_neg c3] at H
    have c3b0 : (a1 == 0) = false := beq_eq_false_iff_ne.mpr c3
    have c3b1 : (a1 != 0) = true := bne_iff_ne.mpr c3
    obtain ⟨ji4, hji4⟩ : ∃ j_ : Int, (Int.tmod a0 a1) = j_ := ⟨_, rfl⟩
    replace H : (if 0 ≤ (ji4) then (if (ji4) ≤ (wrap64 ((ji4) + 1)) then (if (wrap64 ((ji4) + 1)) ≤ 10 then (if a0 < a1 then (some ((⟨#[48, 49, 50, 51, 52, 53, 54, 55, 56, 57]⟩ : ByteArray).extract ((ji4) : Int).toNat ((wrap64 ((ji4) + 1)) : Int).toNat)) else ((arlinkref01_Text.f k (wrap64 (Int.tdiv a0 a1)) a1).bind fun t129 => (if t129.size + ((⟨#[48, 49, 50, 51, 52, 53, 54, 55, 56, 57]⟩ : ByteArray).extract ((ji4) : Int).toNat ((wrap64 ((ji4) + 1)) : Int).toNat).size ≤ 9223372036854775807 then (some (t129 ++ ((⟨#[48, 49, 50, 51, 52, 53, 54, 55, 56, 57]⟩ : ByteArray).extract ((ji4) : Int).toNat ((wrap64 ((ji4) + 1)) : Int).toNat))) else (none)))) else (none)) else (none)) else (none)) = some r := by first | (rw [hji4] at H; exact H) | (simp only [hji4] at H ⊢; exact H)
    by_cases c5 : 0 ≤ (ji4)
    · rw [if_pos c5] at H
      have c5b0 := eq_true c5
      have c5b1 : decide (0 ≤ (ji4)) = true := decide_eq_true c5
      clear c5
      by_cases c6 : (ji4) ≤ (wrap64 ((ji4) + 1))
      · rw [if_pos c6] at H
        have c6b0 := eq_true c6
        have c6b1 : decide ((ji4) ≤ (wrap64 ((ji4) + 1))) = true := decide_eq_true c6
        by_cases c7 : (wrap64 ((ji4) + 1)) ≤ 10
        · rw [if_pos c7] at H
          have c7b0 := eq_true c7
          have c7b1 : decide ((wrap64 ((ji4) + 1)) ≤ 10) = true := decide_eq_true c7
          by_cases c8 : a0 < a1
          · rw [if_pos c8] at H
            have c8b0 : decide (a0 < a1) = true := decide_eq_true c8
            clear c8
            obtain rfl := Option.some.inj H
            go_enter Tryd.func19, Tryd.ntmps19
            go_wp2
            repeat (go_quiet (fail); try go_wp2)
            go_ret
            exact ⟨by first | rfl | (simp; done) | (simp only [← hji4] <;> (first | rfl | simp)) | (simp [*]; done), by repeat (first | exact Drawn0.refl _ | apply Drawn0.step)⟩
          · rw [if_neg c8] at H
            have c8b0 : decide (a0 < a1) = false := decide_eq_false c8
            clear c8
            replace H := Option.bind_eq_some_iff.mp H
            obtain ⟨t129, A90, H⟩ := H
            replace H : (if t129.size + ((⟨#[48, 49, 50, 51, 52, 53, 54, 55, 56, 57]⟩ : ByteArray).extract ((ji4) : Int).toNat ((wrap64 ((ji4) + 1)) : Int).toNat).size ≤ 9223372036854775807 then (some (t129 ++ ((⟨#[48, 49, 50, 51, 52, 53, 54, 55, 56, 57]⟩ : ByteArray).extract ((ji4) : Int).toNat ((wrap64 ((ji4) + 1)) : Int).toNat))) else (none)) = some r := H
            have A9 := Aside0.mk A90
            clear A90
            by_cases c10 : t129.size + ((⟨#[48, 49, 50, 51, 52, 53, 54, 55, 56, 57]⟩ : ByteArray).extract ((ji4) : Int).toNat ((wrap64 ((ji4) + 1)) : Int).toNat).size ≤ 9223372036854775807
            · rw [if_pos c10] at H
              have c10b0 := eq_true c10
              have c10b1 : decide (t129.size + ((⟨#[48, 49, 50, 51, 52, 53, 54, 55, 56, 57]⟩ : ByteArray).extract ((ji4) : Int).toNat ((wrap64 ((ji4) + 1)) : Int).toNat).size ≤ 9223372036854775807) = true := decide_eq_true c10
              try have c10b2 : (9223372036854775807 < t129.size + ((⟨#[48, 49, 50, 51, 52, 53, 54, 55, 56, 57]⟩ : ByteArray).extract ((ji4) : Int).toNat ((wrap64 ((ji4) + 1)) : Int).toNat).size) = False := eq_false (Nat.not_lt.2 c10)
              obtain rfl := Option.some.inj H
              go_enter Tryd.func19, Tryd.ntmps19
              go_wp2_with (first | (go_at_call 19; (with_reducible refine (ih k (by omega) (wrap64 (Int.tdiv a0 a1)) a1 t129 _ A9.out).mono ?_); rintro e w' ⟨rfl, ⟨nd, rfl⟩⟩; (try first | exact ⟨rfl, _, World.drewN_drewN _ _ _⟩ | exact ⟨rfl, _, Eq.trans (World.drewN_drewN _ _ _) (congrArg (World.drewN _) (Nat.add_assoc _ _ _))⟩)))
              repeat (go_quiet (first | (go_at_call 19; (with_reducible refine (ih k (by omega) (wrap64 (Int.tdiv a0 a1)) a1 t129 _ A9.out).mono ?_); rintro e w' ⟨rfl, ⟨nd, rfl⟩⟩; (try first | exact ⟨rfl, _, World.drewN_drewN _ _ _⟩ | exact ⟨rfl, _, Eq.trans (World.drewN_drewN _ _ _) (congrArg (World.drewN _) (Nat.add_assoc _ _ _))⟩))); try go_wp2_with (first | (go_at_call 19; (with_reducible refine (ih k (by omega) (wrap64 (Int.tdiv a0 a1)) a1 t129 _ A9.out).mono ?_); rintro e w' ⟨rfl, ⟨nd, rfl⟩⟩; (try first | exact ⟨rfl, _, World.drewN_drewN _ _ _⟩ | exact ⟨rfl, _, Eq.trans (World.drewN_drewN _ _ _) (congrArg (World.drewN _) (Nat.add_assoc _ _ _))⟩))))
              go_ret
              exact ⟨by first | rfl | (simp; done) | (simp only [← hji4] <;> (first | rfl | simp)) | (simp [*]; done), by repeat (first | exact Drawn0.refl _ | apply Drawn0.step)⟩
            · rw [if_neg c10] at H
              exact absurd H (by simp)
        · rw [if_neg c7] at H
          exact absurd H (by simp)
      · rw [if_neg c6] at H
        exact absurd H (by simp)
    · rw [if_neg c5] at H
      exact absurd H (by simp)
end Go.Proofs.YtjiokdkgbnakhaaDoor.K
end TKx4
section TKx8
namespace Go.Proofs.YtjiokdkgbnakhaaDoor.Own
end Go.Proofs.YtjiokdkgbnakhaaDoor.Own
namespace Go.Proofs.YtjiokdkgbnakhaaDoor.K
open Go.RowKit Go.Proofs.YtjiokdkgbnakhaaDoorW.PrintWords Go.Proofs.YtjiokdkgbnakhaaDoorW.PrintLast Go.Proofs.YtjiokdkgbnakhaaDoorW.PrintMore Go.Proofs.YtjiokdkgbnakhaaDoor.Own
attribute [local go_sem] max2_int min2_int max_two min_two max_three min_three max_four min_four
set_option linter.unusedVariables false
set_option linter.unusedSimpArgs false
end Go.Proofs.YtjiokdkgbnakhaaDoor.K
end TKx8
section TKx10
namespace Go.Proofs.YtjiokdkgbnakhaaDoor.Own
end Go.Proofs.YtjiokdkgbnakhaaDoor.Own
namespace Go.Proofs.YtjiokdkgbnakhaaDoor.K
open Go.RowKit Go.Proofs.YtjiokdkgbnakhaaDoorW.PrintWords Go.Proofs.YtjiokdkgbnakhaaDoorW.PrintLast Go.Proofs.YtjiokdkgbnakhaaDoorW.PrintMore Go.Proofs.YtjiokdkgbnakhaaDoor.Own
attribute [local go_sem] max2_int min2_int max_two min_two max_three min_three max_four min_four
set_option linter.unusedVariables false
set_option linter.unusedSimpArgs false
def arlinkref01_Add.f (l0 : List Int) (l1 : List Int) : Option (List Int) := (some (([] : List Int) : List Int)).bind fun y235 => (if y235.length + l0.length < 140737488355328 then ((some (y235 ++ l0 : List Int)).bind fun y238 => (if y238.length + l1.length < 140737488355328 then (some (y238 ++ l1)) else (none))) else (none))
set_option maxHeartbeats 8000000 in
set_option maxRecDepth 100000 in
theorem arlinkref01_Add.calls (A0 : Option Addr) (c0 : Nat) (l0 : List Int) (A1 : Option Addr) (c1 : Nat) (l1 : List Int) (r : List Int) (w : World) (hr0 : Kd.C (Kd.int .u8) w A0 l0.length l0) (hc0 : l0.length ≤ c0) (hr1 : Kd.C (Kd.int .u8) w A1 l1.length l1) (hc1 : l1.length ≤ c1) (h : arlinkref01_Add.f l0 l1 = some r) :
    Calls Tryd.prog 23 #[.slice A0 l0.length c0, .slice A1 l1.length c1] w fun e w' => ∃ v0_ : Value, e = .returned (v0_) ∧ Kd.R (Kd.int .u8) 5 w' w.heap.size (fun _ => True) v0_ r ∧ Below w.heap.size w w' := by
  have HR0 := Aside0.mk hr0
  have HC0 := Aside0.mk hc0
  clear hr0 hc0
  have HR1 := Aside0.mk hr1
  have HC1 := Aside0.mk hc1
  clear hr1 hc1
  have HB := Aside0.mk (Below.refl w.heap.size w)
  have H : ((some (([] : List Int) : List Int)).bind fun y235 => (if y235.length + l0.length < 140737488355328 then ((some (y235 ++ l0 : List Int)).bind fun y238 => (if y238.length + l1.length < 140737488355328 then (some (y238 ++ l1)) else (none))) else (none))) = some r := h
  clear h
  obtain ⟨y235, hy235⟩ : ∃ y_ : List Int, y_ = (([] : List Int)) := ⟨_, rfl⟩
  replace H : (if y235.length + l0.length < 140737488355328 then ((some (y235 ++ l0 : List Int)).bind fun y238 => (if y238.length + l1.length < 140737488355328 then (some (y238 ++ l1)) else (none))) else (none)) = some r := by first | (rw [hy235]; with_reducible exact H) | (have H2_ := (Option.bind_some _ _).symm.trans H; rw [hy235]; with_reducible exact H2_) | (have H2_ := (Option.bind_some _ _).symm.trans H; with_reducible exact H2_) | with_reducible exact H | (rw [hy235]; exact H) | exact H
  have Ny235 := Aside0.mk hy235
  clear hy235
  by_cases c3 : y235.length + l0.length < 140737488355328
  · rw [if_pos c3] at H
    have LMc3 := Aside0.mk c3
    clear c3
    obtain ⟨y238, hy238⟩ : ∃ y_ : List Int, y_ = (y235 ++ l0) := ⟨_, rfl⟩
    replace H : (if y238.length + l1.length < 140737488355328 then (some (y238 ++ l1)) else (none)) = some r := by first | (rw [hy238]; with_reducible exact H) | (have H2_ := (Option.bind_some _ _).symm.trans H; rw [hy238]; with_reducible exact H2_) | (have H2_ := (Option.bind_some _ _).symm.trans H; with_reducible exact H2_) | with_reducible exact H | (rw [hy238]; exact H) | exact H
    have Ny238 := Aside0.mk hy238
    clear hy238
    by_cases c4 : y238.length + l1.length < 140737488355328
    · rw [if_pos c4] at H
      have LMc4 := Aside0.mk c4
      clear c4
      obtain ⟨y241, hy241⟩ : ∃ y_ : List Int, y_ = (y238 ++ l1) := ⟨_, rfl⟩
      replace H : (some y241) = some r := by first | (rw [hy241]; with_reducible exact H) | (have H2_ := (Option.bind_some _ _).symm.trans H; rw [hy241]; with_reducible exact H2_) | (have H2_ := (Option.bind_some _ _).symm.trans H; with_reducible exact H2_) | with_reducible exact H | (rw [hy241]; exact H) | exact H
      have Ny241 := Aside0.mk hy241
      clear hy241
      obtain rfl := Option.some.inj H
      go_enter Tryd.func23, Tryd.ntmps23
      go_wp2_with (first | ((with_reducible refine gate_dst (N := 5) rfl ?_); refine Kd.R_lit (Kd.int .u8) _ 5 ?hg (N := 5) ?hd (xs := ([] : List Int)) (inner := []) (ok := fun _ => True) (okp := fun _ => True) ?hr ?hp (fun _ hk => hk) trivial (Below.refl _ _) (Nat.le_refl _) (by simp) ?_; (case hd => rfl); (case hg => rfl); (case hr => first | (go_simp; done) | (go_simp; rfl)); (case hp => exact (Reps.none _ _)); intro v236 w5 ho6 hb hg_ hnew_; clear hg_ hnew_; (first | rw [← Ny235.out] at ho6 | (simp only [Int.reduceToNat] at ho6; rw [← Ny235.out] at ho6)); have n0_ := Aside0.mk (Kd.R_lower ho6 (below_size (by repeat (first | (with_reducible first | exact HB.out | apply below_alloc | apply pw_below_drewN | apply below_drew1) | exact HB.out)))); have n1_ := Aside0.mk (below_step (by repeat (first | (with_reducible first | exact HB.out | apply below_alloc | apply pw_below_drewN | apply below_drew1) | exact HB.out)) hb); clear HB; have HO237 := n0_; have HB := n1_; clear n0_ n1_; clear hb ho6) | ((with_reducible refine gate_builtin (b := .append) (xs := #[.tmp 5, .tmp 6]) rfl ?_); at_builtin; refine Kd.R_append_rows (Kd.int .u8) (w0 := w) w.heap.size rfl (.tmp 5) (.tmp 6) 22 5 (.int .u8 0) 1 rfl Tryd.underlying22 info5 rfl (by decide) (by omega) v236 y235 l0 _ _ _ (fun _ => True) (fun _ => False) rfl rfl ?aO ?aR (fun _ _ h => h) (fun _ h => h.elim) ?aF ?aB ?aS ?aL ?_; (case aR => repeat (first | exact (Kd.C_below HR0.out HB.out) | (with_reducible refine Kd.C_alloc ?_ _) | (with_reducible refine Kd.C_drewN ?_ _) | (with_reducible refine Kd.C_drew ?_))); (case aB => exact (by repeat (first | (with_reducible first | exact HB.out | apply below_alloc | apply pw_below_drewN | apply below_drew1) | exact HB.out))); (case aF => exact (fun _ _ => trivial)); (case aO => exact (by (with_reducible repeat (first | apply Kd.R_alloc | apply Kd.R_drewN | apply Kd.R_drew)); exact HO237.out)); (case aS => exact (below_size (by repeat (first | (with_reducible first | exact HB.out | apply below_alloc | apply pw_below_drewN | apply below_drew1) | exact HB.out)))); (case aL => have := LMc3.out; omega); intro v239 w7 ho hb hg hat; rw [← Ny238.out] at ho; have n0_ := Aside0.mk (hb); have n1_ := Aside0.mk (ho); clear HB; clear HO237; have HB := n0_; have HO240 := n1_; clear n0_ n1_; clear ho hb hg hat) | ((with_reducible refine gate_builtin (b := .append) (xs := #[.tmp 7, .tmp 8]) rfl ?_); at_builtin; refine Kd.R_append_rows (Kd.int .u8) (w0 := w) w.heap.size rfl (.tmp 7) (.tmp 8) 22 5 (.int .u8 0) 1 rfl Tryd.underlying22 info5 rfl (by decide) (by omega) v239 y238 l1 _ _ _ (fun _ => True) (fun _ => False) rfl rfl ?aO ?aR (fun _ _ h => h) (fun _ h => h.elim) ?aF ?aB ?aS ?aL ?_; (case aR => repeat (first | exact (Kd.C_below HR1.out HB.out) | (with_reducible refine Kd.C_alloc ?_ _) | (with_reducible refine Kd.C_drewN ?_ _) | (with_reducible refine Kd.C_drew ?_))); (case aB => exact (by repeat (first | (with_reducible first | exact HB.out | apply below_alloc | apply pw_below_drewN | apply below_drew1) | exact HB.out))); (case aF => exact (fun _ _ => trivial)); (case aO => exact (by (with_reducible repeat (first | apply Kd.R_alloc | apply Kd.R_drewN | apply Kd.R_drew)); exact HO240.out)); (case aS => exact (below_size (by repeat (first | (with_reducible first | exact HB.out | apply below_alloc | apply pw_below_drewN | apply below_drew1) | exact HB.out)))); (case aL => have := LMc4.out; omega); intro v242 w8 ho hb hg hat; rw [← Ny241.out] at ho; have n0_ := Aside0.mk (hb); have n1_ := Aside0.mk (ho); clear HB; clear HO240; have HB := n0_; have HO243 := n1_; clear n0_ n1_; clear ho hb hg hat))
      go_ret
      exact ⟨_, by first | rfl | (simp [errW_none, errW_some] <;> rfl) | (simp [*, errW_none, errW_some] <;> rfl), by (with_reducible repeat (first | apply Kd.R_alloc | apply Kd.R_drewN | apply Kd.R_drew)); exact HO243.out, by repeat (first | (with_reducible first | exact HB.out | apply below_alloc | apply pw_below_drewN | apply below_drew1) | exact HB.out)⟩
    · rw [if_neg c4] at H
      exact absurd H (by simp)
  · rw [if_neg c3] at H
    exact absurd H (by simp)
end Go.Proofs.YtjiokdkgbnakhaaDoor.K
end TKx10
section TSpec
set_option linter.unusedVariables false
set_option linter.unusedSimpArgs false
namespace Go.Proofs.YtjiokdkgbnakhaaDoor.Own
open Go.RowKit Go.Proofs.YtjiokdkgbnakhaaDoor Go.Proofs.YtjiokdkgbnakhaaDoorW.PrintWords Go.Proofs.YtjiokdkgbnakhaaDoorW.PrintLast Go.Proofs.YtjiokdkgbnakhaaDoorW.PrintMore
theorem wrap_up {n : Nat} (h : n < 9223372036854775807) : wrap64 ((n : Int) + 1) = ((n + 1 : Nat) : Int) := by unfold wrap64; omega
theorem rd_nat (xs : List Int) (i : Nat) (h : i < xs.length) : rd xs (i : Int) = xs[i] := by simp [rd, List.getD_eq_getElem?_getD, h]
theorem same_loop (a b : List Int) (hab : a.length = b.length) (hs : a.length < 9223372036854775807) : ∀ d i, a.length = i + d → Ev (fun k => K.arlinkref01_Same.l0 k a b (i : Int)) (decide (a.drop i = b.drop i))
  | 0, i, h => by
    refine Ev.step (f := fun _ => some (decide (a.drop i = b.drop i))) (fun k => ?_) (Ev.now _)
    rw [K.arlinkref01_Same.l0, if_neg (by omega), List.drop_eq_nil_of_le (by omega), List.drop_eq_nil_of_le (by omega)]; rfl
  | d + 1, i, h => by
    have ha : i < a.length := by omega
    have hb : i < b.length := by omega
    have ih := same_loop a b hab hs d (i + 1) (by omega)
    have hd : (a.drop i = b.drop i) ↔ (a[i] = b[i] ∧ a.drop (i + 1) = b.drop (i + 1)) := by
      rw [List.drop_eq_getElem_cons ha, List.drop_eq_getElem_cons hb]; exact List.cons_eq_cons
    by_cases he : a[i] = b[i]
    · refine Ev.step (f := fun k => K.arlinkref01_Same.l0 k a b ((i + 1 : Nat) : Int)) (fun k => ?_) ?_
      · rw [K.arlinkref01_Same.l0, if_pos (by omega), if_pos (by omega), if_pos (by omega), if_pos (by rw [rd_nat _ _ ha, rd_nat _ _ hb]; exact he), wrap_up (by omega)]
      · rw [show decide (a.drop i = b.drop i) = decide (a.drop (i + 1) = b.drop (i + 1)) from decide_eq_decide.2 (by rw [hd]; simp [he])]
        exact ih
    · refine Ev.step (f := fun _ => some (decide (a.drop i = b.drop i))) (fun k => ?_) (Ev.now _)
      rw [K.arlinkref01_Same.l0, if_pos (by omega), if_pos (by omega), if_pos (by omega), if_neg (by rw [rd_nat _ _ ha, rd_nat _ _ hb]; exact he), decide_eq_false (by rw [hd]; simp [he])]
theorem same_ev (a b : List Int) (hs : a.length < 9223372036854775807) : Ev (fun k => K.arlinkref01_Same.f k a b) (decide (a = b)) := by
  by_cases h : a.length = b.length
  · refine Ev.congr (f := fun k => K.arlinkref01_Same.l0 k a b ((0 : Nat) : Int)) (fun k => ?_) ?_
    · unfold K.arlinkref01_Same.f
      rw [if_pos (by omega)]; rfl
    · have := same_loop a b h hs a.length 0 (by omega)
      simpa using this
  · refine Ev.congr (f := fun k => some (decide (a = b))) (fun k => ?_) (Ev.now _)
    unfold K.arlinkref01_Same.f
    rw [if_neg (by omega), decide_eq_false (fun e => h (by rw [e]))]
theorem containsAny_any (chars : List UInt8) : ∀ s : List UInt8, Lib.containsAny s chars = s.any fun b => chars.contains b
  | [] => rfl
  | b :: l => by
    have ih := containsAny_any chars l
    have hge := Lib.indexAny_ge chars l
    unfold Lib.containsAny at ih ⊢
    rw [Lib.indexAny, List.any_cons]
    cases hb : chars.contains b with
    | true => rfl
    | false =>
      rw [Bool.false_or, ← ih, if_neg Bool.false_ne_true]
      by_cases h1 : Lib.indexAny l chars = -1
      · rw [h1]; rfl
      · have : ¬ ((Lib.indexAny l chars == -1) = true) := fun e => h1 (beq_iff_eq.1 e)
        rw [if_neg this]
        exact decide_eq_decide.2 (by omega)
end Go.Proofs.YtjiokdkgbnakhaaDoor.Own
end TSpec
section TTab
set_option linter.unusedVariables false
set_option linter.unusedSimpArgs false
namespace Go.Proofs.YtjiokdkgbnakhaaDoor.Own
open Go.RowKit Go.Proofs.YtjiokdkgbnakhaaDoor Go.Proofs.YtjiokdkgbnakhaaDoorW.PrintWords Go.Proofs.YtjiokdkgbnakhaaDoorW.PrintLast Go.Proofs.YtjiokdkgbnakhaaDoorW.PrintMore
def Byt (l : List Int) : Prop := ∀ x ∈ l, 0 ≤ x ∧ x < 256
theorem Byt.of {l : List Int} (h : isBytes l = true) : Byt l := isBytes_iff h
theorem Byt.to {l : List Int} (h : Byt l) : isBytes l = true := List.all_eq_true.2 fun x hx => by simpa using h x hx
theorem Byt.drop {l : List Int} (h : Byt l) (n : Nat) : Byt (l.drop n) := fun y hy => h y (List.mem_of_mem_drop hy)
theorem Byt.take {l : List Int} (h : Byt l) (n : Nat) : Byt (l.take n) := fun y hy => h y (List.mem_of_mem_take hy)
theorem bytesOf_strOf {l : List Int} (h : Byt l) : bytesOf (strOfNums l) = l := by
  unfold bytesOf strOfNums
  rw [List.map_map]
  refine (List.map_congr_left fun x hx => ?_).trans (List.map_id l)
  have := h x hx
  show (((UInt8.ofNat x.toNat).toNat : Nat) : Int) = x
  rw [UInt8.toNat_ofNat', Nat.mod_eq_of_lt (by omega)]; omega
end Go.Proofs.YtjiokdkgbnakhaaDoor.Own
end TTab
section TRow
set_option linter.unusedVariables false
set_option linter.unusedSimpArgs false
namespace Go.Proofs.YtjiokdkgbnakhaaDoor.Own
open Go.ChangeShapes Go.WideShapes Go.ChangeAt Go.RowKit Go.Proofs.YtjiokdkgbnakhaaDoor Go.Proofs.YtjiokdkgbnakhaaDoorW.PrintWords Go.Proofs.YtjiokdkgbnakhaaDoorW.PrintLast Go.Proofs.YtjiokdkgbnakhaaDoorW.PrintMore
theorem ownKnob_none : ownKnob Tryd.prog.godebug = none := by kernel_rfl
theorem laidOut : laidOutB Tryd.prog = true := by kernel_rfl
section
variable {H : Type} {enc : TypeId × Value → H}
theorem open_bytes {W : World} {a : Option Addr} {len cap : Nat} {d : DataW H} {ps : List MemPlace} (h : DataW.Trod enc Tryd.prog W 0 (fun _ => true) true 22 (.slice a len cap) d ps) :
    ∃ l : List Int, len = l.length ∧ (Kd.int .u8).C W a l.length l ∧ l.length ≤ cap ∧ Byt l := by
  obtain ⟨fuel, hf⟩ := h
  have hrow : ∃ zs, (a = none ∧ len = 0 ∧ cap = 0 ∧ zs = []) ∨ ∃ x, a = some x ∧ len ≤ cap ∧ cap ≤ maxLen ∧ zs.length = cap ∧ (∀ i, i < zs.length → W.cell? (x.add i) = some (.int .u8 (zs.getD i 0))) ∧ ∀ n ∈ zs, (Lit.int .u8 n).wf = true := by
    rcases open_ints Tryd.underlying22 Tryd.underlying5 (by kernel_rfl) hf with ⟨hcs, _⟩ | ⟨x, l, c, zs, hcs, _, hl, hm, hz, _, hcell, hwz⟩
    · simp [Value.cells] at hcs
      obtain ⟨rfl, rfl, rfl⟩ := hcs
      exact ⟨[], .inl ⟨rfl, rfl, rfl, rfl⟩⟩
    · simp [Value.cells] at hcs
      obtain ⟨rfl, rfl, rfl⟩ := hcs
      exact ⟨zs, .inr ⟨_, rfl, hl, hm, by simpa using hz, hcell, hwz⟩⟩
  obtain ⟨zs, hz⟩ := hrow
  obtain ⟨l, e, h1, h2, h3, h4⟩ := ReadsInt.ofRowC hz
  refine ⟨l, e, Kd.C_of_reads (d := (0 : Int)) (h1 := fun _ => rfl) h1, h4, fun x hx => ?_⟩
  have := h3 x hx
  simp [Lit.wf, IntKind.min, IntKind.max, IntKind.signed, IntKind.bits] at this
  omega
theorem returns_laid {a : Assume} {C : Checked} {os : Os} {f : FuncId} {fn : Func} {s : ChangeSpec} {conds : List PathCond} {apart fresh handsOn again : Bool} {X : World → Array Value → Prop}
    (hX : ∀ (w w' : World) (args : Array Value), w.heap = w'.heap → X w args → X w' args)
    (own : ownKnob C.prog.godebug = none) (started : os.Started) (noInit : C.prog.inits.idxOf? f = none) (hfn : C.prog.funcs[f]? = some fn)
    (witness : ∃ (w : World) (tape : Tape) (i : Input), w.os = os ∧ (w.forCall tape i).Shaped C.prog ∧ i.vars = [] ∧ Input.okWide C.prog (w.forCall tape i) .any w.heap.size f i ∧
      ((s.pre enc C.prog fn conds apart (w.forCall tape i).memory i.args ∧ X (w.forCall tape i).memory i.args) ∧ sizedMet enc C.prog fn (OpenSpec.ofChange s) apart (w.forCall tape i).memory i.args) ∧ a.holds C.prog (lone (Frame.enter C.prog f i.args .normal) [] (w.forCall tape i)))
    (contract : ∀ (W : World) (base : Nat) (args : Array Value) (ds gs : List (DataW H)) (before : List MemPlace),
      (∀ (j : Nat) t v, fn.params[j]? = some t → args[j]? = some v → Value.okWide C.prog W .any base t v) →
      DataW.Whole enc C.prog fn.params.toList s.vars apart W args.toList ds gs before →
      (DataW.weightsEach C.prog (fn.params.toList ++ s.plain.varTypes C.prog) (ds ++ gs)).all (· ≤ reachBytes) = true → X W args → W.ShapedOpen C.prog →
      Calls C.prog f args W fun e W' => ∃ v, e = .returned v ∧ s.post enc C.prog fn apart fresh handsOn again W args v W') :
    ReturnsInHanded a C os f .any (fun w args => (s.pre enc C.prog fn conds apart w args ∧ X w args) ∧ sizedMet enc C.prog fn (OpenSpec.ofChange s) apart w args) (s.post enc C.prog fn apart fresh handsOn again) := by
  refine returnsInHanded_of_calls own started noInit witness ?_
  intro w tape i _ hsh _ hok hpre hholds
  obtain ⟨_, _, _, fn', hfn', _, _, _, _, hval⟩ := hok
  have e : fn' = fn := Option.some.inj (hfn'.symm.trans hfn)
  subst e
  obtain ⟨⟨⟨ds, gs, before, hw, hc⟩, hx⟩, hz⟩ := hpre
  have hw' := DataW.Whole.of_heap (w' := w.forCall tape i) (by rfl) hw
  refine (contract (w.forCall tape i) w.heap.size i.args ds gs before hval hw' (hz.weights hw) (hX _ _ _ (by rfl) hx) hsh).mono fun e W' ⟨v, he, hp⟩ => ?_
  subst he
  exact ChangeSpec.post_blind hp
end
theorem maxlen_of_shaped {w : World} (h : w.ShapedOpen Tryd.prog) : Gmaxlen w := Tryd.laysM185.s1_3 w h
end Go.Proofs.YtjiokdkgbnakhaaDoor.Own
end TRow
section TKx26
namespace Go.Proofs.YtjiokdkgbnakhaaDoor.Own
end Go.Proofs.YtjiokdkgbnakhaaDoor.Own
namespace Go.Proofs.YtjiokdkgbnakhaaDoor.K
open Go.RowKit Go.Proofs.YtjiokdkgbnakhaaDoorW.PrintWords Go.Proofs.YtjiokdkgbnakhaaDoorW.PrintLast Go.Proofs.YtjiokdkgbnakhaaDoorW.PrintMore Go.Proofs.YtjiokdkgbnakhaaDoor.Own
attribute [local go_sem] max2_int min2_int max_two min_two max_three min_three max_four min_four
set_option linter.unusedVariables false
set_option linter.unusedSimpArgs false
def decfield_Blank.l0 : Nat → List Int → Int → Int → Option (Bool)
  | 0, _, _, _ => none
  | k + 1, x5, x6, x7 => if x7 < x6 then (if 0 ≤ x7 then (if x7 < (x5.length : Int) then (if (rd x5 x7) = 32 then (decfield_Blank.l0 k x5 x6 (wrap64 (x7 + 1))) else (some false)) else (none)) else (none)) else (some true)
def decfield_Blank.f (k : Nat) (l0 : List Int) : Option (Bool) := decfield_Blank.l0 k l0 (l0.length : Int) 0
set_option maxHeartbeats 8000000 in
set_option maxRecDepth 100000 in
theorem decfield_Blank.calls (k : Nat) (A0 : Option Addr) (c0 : Nat) (l0 : List Int) (r : Bool) (w : World) (hr0 : Kd.C (Kd.int .u8) w A0 l0.length l0) (hc0 : l0.length ≤ c0) (h : decfield_Blank.f k l0 = some r) :
    Calls Tryd.prog 62 #[.slice A0 l0.length c0] w fun e w' => e = .returned (.bool r) ∧ Drawn0 w w' := by
  have HR0 := Aside0.mk hr0
  have HC0 := Aside0.mk hc0
  clear hr0 hc0
  have H : (decfield_Blank.l0 k l0 (l0.length : Int) 0) = some r := h
  clear h
  have H' := Aside0.mk H
  clear H
  go_enter Tryd.func62, Tryd.ntmps62
  go_wp2
  go_loopg [7] k (fun kq v7 w' => ∃ (x7_1 : Int), v7 = .int .i64 x7_1 ∧ Aside0 (decfield_Blank.l0 kq l0 (l0.length : Int) x7_1 = some r) ∧ Aside0 (kq ≤ k) ∧ Drawn0 w w')
  case atStart => exact ⟨(0), (by first | rfl | (simp; done) | (simp [*]; done)), H', ⟨Nat.le_refl _⟩, by repeat (first | exact Drawn0.refl _ | apply Drawn0.step)⟩
  case round =>
    clear H'
    obtain ⟨x7_1, rfl, HA, HK1, ⟨m1, rfl⟩⟩ := hrel
    cases gk with
    | zero => exact absurd HA.out (by simp [decfield_Blank.l0])
    | succ k1 =>
      have H := HA.out
      clear HA
      simp only [decfield_Blank.l0] at H
      by_cases c2 : x7_1 < (l0.length : Int)
      · rw [if_pos c2] at H
        have c2b0 : decide (x7_1 < (l0.length : Int)) = true := decide_eq_true c2
        clear c2
        by_cases c3 : 0 ≤ x7_1
        · rw [if_pos c3] at H
          have c3b0 : decide (0 ≤ x7_1) = true := decide_eq_true c3
          clear c3
          by_cases c4 : x7_1 < (l0.length : Int)
          · rw [if_pos c4] at H
            have c4b0 : decide (x7_1 < (l0.length : Int)) = true := decide_eq_true c4
            clear c4
            by_cases c5 : (rd l0 x7_1) = 32
            · rw [if_pos c5] at H
              have c5b0 : ((rd l0 x7_1) == 32) = true := beq_iff_eq.mpr c5
              have c5b1 : ((rd l0 x7_1) != 32) = false := bne_eq_false_iff_eq.mpr c5
              clear c5
              have H' := Aside0.mk H
              clear H
              have p655 : 0 ≤ (x7_1 : Int) := of_decide_eq_true (by first | (with_reducible assumption) | assumption)
              have q655 : x7_1 < (l0.length : Int) := of_decide_eq_true (by first | (with_reducible assumption) | assumption)
              obtain ⟨ad655, e655, hx655_0⟩ := Kd.at_int HR0.out x7_1 p655 q655
              cases e655
              replace p655 := eq_true p655
              replace q655 := eq_true q655
              go_wp2
              go_roundg k1
              case measure => have := HK1.out; omega
              case rel => exact ⟨(wrap64 (x7_1 + 1)), (by first | rfl | (simp; done) | (simp [*]; done)), H', ⟨by have := HK1.out; omega⟩, by repeat (first | exact Drawn0.refl _ | apply Drawn0.step)⟩
            · rw [if_neg c5] at H
              have c5b0 : ((rd l0 x7_1) == 32) = false := beq_eq_false_iff_ne.mpr c5
              have c5b1 : ((rd l0 x7_1) != 32) = true := bne_iff_ne.mpr c5
              obtain rfl := Option.some.inj H
              have p655 : 0 ≤ (x7_1 : Int) := of_decide_eq_true (by first | (with_reducible assumption) | assumption)
              have q655 : x7_1 < (l0.length : Int) := of_decide_eq_true (by first | (with_reducible assumption) | assumption)
              obtain ⟨ad655, e655, hx655_0⟩ := Kd.at_int HR0.out x7_1 p655 q655
              cases e655
              replace p655 := eq_true p655
              replace q655 := eq_true q655
              go_wp2
              go_ret
              exact ⟨by first | rfl | (simp; done) | (simp [*]; done), by repeat (first | exact Drawn0.refl _ | apply Drawn0.step)⟩
          · rw [if_neg c4] at H
            exact absurd H (by simp)
        · rw [if_neg c3] at H
          exact absurd H (by simp)
      · rw [if_neg c2] at H
        have c2b0 : decide (x7_1 < (l0.length : Int)) = false := decide_eq_false c2
        clear c2
        obtain rfl := Option.some.inj H
        go_wp2
        go_ret
        exact ⟨by first | rfl | (simp; done) | (simp [*]; done), by repeat (first | exact Drawn0.refl _ | apply Drawn0.step)⟩
def decfield_based.f (a0 : Int) : Option (Bool) := if a0 = 8 then (some true) else (some (a0 == 10))
set_option maxHeartbeats 8000000 in
set_option maxRecDepth 100000 in
theorem decfield_based.calls (a0 : Int) (r : Bool) (w : World) (h : decfield_based.f a0 = some r) :
    Calls Tryd.prog 61 #[.int .i64 a0] w fun e w' => e = .returned (.bool r) ∧ Drawn0 w w' := by
  have H : (if a0 = 8 then (some true) else (some (a0 == 10))) = some r := h
  clear h
  by_cases c2 : a0 = 8
  · rw [if_pos c2] at H
    have c2b0 : (a0 == 8) = true := beq_iff_eq.mpr c2
    have c2b1 : (a0 != 8) = false := bne_eq_false_iff_eq.mpr c2
    clear c2
    obtain rfl := Option.some.inj H
    go_enter Tryd.func61, Tryd.ntmps61
    go_wp2
    go_ret
    exact ⟨by first | rfl | (simp; done) | (simp [*]; done), by repeat (first | exact Drawn0.refl _ | apply Drawn0.step)⟩
  · rw [if_neg c2] at H
    have c2b0 : (a0 == 8) = false := beq_eq_false_iff_ne.mpr c2
    have c2b1 : (a0 != 8) = true := bne_iff_ne.mpr c2
    obtain rfl := Option.some.inj H
    go_enter Tryd.func61, Tryd.ntmps61
    go_wp2
    go_ret
    exact ⟨by first | rfl | (simp; done) | (simp [*]; done), by repeat (first | exact Drawn0.refl _ | apply Drawn0.step)⟩
def header_fits.f (a0 : ByteArray) : Option (Bool) := if (a0.size : Int) ≥ 1 then (if (a0.size : Int) ≤ 16 then ((strings_ContainsAny.f a0 (⟨#[10, 0]⟩ : ByteArray)).bind fun t656 => (if t656 = true then (some false) else (if 0 ≤ (wrap64 ((a0.size : Int) - 1)) then (if (wrap64 ((a0.size : Int) - 1)) < (a0.size : Int) then (some ((bt a0 (wrap64 ((a0.size : Int) - 1))) != 32)) else (none)) else (none)))) else (some false)) else (some false)
set_option maxHeartbeats 8000000 in
set_option maxRecDepth 100000 in
theorem header_fits.calls (a0 : ByteArray) (r : Bool) (w : World) (h : header_fits.f a0 = some r) :
    Calls Tryd.prog 95 #[.string a0] w fun e w' => e = .returned (.bool r) ∧ Below w.heap.size w w' := by
  have HB := Aside0.mk (Below.refl w.heap.size w)
  have H : (if (a0.size : Int) ≥ 1 then (if (a0.size : Int) ≤ 16 then ((strings_ContainsAny.f a0 (⟨#[10, 0]⟩ : ByteArray)).bind fun t656 => (if t656 = true then (some false) else (if 0 ≤ (wrap64 ((a0.size : Int) - 1)) then (if (wrap64 ((a0.size : Int) - 1)) < (a0.size : Int) then (some ((bt a0 (wrap64 ((a0.size : Int) - 1))) != 32)) else (none)) else (none)))) else (some false)) else (some false)) = some r := h
  clear h
  by_cases c2 : (a0.size : Int) ≥ 1
  · rw [if_pos c2] at H
    have c2b0 : decide (1 ≤ (a0.size : Int)) = true := decide_eq_true c2
    have c2b1 : decide (1 ≤ a0.size) = true := decide_eq_true (by omega)
    clear c2
    by_cases c3 : (a0.size : Int) ≤ 16
    · rw [if_pos c3] at H
      have c3b0 : decide ((a0.size : Int) ≤ 16) = true := decide_eq_true c3
      have c3b1 : decide (a0.size ≤ 16) = true := decide_eq_true (by omega)
      clear c3
      replace H := Option.bind_eq_some_iff.mp H
      obtain ⟨t656, A40, H⟩ := H
      replace H : (if t656 = true then (some false) else (if 0 ≤ (wrap64 ((a0.size : Int) - 1)) then (if (wrap64 ((a0.size : Int) - 1)) < (a0.size : Int) then (some ((bt a0 (wrap64 ((a0.size : Int) - 1))) != 32)) else (none)) else (none))) = some r := H
      have A4 := Aside0.mk A40
      clear A40
      by_cases c5 : t656 = true
      · subst c5
        have H1 : (some false) = some r := by rw [if_pos rfl] at H; exact H
        clear H
        have H := H1
        clear H1
        obtain rfl := Option.some.inj H
        go_enter Tryd.func95, Tryd.ntmps95
        go_wp2_with (first | (go_at_call 55; (with_reducible refine (strings_ContainsAny.calls a0 (⟨#[10, 0]⟩ : ByteArray) true _ A4.out).mono ?_); rintro e w6 ⟨rfl, hb⟩; have n0_ := Aside0.mk (below_step (by repeat (first | (with_reducible first | exact HB.out | apply below_alloc | apply pw_below_drewN | apply below_drew1) | exact HB.out)) hb); clear HB; have HB := n0_; clear n0_; (try clear hb); (try clear hb2); (try clear hk); (try clear hi)))
        go_ret
        exact ⟨by first | rfl | (simp [errW_none, errW_some] <;> rfl) | (simp [*, errW_none, errW_some] <;> rfl), by repeat (first | (with_reducible first | exact HB.out | apply below_alloc | apply pw_below_drewN | apply below_drew1) | exact HB.out)⟩
      · replace c5 := Bool.eq_false_iff.mpr c5
        subst c5
        have H1 : (if 0 ≤ (wrap64 ((a0.size : Int) - 1)) then (if (wrap64 ((a0.size : Int) - 1)) < (a0.size : Int) then (some ((bt a0 (wrap64 ((a0.size : Int) - 1))) != 32)) else (none)) else (none)) = some r := by rw [if_neg (show ¬ (false = true) by decide)] at H; exact H
        clear H
        have H := H1
        clear H1
        obtain ⟨ji7, hji7⟩ : ∃ j_ : Int, (wrap64 ((a0.size : Int) - 1)) = j_ := ⟨_, rfl⟩
        replace H : (if 0 ≤ (ji7) then (if (ji7) < (a0.size : Int) then (some ((bt a0 (ji7)) != 32)) else (none)) else (none)) = some r := by first | (rw [hji7] at H; exact H) | (simp only [hji7] at H ⊢; exact H)
        (try rw [hji7] at A4)
        have hji7w : (IntKind.i64.wrap ((a0.size : Int) - 1)) = ji7 := (i64_w _).trans hji7
        by_cases c8 : 0 ≤ (ji7)
        · rw [if_pos c8] at H
          have c8b0 : decide (0 ≤ (ji7)) = true := decide_eq_true c8
          clear c8
          by_cases c9 : (ji7) < (a0.size : Int)
          · rw [if_pos c9] at H
            have c9b0 : decide ((ji7) < (a0.size : Int)) = true := decide_eq_true c9
            clear c9
            obtain rfl := Option.some.inj H
            go_enter Tryd.func95, Tryd.ntmps95
            go_wp2_with (first | (go_at_call 55; (with_reducible refine (strings_ContainsAny.calls a0 (⟨#[10, 0]⟩ : ByteArray) false _ A4.out).mono ?_); rintro e w11 ⟨rfl, hb⟩; have n0_ := Aside0.mk (below_step (by repeat (first | (with_reducible first | exact HB.out | apply below_alloc | apply pw_below_drewN | apply below_drew1) | exact HB.out)) hb); clear HB; have HB := n0_; clear n0_; (try clear hb); (try clear hb2); (try clear hk); (try clear hi); have p10 : 0 ≤ ((ji7) : Int) := of_decide_eq_true (by first | (with_reducible assumption) | assumption); have q10 : (ji7) < (a0.size : Int) := of_decide_eq_true (by first | (with_reducible assumption) | assumption); have hx10 := bt_at a0 (ji7); replace p10 := eq_true p10; replace q10 := eq_true q10))
            go_ret
            exact ⟨by first | rfl | (simp [errW_none, errW_some] <;> rfl) | (simp only [← hji7]; first | rfl | (simp [errW_none, errW_some] <;> rfl)) | (simp [*, errW_none, errW_some] <;> rfl), by repeat (first | (with_reducible first | exact HB.out | apply below_alloc | apply pw_below_drewN | apply below_drew1) | exact HB.out)⟩
          · rw [if_neg c9] at H
            exact absurd H (by simp)
        · rw [if_neg c8] at H
          exact absurd H (by simp)
    · rw [if_neg c3] at H
      have c3b0 : decide ((a0.size : Int) ≤ 16) = false := decide_eq_false c3
      have c3b1 : decide (a0.size ≤ 16) = false := decide_eq_false (by omega)
      clear c3
      obtain rfl := Option.some.inj H
      go_enter Tryd.func95, Tryd.ntmps95
      go_wp2
      go_ret
      exact ⟨by first | rfl | (simp [errW_none, errW_some] <;> rfl) | (simp [*, errW_none, errW_some] <;> rfl), by repeat (first | (with_reducible first | exact HB.out | apply below_alloc | apply pw_below_drewN | apply below_drew1) | exact HB.out)⟩
  · rw [if_neg c2] at H
    have c2b0 : decide (1 ≤ (a0.size : Int)) = false := decide_eq_false c2
    have c2b1 : decide (1 ≤ a0.size) = false := decide_eq_false (by omega)
    clear c2
    obtain rfl := Option.some.inj H
    go_enter Tryd.func95, Tryd.ntmps95
    go_wp2
    go_ret
    exact ⟨by first | rfl | (simp [errW_none, errW_some] <;> rfl) | (simp [*, errW_none, errW_some] <;> rfl), by repeat (first | (with_reducible first | exact HB.out | apply below_alloc | apply pw_below_drewN | apply below_drew1) | exact HB.out)⟩
end Go.Proofs.YtjiokdkgbnakhaaDoor.K
end TKx26
section TDecP
set_option linter.unusedVariables false
set_option linter.unusedSimpArgs false
namespace Go.Proofs.YtjiokdkgbnakhaaDoor.Own
open Go.RowKit Go.Proofs.YtjiokdkgbnakhaaDoor Go.Proofs.YtjiokdkgbnakhaaDoorW.PrintWords Go.Proofs.YtjiokdkgbnakhaaDoorW.PrintLast Go.Proofs.YtjiokdkgbnakhaaDoorW.PrintMore
def isDig (base : Int) (c : Int) : Bool := decide (48 ≤ c) && decide (c - 48 < base)
def numF (base : Int) (l : List Int) : Int := l.foldl (fun n c => n * base + (c - 48)) 0
theorem numF_snoc (base : Int) (l : List Int) (c : Int) : numF base (l ++ [c]) = numF base l * base + (c - 48) := by simp [numF]
theorem numF_le (base : Int) (hb : base = 8 ∨ base = 10) : ∀ (n : Nat) (l : List Int), l.length = n → l.all (isDig base) = true → 0 ≤ numF base l ∧ numF base l < 10 ^ n := by
  intro n
  induction n with
  | zero =>
    intro l hl _
    obtain rfl := List.eq_nil_of_length_eq_zero hl
    simp [numF]
  | succ n ih =>
    intro l hl ha
    rcases List.eq_nil_or_concat l with rfl | ⟨t, c, rfl⟩
    · simp at hl
    · rw [List.concat_eq_append] at hl ha ⊢
      simp only [List.length_append, List.length_singleton] at hl
      rw [List.all_append] at ha
      simp only [List.all_cons, List.all_nil, Bool.and_true, Bool.and_eq_true, isDig, decide_eq_true_eq] at ha
      obtain ⟨h0, h1⟩ := ih t (by omega) (by simpa [isDig] using ha.1)
      rw [numF_snoc, Int.pow_succ]
      obtain ⟨hc1, hc2⟩ := ha.2
      rcases hb with rfl | rfl <;> omega
def parseJ (xs : List Int) (base : Int) (j : Nat) : Int × Int := if j = 0 ∨ (1 < j ∧ xs.getD 0 0 = 48) ∨ (xs.drop j).all (fun c => decide (c = 32)) = false then (0, 3) else (numF base (xs.take j), 0)
def parseV (xs : List Int) (base : Int) : Int × Int :=
  if xs.length < 1 ∨ 18 < xs.length then (0, 13) else
  if (xs.takeWhile (fun c => decide (c ≠ 32))).all (isDig base) = true then parseJ xs base (xs.takeWhile (fun c => decide (c ≠ 32))).length else (0, 3)
theorem dig_ne {base c : Int} (h : isDig base c = true) : decide (c ≠ 32) = true := by
  simp only [isDig, Bool.and_eq_true, decide_eq_true_eq] at h
  simp only [decide_eq_true_eq]
  omega
theorem takeWhile_at (base : Int) : ∀ (xs : List Int) (k : Nat), (xs.take k).all (isDig base) = true → k ≤ xs.length → (k = xs.length ∨ xs.getD k 0 = 32) → xs.takeWhile (fun c => decide (c ≠ 32)) = xs.take k := by
  intro xs
  induction xs with
  | nil => intro k _ hk _; simp
  | cons x t ih =>
    intro k ha hk he
    cases k with
    | zero =>
      rcases he with he | he
      · simp at he
      · simp only [List.getD_cons_zero] at he
        subst he
        simp
    | succ k =>
      simp only [List.take_succ_cons, List.all_cons, Bool.and_eq_true] at ha
      simp only [List.length_cons, List.getD_cons_succ] at hk he
      rw [List.takeWhile_cons, if_pos (dig_ne ha.1), ih k ha.2 (by omega) (he.imp (fun h => by omega) id), List.take_succ_cons]
theorem parse_end (xs : List Int) (base : Int) (k : Nat) (h1 : 1 ≤ xs.length) (h18 : xs.length ≤ 18) (ha : (xs.take k).all (isDig base) = true) (hk : k ≤ xs.length) (he : k = xs.length ∨ xs.getD k 0 = 32) : parseV xs base = parseJ xs base k := by
  unfold parseV
  rw [if_neg (by omega), takeWhile_at base xs k ha hk he, if_pos ha, List.length_take, Nat.min_eq_left hk]
theorem takeWhile_bad (base : Int) : ∀ (xs : List Int) (k : Nat), (xs.take k).all (isDig base) = true → k < xs.length → xs.getD k 0 ≠ 32 → isDig base (xs.getD k 0) = false → (xs.takeWhile (fun c => decide (c ≠ 32))).all (isDig base) = false := by
  intro xs
  induction xs with
  | nil => intro k _ hk; simp at hk
  | cons x t ih =>
    intro k ha hk h32 hd
    cases k with
    | zero =>
      simp only [List.getD_cons_zero] at h32 hd
      rw [List.takeWhile_cons, if_pos (by simpa using h32)]
      simp [hd]
    | succ k =>
      simp only [List.take_succ_cons, List.all_cons, Bool.and_eq_true] at ha
      simp only [List.length_cons, List.getD_cons_succ] at hk h32 hd
      rw [List.takeWhile_cons, if_pos (dig_ne ha.1)]
      simp only [List.all_cons, ih k ha.2 (by omega) h32 hd, Bool.and_false]
theorem parse_bad (xs : List Int) (base : Int) (k : Nat) (h1 : 1 ≤ xs.length) (h18 : xs.length ≤ 18) (ha : (xs.take k).all (isDig base) = true) (hk : k < xs.length) (h32 : xs.getD k 0 ≠ 32) (hd : isDig base (xs.getD k 0) = false) : parseV xs base = (0, 3) := by
  unfold parseV
  rw [if_neg (by omega), takeWhile_bad base xs k ha hk h32 hd]
  simp
theorem wrap64_id {i : Int} (h0 : -9223372036854775808 ≤ i) (h : i ≤ 9223372036854775807) : wrap64 i = i := by
  unfold wrap64
  omega
theorem blank_l (xs : List Int) (hl : xs.length ≤ 140737488351232) : ∀ (d k : Nat) (i : Nat), i + d = xs.length → d < k → K.decfield_Blank.l0 k xs (xs.length : Int) (i : Int) = some ((xs.drop i).all (fun c => decide (c = 32))) := by
  intro d
  induction d with
  | zero =>
    intro k i hi hk
    obtain ⟨k, rfl⟩ : ∃ m, k = m + 1 := ⟨k - 1, by omega⟩
    simp only [K.decfield_Blank.l0]
    rw [if_neg (by omega), List.drop_eq_nil_of_le (by omega)]
    rfl
  | succ d ih =>
    intro k i hi hk
    obtain ⟨k, rfl⟩ : ∃ m, k = m + 1 := ⟨k - 1, by omega⟩
    have hlt : i < xs.length := by omega
    simp only [K.decfield_Blank.l0]
    rw [if_pos (by omega), if_pos (by omega), if_pos (by omega), List.drop_eq_getElem_cons hlt]
    have hrd : rd xs (i : Int) = xs[i] := by simp [rd, hlt]
    rw [hrd]
    by_cases h : xs[i] = 32
    · rw [if_pos h, wrap64_id (by omega) (by omega)]
      have := ih k (i + 1) (by omega) (by omega)
      simp only [Int.natCast_add, Int.natCast_one] at this
      rw [this]
      simp [h]
    · rw [if_neg h, List.all_cons, decide_eq_false h, Bool.false_and]
theorem blank_f (xs : List Int) (hl : xs.length ≤ 140737488351232) : K.decfield_Blank.f (xs.length + 1) xs = some (xs.all (fun c => decide (c = 32))) := by
  have := blank_l xs hl xs.length (xs.length + 1) 0 (by omega) (by omega)
  simpa [K.decfield_Blank.f] using this
end Go.Proofs.YtjiokdkgbnakhaaDoor.Own
end TDecP
section TDec
set_option linter.unusedVariables false
set_option linter.unusedSimpArgs false
namespace Go.Proofs.YtjiokdkgbnakhaaDoor.Own
open Go.RowKit Go.Proofs.YtjiokdkgbnakhaaDoor Go.Proofs.YtjiokdkgbnakhaaDoorW.PrintWords Go.Proofs.YtjiokdkgbnakhaaDoorW.PrintLast Go.Proofs.YtjiokdkgbnakhaaDoorW.PrintMore
theorem blank_calls (A : Option Addr) (c : Nat) (xs : List Int) (w : World) (hr : (Kd.int .u8).C w A xs.length xs) (hc : xs.length ≤ c) (hl : xs.length ≤ 140737488351232) :
    Calls Tryd.prog 62 #[.slice A xs.length c] w fun e w' => e = .returned (.bool (xs.all (fun c => decide (c = 32)))) ∧ ∃ n, w' = w.drewN n :=
  (K.decfield_Blank.calls _ A c xs _ w hr hc (blank_f xs hl)).mono fun _ _ ⟨he, hd⟩ => ⟨he, hd.out⟩
theorem based_calls (base : Int) (hb : base = 8 ∨ base = 10) (w : World) : Calls Tryd.prog 61 #[.int .i64 base] w fun e w' => e = .returned (.bool true) ∧ ∃ n, w' = w.drewN n := by
  refine (K.decfield_based.calls base true w ?_).mono fun _ _ ⟨he, hd⟩ => ⟨he, hd.out⟩
  unfold K.decfield_based.f
  rcases hb with rfl | rfl <;> rfl
set_option maxRecDepth 100000 in
set_option maxHeartbeats 4000000 in
theorem parse_in (A : Option Addr) (c : Nat) (xs : List Int) (w : World) (hr : (Kd.int .u8).C w A xs.length xs) (hc : xs.length ≤ c) (h1 : 1 ≤ xs.length) (h18 : xs.length ≤ 18) (hby : ∀ x ∈ xs, 0 ≤ x ∧ x < 256) (base : Int) (hb : base = 8 ∨ base = 10) :
    Calls Tryd.prog 41 #[.slice A xs.length c, .int .i64 base] w fun e w' => e = .returned (.tuple #[.int .i64 (parseV xs base).1, .int .i64 (parseV xs base).2]) ∧ ∃ n, w' = w.drewN n := by
  have HR := Lib.hid hr
  have HBY := Lib.hid hby
  have HBS := Lib.hid hb
  have hbl : 8 ≤ base := by omega
  have hbu : base ≤ 10 := by omega
  have hl1 : ((xs.length : Int) < 1) = False := eq_false (by omega)
  clear hr hby hb
  go_enter Tryd.func41, Tryd.ntmps41
  go_wp2
  go_step3
  go_wp2_with (go_at_call 61; refine (based_calls base HBS.out _).mono ?_; rintro e w' ⟨rfl, q0, rfl⟩)
  go_step3
  go_wp2
  obtain ⟨ad, rfl, hcell⟩ := (Kd.reads_of_C (enc := Value.int .u8) (d := (0 : Int)) (h1 := fun _ => rfl) HR.out).2.2 (by omega)
  have HC := Lib.hid hcell
  clear hcell
  obtain ⟨i0, hi0, hz0, hz1, hz2⟩ := info_parts K.info5
  go_loopg [6, 7, 25] xs.length (fun g v6 v7 v25 wr => ∃ k : Nat, k + g = xs.length ∧ v25 = .int .i64 k ∧ v7 = .int .i64 k ∧ v6 = .int .i64 (numF base (xs.take k)) ∧ Hid ((xs.take k).all (isDig base) = true) ∧ ∃ q, wr = w.drewN q)
  case atStart => exact ⟨0, by omega, rfl, rfl, rfl, rfl, q0, rfl⟩
  case round =>
    obtain ⟨k, hkg, rfl, rfl, rfl, HD, q, rfl⟩ := hrel
    by_cases hstop : k = xs.length ∨ xs.getD k 0 = 32
    · have hend := parse_end xs base k h1 h18 HD.out (by omega) hstop
      obtain ⟨z, hz⟩ : ∃ z, numF base (xs.take k) = z := ⟨_, rfl⟩
      rw [hz]
      have hkl : k ≤ xs.length := by omega
      have hc0 := HC.out 0 (by omega)
      have hc0' : w.cell? ad = some (.int .u8 (xs.getD 0 0)) := hc0
      have hck : k < xs.length → w.cell? (ad.add k) = some (.int .u8 32) := fun h => by
        have := HC.out k h
        rcases hstop with e | e
        · omega
        · rw [e] at this; exact this
      have HCK := Lib.hid hck
      clear hck
      have hby := HBY.out (xs.getD 0 0) (by rw [List.getD_eq_getElem?_getD, List.getElem?_eq_getElem (by omega : 0 < xs.length)]; exact List.getElem_mem _)
      obtain ⟨A', hcut, hA'⟩ := print_cut (P := Tryd.prog) 22 5 .i64 Tryd.underlying22 hi0 hz1 (some ad) xs.length c k hkl
      obtain ⟨b, hbb⟩ : ∃ b, (xs.drop k).all (fun c => decide (c = 32)) = b := ⟨_, rfl⟩
      have hblk : ∀ n, Calls Tryd.prog 62 #[.slice A' (xs.length - k) (c - k)] (w.drewN n) fun e w' => e = .returned (.bool b) ∧ ∃ m, w' = (w.drewN n).drewN m := fun n => by
        have hR := hA' (w.drewN n) .u8 xs hc (Kd.reads_of_C (enc := Value.int .u8) (d := (0 : Int)) (h1 := fun _ => rfl) (Kd.C_below HR.out ⟨rfl, rfl, rfl, Nat.le_refl _, fun _ _ => rfl⟩))
        have := blank_calls A' (c - k) (xs.drop k) (w.drewN n) (Kd.C_of_reads (h1 := fun _ => rfl) (by rw [List.length_drop]; exact hR)) (by rw [List.length_drop]; omega) (by rw [List.length_drop]; omega)
        rw [List.length_drop, hbb] at this
        exact this
      have HBL := Lib.hid hblk
      have HE : Hid (parseV xs base = if k = 0 ∨ (1 < k ∧ xs.getD 0 0 = 48) ∨ b = false then (0, 3) else (z, 0)) := by
        rw [hend, ← hz, ← hbb]
        rfl
      obtain ⟨x, hx⟩ : ∃ x, xs.getD 0 0 = x := ⟨_, rfl⟩
      rw [hx] at hc0 hc0' hby HE
      obtain ⟨hx0, hx1⟩ := hby
      clear hblk hA' hend hz hbb hx
      by_cases hk0 : k = 0
      · have hres : parseV xs base = (0, 3) := by rw [HE.out, if_pos (.inl hk0)]
        have HRES := Lib.hid hres
        have hkz : ((k : Int) == 0) = true := beq_iff_eq.2 (by omega)
        have hl : k < xs.length := by omega
        clear hres hc0 hc0' hk0
        by_cases hl2 : 0 < xs.length
        · have hck0 := HCK.out hl
          clear hstop
          go_wp2
          (try simp only [Exit.noGoto_ret, Exit.inBlock, Exit.then])
          go_ret2
          exact ⟨by rw [HRES.out]; rfl, q, rfl⟩
        · omega
      · have hkz : ((k : Int) == 0) = false := beq_eq_false_iff_ne.2 (by omega)
        have hk1 : 1 ≤ k := by omega
        by_cases hz48 : 1 < k ∧ x = 48
        · obtain ⟨hk2, rfl⟩ := hz48
          have hres : parseV xs base = (0, 3) := by rw [HE.out, if_pos (.inr (.inl ⟨hk2, rfl⟩))]
          have HRES := Lib.hid hres
          clear hres hk0
          have hd1 : decide ((1 : Int) < (k : Int)) = true := decide_eq_true (by omega)
          by_cases hl : k < xs.length
          · have hck0 := HCK.out hl
            clear hstop
            go_wp2
            (try simp only [Exit.noGoto_ret, Exit.inBlock, Exit.then])
            go_ret2
            exact ⟨by rw [HRES.out]; rfl, q, rfl⟩
          · obtain rfl : k = xs.length := by omega
            clear hstop
            go_wp2
            (try simp only [Exit.noGoto_ret, Exit.inBlock, Exit.then])
            go_ret2
            exact ⟨by rw [HRES.out]; rfl, q, rfl⟩
        · have hres : parseV xs base = if b = false then (0, 3) else (z, 0) := by
            rw [HE.out]
            cases b with
            | false => rw [if_pos (.inr (.inr rfl)), if_pos rfl]
            | true => rw [if_neg, if_neg (by simp)]; exact fun h => h.elim hk0 (fun h => h.elim hz48 (fun h => by cases h))
          have HRES := Lib.hid hres
          have HZ48 := Lib.hid hz48
          clear hres hk0 hz48
          by_cases hl : k < xs.length
          · have hck0 := HCK.out hl
            clear hstop
            by_cases hk2 : 1 < k
            · have hx48 : (x == 48) = false := beq_eq_false_iff_ne.2 (fun e => HZ48.out ⟨hk2, e⟩)
              have hd1 : decide ((1 : Int) < (k : Int)) = true := decide_eq_true (by omega)
              cases b <;>
              · go_wp2_with fail
                refine (HBL.out q).mono ?_
                rintro e w' ⟨rfl, m, rfl⟩
                go_wp2
                (try simp only [Exit.noGoto_ret, Exit.inBlock, Exit.then])
                go_ret2
                exact ⟨by rw [HRES.out]; rfl, _, rfl⟩
            · have hd1 : decide ((1 : Int) < (k : Int)) = false := decide_eq_false (by omega)
              cases b <;>
              · go_wp2_with fail
                refine (HBL.out q).mono ?_
                rintro e w' ⟨rfl, m, rfl⟩
                go_wp2
                (try simp only [Exit.noGoto_ret, Exit.inBlock, Exit.then])
                go_ret2
                exact ⟨by rw [HRES.out]; rfl, _, rfl⟩
          · have hge : decide ((k : Int) < (xs.length : Int)) = false := decide_eq_false (by omega)
            clear hstop
            by_cases hk2 : 1 < k
            · have hx48 : (x == 48) = false := beq_eq_false_iff_ne.2 (fun e => HZ48.out ⟨hk2, e⟩)
              have hd1 : decide ((1 : Int) < (k : Int)) = true := decide_eq_true (by omega)
              cases b <;>
              · go_wp2_with fail
                refine (HBL.out q).mono ?_
                rintro e w' ⟨rfl, m, rfl⟩
                go_wp2
                (try simp only [Exit.noGoto_ret, Exit.inBlock, Exit.then])
                go_ret2
                exact ⟨by rw [HRES.out]; rfl, _, rfl⟩
            · have hd1 : decide ((1 : Int) < (k : Int)) = false := decide_eq_false (by omega)
              cases b <;>
              · go_wp2_with fail
                refine (HBL.out q).mono ?_
                rintro e w' ⟨rfl, m, rfl⟩
                go_wp2
                (try simp only [Exit.noGoto_ret, Exit.inBlock, Exit.then])
                go_ret2
                exact ⟨by rw [HRES.out]; rfl, _, rfl⟩
    · have hk : k < xs.length := by omega
      have h32 : xs.getD k 0 ≠ 32 := fun h => hstop (.inr h)
      have hck := HC.out k hk
      have hby := HBY.out (xs.getD k 0) (by rw [List.getD_eq_getElem?_getD, List.getElem?_eq_getElem hk]; exact List.getElem_mem hk)
      obtain ⟨x, hx⟩ : ∃ x, xs.getD k 0 = x := ⟨_, rfl⟩
      rw [hx] at hck h32 hby
      have HX := Lib.hid hx
      clear hx hstop
      obtain ⟨hx0, hx1⟩ := hby
      have hq32 : (x == 32) = false := beq_eq_false_iff_ne.2 h32
      have HNE := Lib.hid h32
      clear h32
      cases hd : isDig base x with
      | false =>
        have hbad := parse_bad xs base k h1 h18 HD.out hk (by rw [HX.out]; exact HNE.out) (by rw [HX.out]; exact hd)
        have HBAD := Lib.hid hbad
        clear hbad
        by_cases h48 : x < 48
        · clear hd
          go_wp2
          (try simp only [Exit.noGoto_ret, Exit.inBlock, Exit.then])
          go_ret2
          exact ⟨by rw [HBAD.out]; rfl, q, rfl⟩
        · have hge : base ≤ x - 48 := by
            simp only [isDig, Bool.and_eq_false_iff, decide_eq_false_iff_not] at hd
            omega
          have h48' : 48 ≤ x := by omega
          clear hd h48
          go_wp2
          (try simp only [Exit.noGoto_ret, Exit.inBlock, Exit.then])
          go_ret2
          exact ⟨by rw [HBAD.out]; rfl, q, rfl⟩
      | true =>
        have hd' : 48 ≤ x ∧ x - 48 < base := by simpa only [isDig, Bool.and_eq_true, decide_eq_true_eq] using hd
        obtain ⟨h48, hlt⟩ := hd'
        have hz : 0 ≤ numF base (xs.take k) ∧ numF base (xs.take k) ≤ 99999999999999999 := by
          have h2 := numF_le base HBS.out k (xs.take k) (by rw [List.length_take]; omega) HD.out
          have h3 : (10 : Int) ^ k ≤ 100000000000000000 := (by decide : ∀ j : Fin 18, (10 : Int) ^ (j : Nat) ≤ 100000000000000000) ⟨k, by omega⟩
          omega
        obtain ⟨hz0', hz9⟩ := hz
        have hnext : xs.take (k + 1) = xs.take k ++ [x] := by
          rw [List.take_succ_eq_append_getElem hk, ← HX.out, List.getD_eq_getElem?_getD, List.getElem?_eq_getElem hk]
          rfl
        have hnum : numF base (xs.take (k + 1)) = numF base (xs.take k) * base + (x - 48) := by rw [hnext, numF_snoc]
        have hall : (xs.take (k + 1)).all (isDig base) = true := by rw [hnext, List.all_append, HD.out]; simp [hd]
        have HNUM := Lib.hid hnum
        have HALL := Lib.hid hall
        clear hnext hnum hall hd
        obtain ⟨z, hz⟩ : ∃ z, numF base (xs.take k) = z := ⟨_, rfl⟩
        rw [hz] at hz0' hz9 HNUM ⊢
        have HZ := Lib.hid hz
        clear hz
        obtain ⟨g, rfl⟩ : ∃ m, gk = m + 1 := ⟨gk - 1, by omega⟩
        rcases HBS.out with rfl | rfl
        all_goals
          go_wp2
          go_roundg g
          case measure => omega
          case rel => exact ⟨k + 1, by omega, by go_num, by go_num, by rw [HNUM.out], HALL.out, q, rfl⟩
end Go.Proofs.YtjiokdkgbnakhaaDoor.Own
end TDec
section THead
set_option linter.unusedVariables false
set_option linter.unusedSimpArgs false
namespace Go.Proofs.YtjiokdkgbnakhaaDoor.Own
open Go.RowKit Go.Proofs.YtjiokdkgbnakhaaDoor Go.Proofs.YtjiokdkgbnakhaaDoorW.PrintWords Go.Proofs.YtjiokdkgbnakhaaDoorW.PrintLast Go.Proofs.YtjiokdkgbnakhaaDoorW.PrintMore
def fieldsC : Array Value := #[.int .i64 12, .int .i64 10, .bool true, .func (.func 109) #[] #[], .int .i64 6, .int .i64 10, .bool true, .func (.func 110) #[] #[],
      .int .i64 6, .int .i64 10, .bool true, .func (.func 111) #[] #[], .int .i64 8, .int .i64 8, .bool true, .func (.func 112) #[] #[], .int .i64 10, .int .i64 10, .bool false, .func (.func 113) #[] #[]]
set_option maxRecDepth 100000 in
set_option maxHeartbeats 4000000 in
theorem fields_in (w : World) : Calls Tryd.prog 96 #[] w fun e w' => e = .returned (.slice (some ⟨w.heap.size, 0, none⟩) 5 5) ∧
    w' = w.alloc (.cells fieldsC 149) := by
  have hst : (Instr.storeAt 149 (.pointer (some ⟨w.heap.size, 0, none⟩)) (.agg #[.int .i64 12, .int .i64 10, .bool true, .func (.func 109) #[] #[], .int .i64 6, .int .i64 10, .bool true, .func (.func 110) #[] #[],
      .int .i64 6, .int .i64 10, .bool true, .func (.func 111) #[] #[], .int .i64 8, .int .i64 8, .bool true, .func (.func 112) #[] #[], .int .i64 10, .int .i64 10, .bool false, .func (.func 113) #[] #[]])).run Tryd.prog
      (w.alloc (.cells #[.int .i64 0, .int .i64 0, .bool false, .nilFunc, .int .i64 0, .int .i64 0, .bool false, .nilFunc, .int .i64 0, .int .i64 0, .bool false, .nilFunc, .int .i64 0, .int .i64 0, .bool false, .nilFunc, .int .i64 0, .int .i64 0, .bool false, .nilFunc] 149)) =
      .ok () (w.alloc (.cells fieldsC 149)) := run_storeAt_new w 149 _ fieldsC (by kernel_rfl) rfl (by simp [fieldsC, Value.oneCell'])
  have HST := Lib.hid hst
  clear hst
  go_enter Tryd.func96, Tryd.ntmps96
  go_wp2_with ((with_reducible refine gate_store (t := 149) (p := 1) (v := .tmp 7) rfl ?_); refine store_event rfl rfl rfl (w1 := w.alloc (.cells fieldsC 149)) ?hrun ?_; (case hrun => (have h_ := HST.out; unfold execOp; simp only [Sem.run_bind]; erw [h_]; rfl)); rintro w' rfl)
  go_ret
  exact ⟨rfl, rfl⟩
set_option maxRecDepth 100000 in
theorem at1_in (H : Nat) (w : World) : Calls Tryd.prog 109 #[.pointer (some ⟨H, 0, none⟩)] w fun e w' => e = .returned (.pointer (some ⟨H, 1, none⟩)) ∧ w' = w := by
  go_enter Tryd.func109, Tryd.ntmps109
  go_wp2
  go_ret
  exact ⟨rfl, rfl⟩
set_option maxRecDepth 100000 in
theorem at2_in (H : Nat) (w : World) : Calls Tryd.prog 110 #[.pointer (some ⟨H, 0, none⟩)] w fun e w' => e = .returned (.pointer (some ⟨H, 2, none⟩)) ∧ w' = w := by
  go_enter Tryd.func110, Tryd.ntmps110
  go_wp2
  go_ret
  exact ⟨rfl, rfl⟩
set_option maxRecDepth 100000 in
theorem at3_in (H : Nat) (w : World) : Calls Tryd.prog 111 #[.pointer (some ⟨H, 0, none⟩)] w fun e w' => e = .returned (.pointer (some ⟨H, 3, none⟩)) ∧ w' = w := by
  go_enter Tryd.func111, Tryd.ntmps111
  go_wp2
  go_ret
  exact ⟨rfl, rfl⟩
set_option maxRecDepth 100000 in
theorem at4_in (H : Nat) (w : World) : Calls Tryd.prog 112 #[.pointer (some ⟨H, 0, none⟩)] w fun e w' => e = .returned (.pointer (some ⟨H, 4, none⟩)) ∧ w' = w := by
  go_enter Tryd.func112, Tryd.ntmps112
  go_wp2
  go_ret
  exact ⟨rfl, rfl⟩
set_option maxRecDepth 100000 in
theorem at5_in (H : Nat) (w : World) : Calls Tryd.prog 113 #[.pointer (some ⟨H, 0, none⟩)] w fun e w' => e = .returned (.pointer (some ⟨H, 5, none⟩)) ∧ w' = w := by
  go_enter Tryd.func113, Tryd.ntmps113
  go_wp2
  go_ret
  exact ⟨rfl, rfl⟩
end Go.Proofs.YtjiokdkgbnakhaaDoor.Own
end THead
