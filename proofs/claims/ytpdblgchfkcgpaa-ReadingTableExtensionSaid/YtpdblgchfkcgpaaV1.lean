/-
  Texts of this claim, merged: Lib, App, Row, Store, Keep. Conditions: as each theorem says.
-/
import Derived.Below
import Derived.Laws.OwnMore
import Derived.Maps.AppendAt
import Derived.Deep.AppendLies
import Derived.Deep.Draws
import Derived.RegionTactic
import Derived.OwnWalk
import Derived.Lib.Hide
import Derived.Laws.IdiomStrings
import Derived.Laws.BytesArg
set_option linter.unusedSimpArgs false
set_option linter.unusedVariables false
namespace Go.Proofs.Ytpdblgchfkcgpaa
open Go.RowKit

theorem block_add (a : Addr) (n : Nat) : (a.add n).block = a.block := by unfold Addr.add; split <;> rfl
theorem add_add' (a : Addr) (i j : Nat) : (a.add i).add j = a.add (i + j) := by
  unfold Addr.add
  by_cases hi : i = 0 <;> by_cases hj : j = 0 <;> simp [hi, hj, Nat.add_assoc]
theorem heap_lt {w : World} {b : Nat} {o : Obj} (h : w.heap[b]? = some o) : b < w.heap.size := by
  rcases Nat.lt_or_ge b w.heap.size with h' | h'
  · exact h'
  · rw [Array.getElem?_eq_none h'] at h; cases h

/-- On the blocks of S the second world is as the first was. -/
def Agree (S : Nat → Prop) (w w' : World) : Prop := w.heap.size ≤ w'.heap.size ∧ ∀ b, S b → b < w.heap.size → w'.heap[b]? = w.heap[b]?

section
variable {S T : Nat → Prop} {w w' w'' : World}
theorem Agree.refl (S : Nat → Prop) (w : World) : Agree S w w := ⟨Nat.le_refl _, fun _ _ _ => rfl⟩
theorem Agree.trans (h : Agree S w w') (k : Agree S w' w'') : Agree S w w'' :=
  ⟨Nat.le_trans h.1 k.1, fun b hb hlt => (k.2 b hb (Nat.lt_of_lt_of_le hlt h.1)).trans (h.2 b hb hlt)⟩
theorem Agree.sub (h : Agree T w w') (hs : ∀ b, S b → T b) : Agree S w w' := ⟨h.1, fun b hb => h.2 b (hs b hb)⟩
theorem Agree.alloc (h : Agree S w w') (o : Obj) : Agree S w (w'.alloc o) :=
  h.trans ⟨by simp, fun b _ hlt => Below.heap_alloc _ _ _ hlt⟩
theorem Agree.drew (h : Agree S w w') : Agree S w w'.drew := h
theorem Agree.drewN (h : Agree S w w') (n : Nat) : Agree S w (w'.drewN n) := h
theorem Agree.set (h : Agree S w w') {p : Addr} (hp : ¬ S p.block) (u : Value) : Agree S w (w'.setCell p u) :=
  h.trans ⟨by simp [World.setCell], fun b hb _ => Below.heap_setCell _ _ _ _ (fun e => hp (e ▸ hb))⟩
theorem Agree.below (h : Agree S w w') {B : Nat} (hb : Below B w' w'') (hs : ∀ b, S b → b < w.heap.size → b < B) : Agree S w w'' :=
  ⟨Nat.le_trans h.1 hb.size, fun b hS hlt => (hb.block b (hs b hS hlt)).trans (h.2 b hS hlt)⟩
theorem Agree.call (h : Agree S w w') (hb : Below w'.heap.size w' w'') : Agree S w w'' :=
  h.below hb fun _ _ hlt => Nat.lt_of_lt_of_le hlt h.1
theorem Agree.grown (h : Agree S w w') {row : Option Nat} (hg : w'.grownBy w'' row) (hr : ∀ g, row = some g → ¬ S g) : Agree S w w'' :=
  ⟨Nat.le_trans h.1 hg.size, fun b hS hlt => (hg.block b (Nat.lt_of_lt_of_le hlt h.1) (fun e => hr b e.symm hS)).trans (h.2 b hS hlt)⟩
end

/-- The cells from A on, in a block of S, are cs. -/
def RowAt (S : Nat → Prop) (w : World) (A : Option Addr) (cs : List Value) : Prop :=
  cs ≠ [] → ∃ a : Addr, A = some a ∧ S a.block ∧ a.block < w.heap.size ∧ ∀ j u, cs[j]? = some u → w.cell? (a.add j) = some u

section
variable {S T : Nat → Prop} {w w' : World} {A : Option Addr} {cs ds : List Value}
theorem RowAt.empty (S : Nat → Prop) (w : World) (A : Option Addr) : RowAt S w A [] := fun h => absurd rfl h
theorem RowAt.keep (h : RowAt S w A cs) (k : Agree S w w') : RowAt S w' A cs := fun hne => by
  obtain ⟨a, hA, hS, hlt, hc⟩ := h hne
  exact ⟨a, hA, hS, Nat.lt_of_lt_of_le hlt k.1, fun j u hu => (World.cell?_of_block (by rw [block_add]; exact k.2 _ hS hlt)).trans (hc j u hu)⟩
theorem RowAt.sub (h : RowAt S w A cs) (hs : ∀ b, S b → b < w.heap.size → T b) : RowAt T w A cs := fun hne => by
  obtain ⟨a, hA, hS, hlt, hc⟩ := h hne
  exact ⟨a, hA, hs _ hS hlt, hlt, hc⟩
theorem RowAt.take (h : RowAt S w A cs) (k : Nat) : RowAt S w A (cs.take k) := fun hne => by
  have hne' : cs ≠ [] := fun e => hne (by simp [e])
  obtain ⟨a, hA, hS, hlt, hc⟩ := h hne'
  refine ⟨a, hA, hS, hlt, fun j u hu => hc j u ?_⟩
  rw [List.getElem?_take] at hu
  split at hu
  · exact hu
  · cases hu
theorem RowAt.drop (h : RowAt S w A cs) (k : Nat) : RowAt S w (A.map (·.add k)) (cs.drop k) := fun hne => by
  have hne' : cs ≠ [] := fun e => hne (by simp [e])
  obtain ⟨a, rfl, hS, hlt, hc⟩ := h hne'
  refine ⟨a.add k, rfl, by rw [block_add]; exact hS, by rw [block_add]; exact hlt, fun j u hu => ?_⟩
  rw [add_add']
  exact hc _ u (by rw [← hu, List.getElem?_drop])
end

/-- What stays behind an append onto block g, said as two rules for the walk. -/
theorem gcell {W w1 : World} {g : Nat} (hg : W.grownBy w1 (some g)) (hW : g ≤ W.heap.size) :
    (∀ b o, b < g → w1.cell? ⟨b, o, none⟩ = W.cell? ⟨b, o, none⟩) ∧ (∀ b o, b < g → w1.frozen? ⟨b, o, none⟩ = W.frozen? ⟨b, o, none⟩) :=
  ⟨fun b o h => World.cell?_of_block (hg.block b (by omega) (by intro e; injection e; omega)), fun b o h => World.frozen?_of_block (hg.block b (by omega) (by intro e; injection e; omega))⟩
theorem bcell {W w1 : World} (hb : Below W.heap.size W w1) :
    (∀ b o, b < W.heap.size → w1.cell? ⟨b, o, none⟩ = W.cell? ⟨b, o, none⟩) ∧ (∀ b o, b < W.heap.size → w1.frozen? ⟨b, o, none⟩ = W.frozen? ⟨b, o, none⟩) :=
  ⟨fun b o h => hb.cell (p := ⟨b, o, none⟩) h, fun b o h => hb.frozen (p := ⟨b, o, none⟩) h⟩

theorem bcellk {W w1 : World} {k : Nat} (hb : Below W.heap.size W w1) (hk : k ≤ W.heap.size) :
    (∀ b o, b < k → w1.cell? ⟨b, o, none⟩ = W.cell? ⟨b, o, none⟩) ∧ (∀ b o, b < k → w1.frozen? ⟨b, o, none⟩ = W.frozen? ⟨b, o, none⟩) :=
  ⟨fun b o h => hb.cell (p := ⟨b, o, none⟩) (Nat.lt_of_lt_of_le h hk), fun b o h => hb.frozen (p := ⟨b, o, none⟩) (Nat.lt_of_lt_of_le h hk)⟩

def cellOf (W : World) (a : Addr) : Value := (W.cell? a).getD default
/-- The boxes of a call: gs are those that are still written (block, number of cells); all other blocks below N are as they were in W0. -/
structure Keep (N : Nat) (gs : List (Nat × Nat)) (W0 W : World) : Prop where
  le : N ≤ W.heap.size
  old : ∀ b, b < N → (∀ p ∈ gs, p.1 ≠ b) → W.heap[b]? = W0.heap[b]?
  box : ∀ p ∈ gs, ∃ cs t, W.heap[p.1]? = some (.cells cs t (0, 0)) ∧ cs.size = p.2
section
variable {N : Nat} {gs : List (Nat × Nat)} {W0 W W' : World}
theorem Keep.drew (h : Keep N gs W0 W) : Keep N gs W0 W.drew := ⟨h.le, h.old, h.box⟩
theorem Keep.drewN (h : Keep N gs W0 W) (n : Nat) : Keep N gs W0 (W.drewN n) := ⟨h.le, h.old, h.box⟩
theorem Keep.heap (h : Keep N gs W0 W) (hs : W.heap.size ≤ W'.heap.size) (hb : ∀ b, b < W.heap.size → b < N ∨ (∃ p ∈ gs, p.1 = b) → W'.heap[b]? = W.heap[b]?) : Keep N gs W0 W' :=
  ⟨Nat.le_trans h.le hs, fun b hN hg => (hb b (Nat.lt_of_lt_of_le hN h.le) (.inl hN)).trans (h.old b hN hg), fun p hp => by
    obtain ⟨cs, t, h1, h2⟩ := h.box p hp
    exact ⟨cs, t, (hb p.1 (heap_lt h1) (.inr ⟨p, hp, rfl⟩)).trans h1, h2⟩⟩
theorem Keep.alloc (h : Keep N gs W0 W) (o : Obj) : Keep N gs W0 (W.alloc o) := h.heap (by simp) fun b hb _ => Below.heap_alloc _ _ _ hb
theorem Keep.call (h : Keep N gs W0 W) (hb : Below W.heap.size W W') : Keep N gs W0 W' := h.heap hb.size fun b hlt _ => hb.block b hlt
theorem Keep.grown (h : Keep N gs W0 W) {row : Option Nat} (hg : W.grownBy W' row) (hr : ∀ k, row = some k → N ≤ k ∧ ∀ p ∈ gs, p.1 ≠ k) : Keep N gs W0 W' :=
  h.heap hg.size fun b hlt hor => hg.block b hlt (fun e => by
    obtain ⟨h1, h2⟩ := hr b e.symm
    rcases hor with hor | ⟨p, hp, hpb⟩
    · omega
    · exact h2 p hp hpb)
theorem Keep.set (h : Keep N gs W0 W) {p : Addr} (hp : ∃ q ∈ gs, q.1 = p.block) (u : Value) : Keep N gs W0 (W.setCell p u) := by
  refine ⟨by simpa [World.setCell] using h.le, fun b hN hg => ?_, fun q hq => ?_⟩
  · obtain ⟨q, hq, hqb⟩ := hp
    exact (Below.heap_setCell _ _ _ _ (fun e => hg q hq (hqb.trans e.symm))).trans (h.old b hN hg)
  · obtain ⟨cs, t, h1, h2⟩ := h.box q hq
    by_cases e : q.1 = p.block
    · refine ⟨if p.spot.isSome then cs else cs.setIfInBounds p.off u, t, ?_, ?_⟩
      · simp only [World.setCell, Array.getElem?_modify]
        rw [if_pos e.symm, h1]
        rfl
      · split <;> simp [h2]
    · exact ⟨cs, t, (Below.heap_setCell _ _ _ _ e).trans h1, h2⟩
theorem heap_alloc_at {w : World} {o : Obj} {g : Nat} (h : g = w.heap.size) : (w.alloc o).heap[g]? = some o := by subst h; exact heap_alloc_new w o
/-- The rules for the walk. -/
theorem Keep.cell (N : Nat) (gs : List (Nat × Nat)) (W0 : World) : ∀ W, Keep N gs W0 W → ∀ b o, b < N → (∀ p ∈ gs, p.1 ≠ b) → W.cell? ⟨b, o, none⟩ = W0.cell? ⟨b, o, none⟩ :=
  fun _ h b _ hb hg => World.cell?_of_block (h.old b hb hg)
theorem Keep.frozen (N : Nat) (gs : List (Nat × Nat)) (W0 : World) : ∀ W, Keep N gs W0 W → ∀ b o, b < N → (∀ p ∈ gs, p.1 ≠ b) → W.frozen? ⟨b, o, none⟩ = W0.frozen? ⟨b, o, none⟩ :=
  fun _ h b _ hb hg => World.frozen?_of_block (h.old b hb hg)
theorem Keep.boxCell (N : Nat) (gs : List (Nat × Nat)) (W0 : World) : ∀ W, Keep N gs W0 W → ∀ b o, (∃ p ∈ gs, p.1 = b ∧ o < p.2) → W.cell? ⟨b, o, none⟩ = some (cellOf W ⟨b, o, none⟩) := by
  rintro W h b o ⟨p, hp, rfl, ho⟩
  obtain ⟨cs, t, h1, h2⟩ := h.box p hp
  have hc := cell_of_row W p.1 o cs t (0, 0) h1
  rw [Array.getElem?_eq_getElem (by omega)] at hc
  simp [cellOf, hc]
theorem Keep.boxFrozen (N : Nat) (gs : List (Nat × Nat)) (W0 : World) : ∀ W, Keep N gs W0 W → ∀ b o, (∃ p ∈ gs, p.1 = b) → W.frozen? ⟨b, o, none⟩ = false := by
  rintro W h b o ⟨p, hp, rfl⟩
  obtain ⟨cs, t, h1, _⟩ := h.box p hp
  simp [World.frozen?, h1]
theorem Keep.lt (N : Nat) (gs : List (Nat × Nat)) (W0 : World) : ∀ W, Keep N gs W0 W → ∀ b, b < N → b < W.heap.size := fun _ h _ hb => Nat.lt_of_lt_of_le hb h.le
end

/-- How values of a Lean type lie in cells. -/
structure Enc (α : Type) where
  size : Nat
  rep : (Nat → Prop) → World → List Value → α → Prop
  len : ∀ {S w cs x}, rep S w cs x → cs.length = size
  sub : ∀ {S T : Nat → Prop} {w cs x}, rep S w cs x → (∀ b, S b → b < w.heap.size → T b) → rep T w cs x
  keep : ∀ {S w w' cs x}, rep S w cs x → Agree S w w' → rep S w' cs x
  one : ∀ {S w cs x}, rep S w cs x → ∀ u ∈ cs, u.oneCell' = true

def Enc.i64 : Enc Int := ⟨1, fun _ _ cs x => cs = [.int .i64 x], by rintro _ _ _ _ rfl; rfl, fun h _ => h, fun h _ => h, by rintro _ _ _ _ rfl u hu; simp at hu; subst hu; rfl⟩
def Enc.u8 : Enc UInt8 := ⟨1, fun _ _ cs x => cs = [.int .u8 (x.toNat : Int)], by rintro _ _ _ _ rfl; rfl, fun h _ => h, fun h _ => h, by rintro _ _ _ _ rfl u hu; simp at hu; subst hu; rfl⟩
def Enc.bool : Enc Bool := ⟨1, fun _ _ cs x => cs = [.bool x], by rintro _ _ _ _ rfl; rfl, fun h _ => h, fun h _ => h, by rintro _ _ _ _ rfl u hu; simp at hu; subst hu; rfl⟩
def Enc.pair {α β : Type} (E : Enc α) (F : Enc β) : Enc (α × β) :=
  ⟨E.size + F.size, fun S w cs x => ∃ c d, cs = c ++ d ∧ E.rep S w c x.1 ∧ F.rep S w d x.2,
   by rintro _ _ _ _ ⟨c, d, rfl, h1, h2⟩; rw [List.length_append, E.len h1, F.len h2],
   by rintro _ _ _ _ _ ⟨c, d, rfl, h1, h2⟩ hs; exact ⟨c, d, rfl, E.sub h1 hs, F.sub h2 hs⟩,
   by rintro _ _ _ _ _ ⟨c, d, rfl, h1, h2⟩ hk; exact ⟨c, d, rfl, E.keep h1 hk, F.keep h2 hk⟩,
   by rintro _ _ _ _ ⟨c, d, rfl, h1, h2⟩ u hu; exact (List.mem_append.1 hu).elim (E.one h1 u) (F.one h2 u)⟩
/-- The same cells, read as another type. -/
def Enc.via {α β : Type} (E : Enc α) (f : β → α) : Enc β := ⟨E.size, fun S w cs x => E.rep S w cs (f x), E.len, E.sub, E.keep, E.one⟩

def Elems {α : Type} (E : Enc α) (S : Nat → Prop) (w : World) : List Value → List α → Prop
  | cs, [] => cs = []
  | cs, x :: xs => ∃ c d, cs = c ++ d ∧ E.rep S w c x ∧ Elems E S w d xs

section
variable {α : Type} {E : Enc α} {S T : Nat → Prop} {w w' : World}
theorem Elems.len : ∀ {xs : List α} {cs : List Value}, Elems E S w cs xs → cs.length = xs.length * E.size
  | [], cs, h => by have h' : cs = [] := h; subst h'; simp
  | x :: xs, cs, ⟨c, d, e, h1, h2⟩ => by subst e; rw [List.length_append, E.len h1, Elems.len h2, List.length_cons, Nat.add_mul]; omega
theorem Elems.sub : ∀ {xs : List α} {cs : List Value}, Elems E S w cs xs → (∀ b, S b → b < w.heap.size → T b) → Elems E T w cs xs
  | [], _, h, _ => h
  | _ :: _, _, ⟨c, d, e, h1, h2⟩, hs => ⟨c, d, e, E.sub h1 hs, h2.sub hs⟩
theorem Elems.keep : ∀ {xs : List α} {cs : List Value}, Elems E S w cs xs → Agree S w w' → Elems E S w' cs xs
  | [], _, h, _ => h
  | _ :: _, _, ⟨c, d, e, h1, h2⟩, hs => ⟨c, d, e, E.keep h1 hs, h2.keep hs⟩
theorem Elems.one : ∀ {xs : List α} {cs : List Value}, Elems E S w cs xs → ∀ u ∈ cs, u.oneCell' = true
  | [], cs, h => by have h' : cs = [] := h; subst h'; simp
  | x :: xs, cs, ⟨c, d, e, h1, h2⟩ => by subst e; intro u hu; exact (List.mem_append.1 hu).elim (E.one h1 u) (h2.one u)
theorem Elems.append : ∀ {xs ys : List α} {cs ds : List Value}, Elems E S w cs xs → Elems E S w ds ys → Elems E S w (cs ++ ds) (xs ++ ys)
  | [], _, cs, _, h, k => by have h' : cs = [] := h; subst h'; exact k
  | x :: xs, ys, cs, ds, ⟨c, d, e, h1, h2⟩, k => ⟨c, d ++ ds, by rw [e, List.append_assoc], h1, h2.append k⟩
theorem Elems.single {x : α} {c : List Value} (h : E.rep S w c x) : Elems E S w c [x] := ⟨c, [], by simp, h, rfl⟩
theorem Elems.snoc {xs : List α} {cs c : List Value} {x : α} (h : Elems E S w cs xs) (k : E.rep S w c x) : Elems E S w (cs ++ c) (xs ++ [x]) := h.append (.single k)
theorem Elems.take : ∀ {xs : List α} {cs : List Value} (k : Nat), Elems E S w cs xs → Elems E S w (cs.take (k * E.size)) (xs.take k)
  | [], cs, k, h => by have h' : cs = [] := h; subst h'; simp only [List.take_nil]; exact rfl
  | x :: xs, cs, 0, h => by simp only [Nat.zero_mul, List.take_zero]; exact rfl
  | x :: xs, cs, k + 1, ⟨c, d, e, h1, h2⟩ => by
    subst e
    refine ⟨c, d.take (k * E.size), ?_, h1, h2.take k⟩
    have hc := E.len h1
    rw [List.take_append, hc, List.take_of_length_le (by rw [hc, Nat.add_mul]; omega), Nat.add_mul, Nat.one_mul, Nat.add_sub_cancel]
theorem Elems.drop : ∀ {xs : List α} {cs : List Value} (k : Nat), Elems E S w cs xs → Elems E S w (cs.drop (k * E.size)) (xs.drop k)
  | [], cs, k, h => by have h' : cs = [] := h; subst h'; simp only [List.drop_nil]; exact rfl
  | x :: xs, cs, 0, h => by simpa using h
  | x :: xs, cs, k + 1, ⟨c, d, e, h1, h2⟩ => by
    subst e
    have hc := E.len h1
    have hd : (c ++ d).drop ((k + 1) * E.size) = d.drop (k * E.size) := by
      rw [List.drop_append, hc, List.drop_of_length_le (by rw [hc, Nat.add_mul]; omega), Nat.add_mul, Nat.one_mul, Nat.add_sub_cancel, List.nil_append]
    rw [hd, List.drop_succ_cons]
    exact h2.drop k
theorem Elems.at_ : ∀ {xs : List α} {cs : List Value} {k : Nat} {x : α}, Elems E S w cs xs → xs[k]? = some x → E.rep S w ((cs.drop (k * E.size)).take E.size) x
  | x :: xs, cs, 0, y, ⟨c, d, e, h1, _⟩, hx => by
    simp at hx; subst hx; subst e
    have hc := E.len h1
    simp only [Nat.zero_mul, List.drop_zero]
    rw [List.take_append, hc, List.take_of_length_le (by omega), Nat.sub_self, List.take_zero, List.append_nil]
    exact h1
  | x :: xs, cs, k + 1, y, ⟨c, d, e, h1, h2⟩, hx => by
    subst e
    have hc := E.len h1
    have hd : (c ++ d).drop ((k + 1) * E.size) = d.drop (k * E.size) := by
      rw [List.drop_append, hc, List.drop_of_length_le (by rw [hc, Nat.add_mul]; omega), Nat.add_mul, Nat.one_mul, Nat.add_sub_cancel, List.nil_append]
    rw [hd]
    exact h2.at_ (by simpa using hx)
/-- Element k written anew. -/
theorem Elems.set {xs : List α} {cs c : List Value} {k : Nat} {x : α} (h : Elems E S w cs xs) (hk : k < xs.length) (hx : E.rep S w c x) :
    Elems E S w (cs.take (k * E.size) ++ c ++ cs.drop ((k + 1) * E.size)) (xs.set k x) := by
  rw [List.set_eq_take_append_cons_drop, if_pos hk, List.append_assoc]
  exact (h.take k).append ⟨c, _, rfl, hx, h.drop (k + 1)⟩
end

/-- The slice value '.slice A xs.length c' reads as xs. -/
def Sl {α : Type} (E : Enc α) (S : Nat → Prop) (w : World) (A : Option Addr) (c : Nat) (xs : List α) : Prop :=
  xs.length ≤ c ∧ c ≤ maxLen ∧ ∃ cs, RowAt S w A cs ∧ Elems E S w cs xs

section
variable {α : Type} {E : Enc α} {S T : Nat → Prop} {w w' : World} {A : Option Addr} {c : Nat} {xs : List α}
theorem Sl.nil_ (E : Enc α) (S : Nat → Prop) (w : World) (A : Option Addr) {c : Nat} (hc : c ≤ maxLen) : Sl E S w A c [] := ⟨Nat.zero_le _, hc, [], RowAt.empty S w A, rfl⟩
theorem Sl.le (h : Sl E S w A c xs) : xs.length ≤ c := h.1
theorem Sl.max (h : Sl E S w A c xs) : xs.length ≤ 9223372036854775807 := by have h1 := h.1; have h2 := h.2.1; unfold maxLen at h2; omega
theorem Sl.capMax (h : Sl E S w A c xs) : c ≤ 9223372036854775807 := by have h2 := h.2.1; unfold maxLen at h2; omega
theorem Sl.sub (h : Sl E S w A c xs) (hs : ∀ b, S b → b < w.heap.size → T b) : Sl E T w A c xs := by
  obtain ⟨h1, h2, cs, hr, he⟩ := h
  exact ⟨h1, h2, cs, hr.sub hs, he.sub hs⟩
theorem Sl.old (h : Sl E S w A c xs) : Sl E (fun b => S b ∧ b < w.heap.size) w A c xs := h.sub fun _ hb hl => ⟨hb, hl⟩
theorem Sl.keep (h : Sl E S w A c xs) (k : Agree S w w') : Sl E S w' A c xs := by
  obtain ⟨h1, h2, cs, hr, he⟩ := h
  exact ⟨h1, h2, cs, hr.keep k, he.keep k⟩
theorem Sl.take (h : Sl E S w A c xs) (k : Nat) : Sl E S w A c (xs.take k) := by
  obtain ⟨h1, h2, cs, hr, he⟩ := h
  exact ⟨Nat.le_trans (List.length_take_le' _ _) h1, h2, _, hr.take _, he.take k⟩
theorem Sl.clip (h : Sl E S w A c xs) : Sl E S w A xs.length xs := by
  obtain ⟨h1, h2, cs, hr, he⟩ := h
  exact ⟨Nat.le_refl _, Nat.le_trans h1 h2, cs, hr, he⟩
theorem Sl.cap (h : Sl E S w A c xs) {c' : Nat} (h1 : xs.length ≤ c') (h2 : c' ≤ maxLen) : Sl E S w A c' xs := by
  obtain ⟨_, _, cs, hr, he⟩ := h
  exact ⟨h1, h2, cs, hr, he⟩
/-- 's[k:]': the address stands still where nothing is left of the capacity. -/
theorem Sl.drop (h : Sl E S w A c xs) {k : Nat} (hk : k ≤ xs.length) : Sl E S w (if c = k then A else A.map (·.add (k * E.size))) (c - k) (xs.drop k) := by
  obtain ⟨h1, h2, cs, hr, he⟩ := h
  refine ⟨by rw [List.length_drop]; omega, by omega, cs.drop (k * E.size), ?_, he.drop k⟩
  split
  · rename_i hck
    have : cs.drop (k * E.size) = [] := List.drop_of_length_le (by rw [he.len]; exact Nat.mul_le_mul_right _ (by omega))
    rw [this]
    exact RowAt.empty _ _ _
  · exact hr.drop _
/-- Element k: its address and its cells. -/
theorem Sl.at_ (h : Sl E S w A c xs) {k : Nat} {x : α} (hx : xs[k]? = some x) (hE : 0 < E.size) :
    ∃ (a : Addr) (cs : List Value), A = some a ∧ S a.block ∧ a.block < w.heap.size ∧ E.rep S w cs x ∧ ∀ j u, cs[j]? = some u → w.cell? (a.add (k * E.size + j)) = some u := by
  obtain ⟨_, _, cs, hr, he⟩ := h
  have hk : k < xs.length := (List.getElem?_eq_some_iff.1 hx).1
  have hrep := he.at_ hx
  have hne : cs ≠ [] := fun e => by
    have := he.len
    rw [e] at this
    have h3 : 0 < xs.length * E.size := Nat.mul_pos (by omega) hE
    simp at this
    omega
  obtain ⟨a, hA, hS, hlt, hc⟩ := hr hne
  refine ⟨a, _, hA, hS, hlt, hrep, fun j u hu => hc _ u ?_⟩
  rw [List.getElem?_take] at hu
  split at hu
  · rwa [List.getElem?_drop] at hu
  · cases hu
end

theorem add_none {w : World} {a : Addr} {n : Nat} {u : Value} (h : w.cell? (a.add n) = some u) : (a.add n) = ⟨a.block, a.off + n, none⟩ := by
  obtain ⟨b, o, s⟩ := a
  unfold Addr.add at h ⊢
  split
  · rename_i hn
    subst hn
    simp only [if_true] at h
    cases s with
    | none => rfl
    | some k =>
      unfold World.cell? at h
      simp at h
      split at h <;> cases h
  · rfl
/-- Element k, said of a plain address. -/
theorem Sl.at' {α : Type} {E : Enc α} {S : Nat → Prop} {w : World} {A : Option Addr} {c : Nat} {xs : List α} (h : Sl E S w A c xs) {k : Nat} {x : α} (hx : xs[k]? = some x) (hE : 0 < E.size) :
    ∃ (b o : Nat) (cs : List Value), A = some ⟨b, o, none⟩ ∧ S b ∧ b < w.heap.size ∧ E.rep S w cs x ∧ ∀ j u, cs[j]? = some u → w.cell? ⟨b, o + k * E.size + j, none⟩ = some u := by
  have hlt : k < xs.length := (List.getElem?_eq_some_iff.1 hx).1
  obtain ⟨a, cs, hA, hS, hb, hrep, hc⟩ := h.at_ hx hE
  obtain ⟨a0, cs0, hA0, _, _, hrep0, hc0⟩ := h.at_ (k := 0) (x := xs[0]'(by omega)) (List.getElem?_eq_getElem (by omega)) hE
  rw [hA] at hA0
  injection hA0 with hA0
  subst hA0
  have hl0 := E.len hrep0
  have h1 := hc0 0 (cs0[0]'(by omega)) (List.getElem?_eq_getElem (by omega))
  simp only [Nat.zero_mul, Nat.add_zero] at h1
  have h2 := add_none h1
  have h3 : a.add 0 = a := by unfold Addr.add; simp
  rw [h3] at h2
  refine ⟨a.block, a.off, cs, by rw [hA]; exact congrArg some (by simpa using h2), hS, hb, hrep, fun j u hu => ?_⟩
  have h4 := hc j u hu
  rw [add_none h4, ← Nat.add_assoc] at h4
  exact h4

def Enc.slice {α : Type} (E : Enc α) : Enc (List α) :=
  ⟨1, fun S w cs x => ∃ A c, cs = [.slice A x.length c] ∧ Sl E S w A c x, by rintro _ _ _ _ ⟨A, c, rfl, _⟩; rfl,
   by rintro _ _ _ _ _ ⟨A, c, rfl, h⟩ hs; exact ⟨A, c, rfl, h.sub hs⟩,
   by rintro _ _ _ _ _ ⟨A, c, rfl, h⟩ hk; exact ⟨A, c, rfl, h.keep hk⟩,
   by rintro _ _ _ _ ⟨A, c, rfl, h⟩ u hu; simp at hu; subst hu; rfl⟩

/-- A slice that the call itself made: nil, or the whole block g from base on; what it holds reads as xs, in the blocks of S. -/
def Own {α : Type} (E : Enc α) (S : Nat → Prop) (w : World) (base : Nat) (e : TypeId) (v : Value) (xs : List α) : Prop :=
  ∃ cs, w.ownsRow base e E.size v xs.length cs ∧ Elems E S w cs xs

section
variable {α : Type} {E : Enc α} {S T : Nat → Prop} {w w' : World} {base : Nat} {e : TypeId} {v : Value} {xs : List α}
theorem Own.nil_ (E : Enc α) (S : Nat → Prop) (w : World) (base : Nat) (e : TypeId) : Own E S w base e (.slice none 0 0) [] := ⟨[], World.ownsRow_nil _ _ _ _, rfl⟩
theorem Own.form (h : Own E S w base e v xs) : ∃ A c, v = .slice A xs.length c ∧ (∀ a, A = some a → base ≤ a.block ∧ a.block < w.heap.size ∧ v.ownBlock = some a.block) := by
  obtain ⟨cs, hown, _⟩ := h
  rcases hown.2 with ⟨rfl, hn⟩ | ⟨g, cap, cur, rfl, hb, hg, _⟩
  · exact ⟨none, 0, by rw [hn], by simp⟩
  · exact ⟨_, cap, rfl, by rintro a ⟨⟩; exact ⟨hb, heap_lt hg, rfl⟩⟩
/-- As a slice to be read. -/
theorem Own.sl {A : Option Addr} {c : Nat} (h : Own E S w base e (.slice A xs.length c) xs) (hs : ∀ b, S b → b < w.heap.size → T b) (hT : ∀ b, base ≤ b → (Value.slice A xs.length c).ownBlock = some b → T b) : Sl E T w A c xs := by
  obtain ⟨cs, hown, hel⟩ := h
  rcases hown.2 with ⟨hv, hn⟩ | ⟨g, cap, cur, hv, hb, hg, hn, hm, _, _⟩
  · injection hv with h1 h2 h3
    have : xs = [] := List.eq_nil_of_length_eq_zero hn
    subst this; subst h3
    exact ⟨by simp, by unfold maxLen; omega, cs, by have : cs = [] := hel; subst this; exact RowAt.empty _ _ _, hel.sub hs⟩
  · have hcells := hown.cells (g := g) (by rw [hv]; rfl)
    injection hv with h1 h2 h3
    subst h1; subst h3
    exact ⟨hn, hm, cs, fun _ => ⟨_, rfl, hT g hb rfl, heap_lt hg, hcells⟩, hel.sub hs⟩
theorem Own.keep (h : Own E S w base e v xs) (ha : Agree S w w') (hg : ∀ g, v.ownBlock = some g → w'.heap[g]? = w.heap[g]?) : Own E S w' base e v xs := by
  obtain ⟨cs, hown, hel⟩ := h
  refine ⟨cs, ⟨hown.1, ?_⟩, hel.keep ha⟩
  rcases hown.2 with hn | ⟨g, cap, cur, rfl, hb, hgg, rest⟩
  · exact .inl hn
  · exact .inr ⟨g, cap, cur, rfl, hb, (hg g rfl).trans hgg, rest⟩
end

end Go.Proofs.Ytpdblgchfkcgpaa
namespace Go.Proofs.Ytpdblgchfkcgpaa
open Go.RowKit

/-- The slice type t has the element type e, whose values lie as E says. -/
structure SlT {α : Type} (P : Program) (t e : TypeId) (E : Enc α) (bytes : Nat) : Prop where
  und : P.underlying t = some (.slice e)
  info : (P.info? e).map (fun i => (i.zero.map (·.cells.size), i.size, i.bytes)) = some (some E.size, E.size, bytes)
  pos : 0 < E.size

theorem SlT.parts {α : Type} {P : Program} {t e : TypeId} {E : Enc α} {bytes : Nat} (T : SlT P t e E bytes) :
    ∃ (i : TypeInfo) (z : Value), P.info? e = some i ∧ i.zero = some z ∧ i.size = E.size ∧ i.bytes = bytes ∧ z.cells.size = E.size := by
  have h := T.info
  cases hi : P.info? e with
  | none => rw [hi] at h; cases h
  | some i =>
    rw [hi] at h
    simp only [Option.map_some, Option.some.injEq, Prod.mk.injEq] at h
    obtain ⟨hz, hs, hb⟩ := h
    cases hzz : i.zero with
    | none => rw [hzz] at hz; cases hz
    | some z =>
      rw [hzz] at hz
      simp only [Option.map_some, Option.some.injEq] at hz
      exact ⟨i, z, rfl, hzz, hs, hb, hz⟩

section
variable {α : Type} {E : Enc α} {S T : Nat → Prop} {w w' : World} {base : Nat} {e : TypeId} {v : Value} {xs : List α}
theorem Own.grown (h : Own E S w base e v xs) {row : Option Nat} (hg : w.grownBy w' row) (hv : v.ownBlock = none ∨ v.ownBlock ≠ row) (hS : ∀ g, row = some g → ¬ S g) : Own E S w' base e v xs := by
  obtain ⟨cs, hown, hel⟩ := h
  exact ⟨cs, hown.kept hg hv, hel.keep ((Agree.refl S w).grown hg hS)⟩
theorem Own.sub (h : Own E S w base e v xs) (hs : ∀ b, S b → b < w.heap.size → T b) : Own E T w base e v xs := by
  obtain ⟨cs, hown, hel⟩ := h
  exact ⟨cs, hown, hel.sub hs⟩
theorem Own.lt (h : Own E S w base e v xs) : ∀ k, v.ownBlock = some k → base ≤ k ∧ k < w.heap.size := by
  obtain ⟨cs, hown, _⟩ := h
  exact hown.lt
theorem Own.lower (h : Own E S w base e v xs) {base' : Nat} (hb : base' ≤ base) : Own E S w base' e v xs := by
  obtain ⟨cs, ⟨hl, h2⟩, hel⟩ := h
  refine ⟨cs, ⟨hl, ?_⟩, hel⟩
  rcases h2 with h2 | ⟨g, cap, cur, hv, hg, r⟩
  · exact .inl h2
  · exact .inr ⟨g, cap, cur, hv, Nat.le_trans hb hg, r⟩
theorem Own.alloc (h : Own E S w base e v xs) (o : Obj) : Own E S (w.alloc o) base e v xs := by
  obtain ⟨cs, hown, hel⟩ := h
  exact ⟨cs, hown.alloc o, hel.keep ((Agree.refl S w).alloc o)⟩
theorem Own.set (h : Own E S w base e v xs) {p : Addr} (hv : v.ownBlock ≠ some p.block) (hp : ¬ S p.block) (u : Value) : Own E S (w.setCell p u) base e v xs :=
  h.keep ((Agree.refl S w).set hp u) fun g hg => Below.heap_setCell _ _ _ _ (fun e => hv (by rw [hg, e]))
theorem Own.drewN (h : Own E S w base e v xs) (n : Nat) : Own E S (w.drewN n) base e v xs := by
  obtain ⟨cs, hown, hel⟩ := h
  exact ⟨cs, hown, hel.keep ((Agree.refl S w).drewN n)⟩
theorem Own.call (h : Own E S w base e v xs) (hb : Below w.heap.size w w') : Own E S w' base e v xs :=
  h.keep ((Agree.refl S w).call hb) fun g hg => hb.block g (h.lt g hg).2
theorem Own.only {g : Nat} (h : Own E S w base e v xs) (ha : Agree (fun b => b ≠ g) w w') (hg : g < base) (hS : ¬ S g) : Own E S w' base e v xs :=
  h.keep (ha.sub fun _ hb e => hS (e ▸ hb)) fun k hk => ha.2 k (by have := (h.lt k hk).1; omega) (h.lt k hk).2
theorem Sl.only {A : Option Addr} {c g : Nat} (h : Sl E S w A c xs) (ha : Agree (fun b => b ≠ g) w w') (hS : ¬ S g) : Sl E S w' A c xs := h.keep (ha.sub fun _ hb e => hS (e ▸ hb))
theorem Sl.drew {A : Option Addr} {c : Nat} (h : Sl E S w A c xs) : Sl E S w.drew A c xs := h.keep (Agree.refl S w).drew
theorem Own.drew (h : Own E S w base e v xs) : Own E S w.drew base e v xs := by
  obtain ⟨cs, hown, hel⟩ := h
  exact ⟨cs, hown, hel.keep (Agree.refl S w).drew⟩
theorem Own.litAt {α : Type} (E : Enc α) (S : Nat → Prop) (w : World) {base g : Nat} (e : TypeId) (hg : w.heap.size = g) (hb : base ≤ g) : Own E S (w.alloc (.cells #[] e)) base e (.slice (some ⟨g, 0, none⟩) 0 0) [] := by
  subst hg
  exact ⟨[], World.ownsRow_made w #[] 0 hb (by unfold maxLen; omega) (by simp), rfl⟩
/-- A literal of the elements xs, in a new block. -/
theorem Sl.lit {cs : List Value} (h : Elems E S w cs xs) (hm : xs.length ≤ maxLen) (hs : ∀ b, S b → b < w.heap.size → T b) (hT : T w.heap.size) :
    Sl E T (w.alloc (.cells cs.toArray e)) (some ⟨w.heap.size, 0, none⟩) xs.length xs :=
  ⟨Nat.le_refl _, hm, cs, fun _ => ⟨_, rfl, hT, by simp, fun j u hu => by rw [Addr.add_lit, cell_of_row _ _ _ _ _ _ (heap_alloc_new w _)]; simpa using hu⟩, (h.sub hs).keep ((Agree.refl T w).alloc _)⟩
theorem Below.agree (h : Below w.heap.size w w') : Agree S w w' := (Agree.refl S w).call h
/-- An empty literal, and what 'make' leaves at length 0. -/
theorem Own.lit0 {α : Type} (E : Enc α) (S : Nat → Prop) (w : World) {base : Nat} (e : TypeId) (hb : base ≤ w.heap.size) : Own E S (w.alloc (.cells #[] e)) base e (.slice (some ⟨w.heap.size, 0, none⟩) 0 0) [] :=
  ⟨[], World.ownsRow_made w #[] 0 hb (by unfold maxLen; omega) (by simp), rfl⟩
end

section
variable {α : Type} {E : Enc α} {P : Program} {t ty e : TypeId} {bytes : Nat} {S : Nat → Prop} {w : World}

theorem run_append_E (T : SlT P t e E bytes) {base : Nat} {v : Value} {xs ys : List α} {A : Option Addr} {c : Nat} (h : Own E S w base e v xs) (k : Sl E S w A c ys)
    (h63 : xs.length + ys.length ≤ maxLen) (hbytes : (xs.length + ys.length) * bytes ≤ 140737488355328) (hbase : base ≤ w.heap.size) (hS : ∀ g, v.ownBlock = some g → ¬ S g) :
    ∃ v' w', (Builtin.append_ #[t, t] ty #[v, .slice A ys.length c]).run P w = .ok v' w' ∧ Own E S w' base e v' (xs ++ ys) ∧ w.grownBy w' v.ownBlock ∧ (v'.ownBlock = v.ownBlock ∨ v'.ownBlock = some w.heap.size) := by
  obtain ⟨i, z, hi, hz, hsz, hby, hzs⟩ := T.parts
  obtain ⟨cs, hown, hel⟩ := h
  obtain ⟨_, _, ds, hr, hel2⟩ := k
  by_cases hne : ds = []
  · subst hne
    have hy : ys = [] := by
      have h1 := hel2.len
      have h2 := T.pos
      rcases ys with _ | ⟨y, ys⟩
      · rfl
      · simp [Nat.add_mul] at h1; omega
    subst hy
    refine ⟨v, w, ?_, ⟨cs, by simpa using hown, by simpa using hel⟩, World.grownBy.refl w _, .inl rfl⟩
    rcases A with _ | ad
    · rcases hown.2 with ⟨rfl, hn⟩ | ⟨g, cap, cur, rfl, _, _, hnc, _⟩
      · simp [Builtin.append_, run_underlying T.und, sizeOf, typeInfo, hi, Builtin.lenOf, Builtin.firstCells]
      · simp [Builtin.append_, run_underlying T.und, sizeOf, typeInfo, hi, Builtin.lenOf, Builtin.firstCells, hnc, storeCells]
    · rcases hown.2 with ⟨rfl, hn⟩ | ⟨g, cap, cur, rfl, _, _, hnc, _⟩
      · simp [Builtin.append_, run_underlying T.und, sizeOf, typeInfo, hi, Builtin.lenOf, Builtin.firstCells, loadCells, loadCellsFrom]
      · simp [Builtin.append_, run_underlying T.und, sizeOf, typeInfo, hi, Builtin.lenOf, Builtin.firstCells, hnc, storeCells, loadCells, loadCellsFrom]
  · obtain ⟨ad, rfl, hSa, hlt, hc⟩ := hr hne
    obtain ⟨v', w', hrun, h2, h3, _, h5⟩ := run_append_own_at (P := P) w base t ty e i z E.size bytes T.und hi hz hsz hby hzs T.pos v xs.length cs hown ad ys.length c ds hel2.len hc hel2.one h63 hbytes hbase
    have hag := (Agree.refl S w).grown h3 hS
    exact ⟨v', w', hrun, ⟨_, by rw [List.length_append]; exact h2, (hel.keep hag).append (hel2.keep hag)⟩, h3, h5⟩

/-- Onto a slice with no spare capacity: a new block, unless nothing is appended. -/
theorem run_append_full (T : SlT P t e E bytes) {xs ys : List α} {A B : Option Addr} {c : Nat} (h : Sl E S w A xs.length xs) (k : Sl E S w B c ys) (hy : ys ≠ [])
    (h63 : xs.length + ys.length ≤ maxLen) (hbytes : (xs.length + ys.length) * bytes ≤ 140737488355328) (hA : A = none → True) :
    ∃ v' w', (Builtin.append_ #[t, t] ty #[.slice A xs.length xs.length, .slice B ys.length c]).run P w = .ok v' w' ∧ Own E S w' w.heap.size e v' (xs ++ ys) ∧ Below w.heap.size w w' := by
  obtain ⟨i, z, hi, hz, hsz, hby, hzs⟩ := T.parts
  have _ := hA
  obtain ⟨_, _, cs, hrc, hel⟩ := h
  obtain ⟨_, _, ds, hr, hel2⟩ := k
  have hyl : 0 < ys.length := List.length_pos_iff.2 hy
  have hne : ds ≠ [] := fun e => by
    have h1 := hel2.len
    have h2 := Nat.mul_pos hyl T.pos
    rw [e] at h1; simp at h1; omega
  obtain ⟨b, rfl, hSb, hltb, hcb⟩ := hr hne
  have hsm : ((xs.length + ys.length : Nat) : Int) ≤ 9223372036854775807 := by unfold maxLen at h63; omega
  have fin : ∀ (old : Nat), old < xs.length + ys.length → 
      Own E S (w.drew.alloc (.cells (cs.toArray ++ ds.toArray ++ Builtin.zeroCells z.cells (grownCap w (xs.length + ys.length) old e - (xs.length + ys.length))) e)) w.heap.size e
        (.slice (some ⟨w.heap.size, 0, none⟩) (xs.length + ys.length) (grownCap w (xs.length + ys.length) old e)) (xs ++ ys) ∧
      Below w.heap.size w (w.drew.alloc (.cells (cs.toArray ++ ds.toArray ++ Builtin.zeroCells z.cells (grownCap w (xs.length + ys.length) old e - (xs.length + ys.length))) e)) := by
    intro old ho
    have hge := grownCap_ge w (xs.length + ys.length) old e
    have hcm : grownCap w (xs.length + ys.length) old e ≤ maxLen := grownCap_le_maxLen w (xs.length + ys.length) old e h63
    have hag : Agree S w (w.drew.alloc (.cells (cs.toArray ++ ds.toArray ++ Builtin.zeroCells z.cells (grownCap w (xs.length + ys.length) old e - (xs.length + ys.length))) e)) := ((Agree.refl S w).drew).alloc _
    have hlen : (cs ++ ds).length = (xs ++ ys).length * E.size := by rw [List.length_append, hel.len, hel2.len, List.length_append, Nat.add_mul]
    refine ⟨⟨cs ++ ds, ⟨hlen, .inr ⟨w.heap.size, _, _, by rw [List.length_append], Nat.le_refl _, heap_alloc_new w.drew _, by rw [List.length_append]; exact hge, hcm, ?_, ?_⟩⟩, (hel.keep hag).append (hel2.keep hag)⟩,
      ((Below.refl _ _).drew).alloc (Nat.le_refl _) _⟩
    · simp only [Array.size_append, List.size_toArray, size_zeroCells, hzs, hel.len, hel2.len, ← Nat.add_mul]
      congr 1
      omega
    · rw [← hlen]
      simp only [Array.toList_append, List.append_assoc]
      rw [← List.append_assoc]
      exact List.take_left
  rcases A with _ | a
  · have hcs : cs = [] := by
      rcases cs with _ | ⟨c0, cs⟩
      · rfl
      · obtain ⟨a, ha, _⟩ := hrc (by simp)
        cases ha
    have hx : xs = [] := by
      have h1 := hel.len
      have h2 := T.pos
      rcases xs with _ | ⟨x, xs⟩
      · rfl
      · subst hcs; simp [Nat.add_mul] at h1; omega
    subst hx; subst hcs
    have hrun := run_append_nil (P := P) w t ty e i z T.und hi hz b ys.length c ds (by rw [hsz]; exact hel2.len) hcb hyl (by simpa using hsm) (by rw [hby]; simp at hbytes; omega)
    have hf := fin 0 (by simp; omega)
    simp only [List.length_nil, Nat.zero_add, List.nil_append, Array.empty_append] at hf ⊢
    exact ⟨_, _, hrun, hf⟩
  · have hcc : ∀ j u, cs[j]? = some u → w.cell? (a.add j) = some u := by
      intro j u hu
      by_cases hcs : cs = []
      · subst hcs; simp at hu
      · obtain ⟨a', ha, _, _, hc⟩ := hrc hcs
        cases ha
        exact hc j u hu
    have hrun := run_append_grow (P := P) w t ty e i z T.und hi hz a xs.length xs.length cs (by rw [hsz]; exact hel.len) hcc b ys.length c ds (by rw [hsz]; exact hel2.len) hcb (by omega) hsm (growslice_fits (by omega) (by rw [hby]; exact hbytes))
    exact ⟨_, _, hrun, fin xs.length (by omega)⟩

theorem own_or {v v' : Value} {n g : Nat} (h3 : v'.ownBlock = v.ownBlock ∨ v'.ownBlock = some n) (hg : v'.ownBlock = some g) : v.ownBlock = some g ∨ n = g := by
  rcases h3 with h | h
  · exact .inl (h.symm.trans hg)
  · rw [hg] at h; injection h with h; exact .inr h.symm

/-! The same at an operation. -/
theorem wp_append_run {o : Oper} {a : Act} {K : Act → World → Prop} {Q : Exit → Act → World → Prop} {s x : Operand}
    (ho : o.op = .call { callee := .builtin .append, args := #[s, x], argTypes := #[t, t] }) {v u v' : Value} {w' : World} (hs : a.eval s = v) (hx : a.eval x = u)
    (hrun : (Builtin.append_ #[t, t] o.type #[v, u]).run P w = .ok v' w') (h : K (a.put o.dst v') w') : o.wp P a w K Q := by
  unfold Oper.wp execOp
  simp only [ho, resolve, invoke, builtin, Sem.run_bind, Sem.run_pure, Result.andThen_ok, List.map_toArray, List.map_cons, List.map_nil, hs, hx, hrun]
  exact h

theorem wpList_append_E {ops : Array Oper} {rest : List Oper} {o : Oper} {a : Act} {Q : Exit → Act → World → Prop} (hgd : o.guard = none) (s x : Operand)
    (ho : o.op = .call { callee := .builtin .append, args := #[s, x], argTypes := #[t, t] }) (T : SlT P t e E bytes) {base : Nat} {v : Value} {xs ys : List α} {A : Option Addr} {c : Nat}
    {m : Nat} (hs : a.eval s = v) (hx : a.eval x = .slice A m c) (hm : ys.length = m) {nz : Nat} (hnz : (xs ++ ys).length = nz) (h : Own E S w base e v xs) (k : Sl E S w A c ys)
    (h63 : xs.length + ys.length ≤ maxLen) (hbytes : (xs.length + ys.length) * bytes ≤ 140737488355328) (hbase : base ≤ w.heap.size) (hS : ∀ g, v.ownBlock = some g → ¬ S g)
    (H : ∀ A' c' w', Own E S w' base e (.slice A' nz c') (xs ++ ys) → w.grownBy w' v.ownBlock → (∀ g, (Value.slice A' nz c').ownBlock = some g → v.ownBlock = some g ∨ w.heap.size = g) → wpList P ops Q rest (a.put o.dst (.slice A' nz c')) w') : wpList P ops Q (o :: rest) a w := by
  subst hm; subst hnz
  obtain ⟨v', w', hrun, h1, h2, h3⟩ := run_append_E (ty := o.type) T h k h63 hbytes hbase hS
  obtain ⟨A', c', rfl, _⟩ := h1.form
  exact wpList_plain hgd fun _ hK => wp_append_run ho hs hx hrun (hK _ _ (H A' c' w' h1 h2 fun g hg => own_or h3 hg))
theorem step_append_full {ops : Array Oper} {o : Oper} {a : Act} {K : Act → World → Prop} {Q : Exit → Act → World → Prop} {F : Prop} (hgd : o.guard = none) (s x : Operand)
    (ho : o.op = .call { callee := .builtin .append, args := #[s, x], argTypes := #[t, t] }) (T : SlT P t e E bytes) {xs ys : List α} {A B : Option Addr} {c : Nat}
    {n m : Nat} (hs : a.eval s = .slice A n n) (hn : xs.length = n) (hx : a.eval x = .slice B m c) (hm : ys.length = m) {nz : Nat} (hnz : (xs ++ ys).length = nz) (h : Sl E S w A xs.length xs) (k : Sl E S w B c ys) (hy : ys ≠ [])
    (h63 : xs.length + ys.length ≤ maxLen) (hbytes : (xs.length + ys.length) * bytes ≤ 140737488355328)
    (H : ∀ A' c' w', Own E S w' w.heap.size e (.slice A' nz c') (xs ++ ys) → Below w.heap.size w w' → K (a.put o.dst (.slice A' nz c')) w') :
    if Region.wanted o (yielded ops a.tmps) = true then Oper.wp P o a w K Q else F := by
  subst hm; subst hn; subst hnz
  obtain ⟨v', w', hrun, h1, h2⟩ := run_append_full (ty := o.type) T h k hy h63 hbytes (fun _ => trivial)
  have hw : Region.wanted o (yielded ops a.tmps) = true := by simp [Region.wanted, hgd]
  rw [if_pos hw]
  obtain ⟨A', c', rfl, _⟩ := h1.form
  exact wp_append_run ho hs hx hrun (H A' c' w' h1 h2)
end

theorem u8_cells {S : Nat → Prop} {w : World} : ∀ {l : List UInt8} {cs : List Value}, Elems .u8 S w cs l → cs = l.map fun b => .int .u8 (b.toNat : Int)
  | [], _, h => h
  | b :: l, _, ⟨c, d, e, h1, h2⟩ => by
    have h1' : c = [.int .u8 (b.toNat : Int)] := h1
    rw [e, h1', u8_cells h2]; rfl
/-- 'string(b)' of bytes. -/
theorem conv_bytes {P : Program} {S : Nat → Prop} {w : World} {A : Option Addr} {c : Nat} {l : List UInt8} {src dst e : TypeId} (hs : P.underlying src = some (.slice e)) (he : P.underlying e = some (.int .u8)) (hd : P.underlying dst = some .string)
    (h : Sl .u8 S w A c l) : (convert src dst (.slice A l.length c)).run P w = .ok (.string ⟨l.toArray⟩) w := by
  obtain ⟨_, _, cs, hr, hel⟩ := h
  have hcs := u8_cells hel
  rcases A with _ | a
  · have hl : l = [] := by
      rcases l with _ | ⟨b, l⟩
      · rfl
      · obtain ⟨a, ha, _⟩ := hr (by rw [hcs]; simp)
        cases ha
    subst hl
    exact run_convert_bytes_nil w src e hs he _ _ dst hd
  · refine run_convert_bytes_back w src dst e a c l hs he hd fun j hj => ?_
    obtain ⟨a', ha, _, _, hc⟩ := hr (by rw [hcs]; intro e; rw [List.map_eq_nil_iff] at e; rw [e] at hj; simp at hj)
    injection ha with ha
    subst ha
    exact hc j _ (by rw [hcs, List.getElem?_map, List.getElem?_eq_getElem hj]; rfl)
end Go.Proofs.Ytpdblgchfkcgpaa
namespace Go.Proofs.Ytpdblgchfkcgpaa
open Go.RowKit

section
variable {P : Program} {base : Nat} {e : TypeId} {size g n cap : Nat} {w : World} {cs vs : List Value}

theorem row_cur (h : w.ownsRow base e size (.slice (some ⟨g, 0, none⟩) n cap) n cs) :
    ∃ cur : Array Value, base ≤ g ∧ w.heap[g]? = some (.cells cur e (0, 0)) ∧ n ≤ cap ∧ cap ≤ maxLen ∧ cur.size = cap * size ∧ cur.toList.take (n * size) = cs ∧ cs.length = n * size := by
  rcases h.2 with ⟨hv, _⟩ | ⟨g', cap', cur, hv, hb, hg, h1, h2, h3, h4⟩
  · cases hv
  · injection hv with e1 e2 e3
    injection e1 with e1
    injection e1 with e1
    subst e1; subst e3
    exact ⟨cur, hb, hg, h1, h2, h3, h4, h.1⟩

end

section
variable {α : Type} {E : Enc α} {P : Program} {t ty e : TypeId} {bytes : Nat} {S : Nat → Prop} {w : World} {base g n cap : Nat} {cs : List Value}

end
end Go.Proofs.Ytpdblgchfkcgpaa
namespace Go.Proofs.Ytpdblgchfkcgpaa
open Go.RowKit

section
variable {α : Type} {E : Enc α} {S : Nat → Prop} {w : World} {base n c g : Nat} {e : TypeId} {xs : List α}
theorem Own.block {A : Option Addr} (h : Own E S w base e (.slice A n c) xs) (hn : 0 < n) : ∃ g, A = some ⟨g, 0, none⟩ ∧ base ≤ g ∧ g < w.heap.size ∧ n = xs.length := by
  obtain ⟨cs, hown, _⟩ := h
  rcases hown.2 with ⟨hv, _⟩ | ⟨g, cap, cur, hv, hb, hg, _⟩
  · injection hv with h1 h2 h3; omega
  · injection hv with h1 h2 h3
    exact ⟨g, h1, hb, heap_lt hg, h2⟩
theorem Own.len {A : Option Addr} (h : Own E S w base e (.slice A n c) xs) : n = xs.length := by
  obtain ⟨A', c', hv, _⟩ := h.form
  injection hv
theorem Own.frozen (h : Own E S w base e (.slice (some ⟨g, 0, none⟩) n c) xs) (j : Nat) : w.frozen? ⟨g, j, none⟩ = false := by
  obtain ⟨cs, hown, _⟩ := h
  obtain ⟨cur, _, hg, _⟩ := row_cur (by have := hown; rw [(show n = xs.length from by rcases hown.2 with ⟨hv, _⟩ | ⟨_, _, _, hv, _⟩; cases hv; injection hv)] at this; exact this)
  simp [World.frozen?, hg]
theorem Own.toSl {T : Nat → Prop} {A : Option Addr} (h : Own E S w base e (.slice A n c) xs) (hs : ∀ b, S b → b < w.heap.size → T b) (hT : ∀ b, base ≤ b → b < w.heap.size → (Value.slice A n c).ownBlock = some b → T b) : Sl E T w A c xs := by
  have hn := h.len
  subst hn
  exact h.sl hs fun b hb hv => hT b hb (h.lt b hv).2 hv
/-- Element k's cells. -/
theorem Own.at_ {k : Nat} {x : α} (h : Own E S w base e (.slice (some ⟨g, 0, none⟩) n c) xs) (hx : xs[k]? = some x) :
    ∃ cs : List Value, E.rep S w cs x ∧ ∀ j u, cs[j]? = some u → w.cell? ⟨g, k * E.size + j, none⟩ = some u := by
  obtain ⟨cs, hown, hel⟩ := h
  refine ⟨_, hel.at_ hx, fun j u hu => ?_⟩
  rw [List.getElem?_take] at hu
  split at hu
  · rw [List.getElem?_drop] at hu
    have h1 := hown.cells (g := g) rfl _ u hu
    rw [Addr.add_lit] at h1
    simpa using h1
  · cases hu
/-- One cell written: the row of cells. -/
theorem Own.stored {j : Nat} {u : Value} {ys : List α} (h : Own E S w base e (.slice (some ⟨g, 0, none⟩) n c) xs) (hS : ¬ S g) (hl : ys.length = xs.length)
    (hset : ∀ cs, Elems E S w cs xs → Elems E S w (cs.set j u) ys) (hu : u.oneCell' = true) : Own E S (w.setCell ⟨g, j, none⟩ u) base e (.slice (some ⟨g, 0, none⟩) n c) ys := by
  have hn := h.len
  obtain ⟨cs, hown, hel⟩ := h
  subst hn
  have _ := hu
  refine ⟨cs.set j u, ?_, (hset cs hel).keep ((Agree.refl S w).set hS u)⟩
  rw [hl]
  exact (hown.stored j u).1
end

theorem u8_elems {S : Nat → Prop} {w : World} : ∀ (l : List UInt8), Elems .u8 S w (l.map fun b => .int .u8 (b.toNat : Int)) l
  | [] => rfl
  | _ :: l => ⟨[_], _, rfl, rfl, u8_elems l⟩
end Go.Proofs.Ytpdblgchfkcgpaa
namespace Go.Proofs.Ytpdblgchfkcgpaa
open Go.RowKit

theorem heap_set {w : World} {g i : Nat} {cs : Array Value} {t : TypeId} {u : Value} (h : w.heap[g]? = some (.cells cs t (0, 0))) : (w.setCell ⟨g, i, none⟩ u).heap[g]? = some (.cells (cs.setIfInBounds i u) t (0, 0)) := by
  simp [World.setCell, Array.getElem?_modify, h]
theorem grown_set {w w' : World} {g : Nat} (h : w.grownBy w' (some g)) (i : Nat) (u : Value) : w.grownBy (w'.setCell ⟨g, i, none⟩ u) (some g) :=
  ⟨h.os, h.tape, h.output, by simpa [World.setCell] using h.size, fun k hk hne => (Below.heap_setCell _ _ _ _ (by intro e; subst e; exact hne rfl)).trans (h.block k hk hne)⟩

theorem Sl.litAt {α : Type} {E : Enc α} {S T : Nat → Prop} {w : World} {e : TypeId} {xs : List α} {cs : List Value} {g : Nat} (hg : w.heap.size = g) (h : Elems E S w cs xs) (hm : xs.length ≤ maxLen) (hs : ∀ b, S b → b < w.heap.size → T b) (hT : T g) :
    Sl E T (w.alloc (.cells cs.toArray e)) (some ⟨g, 0, none⟩) xs.length xs := by
  subst hg
  exact Sl.lit h hm hs hT
/-- Boxes kept, and nothing below the call's beginning turned. -/
structure KB (N : Nat) (gs : List (Nat × Nat)) (W0 w W : World) : Prop where
  keep : Keep N gs W0 W
  below : Below w.heap.size w W
  base : w.heap.size ≤ N
  hi : ∀ p ∈ gs, w.heap.size ≤ p.1
section
variable {N : Nat} {gs : List (Nat × Nat)} {W0 w W W' : World}
theorem KB.size (h : KB N gs W0 w W) : w.heap.size ≤ W.heap.size := h.below.size
theorem KB.drew (h : KB N gs W0 w W) : KB N gs W0 w W.drew := ⟨h.keep.drew, h.below.drew, h.base, h.hi⟩
theorem KB.drewN (h : KB N gs W0 w W) (n : Nat) : KB N gs W0 w (W.drewN n) := ⟨h.keep.drewN n, ⟨h.below.os, h.below.tape, h.below.output, h.below.size, h.below.block⟩, h.base, h.hi⟩
theorem KB.alloc (h : KB N gs W0 w W) (o : Obj) : KB N gs W0 w (W.alloc o) := ⟨h.keep.alloc o, h.below.alloc h.size o, h.base, h.hi⟩
theorem KB.call (h : KB N gs W0 w W) (hb : Below W.heap.size W W') : KB N gs W0 w W' := ⟨h.keep.call hb, h.below.trans (hb.mono h.size), h.base, h.hi⟩
theorem KB.grown (h : KB N gs W0 w W) {row : Option Nat} (hg : W.grownBy W' row) (hr : ∀ k, row = some k → N ≤ k ∧ ∀ p ∈ gs, p.1 ≠ k) : KB N gs W0 w W' :=
  ⟨h.keep.grown hg hr, h.below.grown hg h.size fun k hk => Nat.le_trans h.base (hr k hk).1, h.base, h.hi⟩
theorem KB.set (h : KB N gs W0 w W) {p : Addr} (hp : ∃ q ∈ gs, q.1 = p.block) (u : Value) : KB N gs W0 w (W.setCell p u) :=
  ⟨h.keep.set hp u, h.below.setCell (by obtain ⟨q, hq, e⟩ := hp; rw [← e]; exact h.hi q hq) u, h.base, h.hi⟩
theorem KB.agree (h : KB N [] W0 w W) (hN : N = W0.heap.size) : Agree (fun b => b < N) W0 W := ⟨by rw [← hN]; exact h.keep.le, fun b hb _ => h.keep.old b hb (by simp)⟩
theorem KB.rules (N : Nat) (gs : List (Nat × Nat)) (W0 w : World) :
    (∀ W, KB N gs W0 w W → ∀ b o, b < N → (∀ p ∈ gs, p.1 ≠ b) → W.cell? ⟨b, o, none⟩ = W0.cell? ⟨b, o, none⟩) ∧
    (∀ W, KB N gs W0 w W → ∀ b o, b < N → (∀ p ∈ gs, p.1 ≠ b) → W.frozen? ⟨b, o, none⟩ = W0.frozen? ⟨b, o, none⟩) ∧
    (∀ W, KB N gs W0 w W → ∀ b o, (∃ p ∈ gs, p.1 = b ∧ o < p.2) → W.cell? ⟨b, o, none⟩ = some (cellOf W ⟨b, o, none⟩)) ∧
    (∀ W, KB N gs W0 w W → ∀ b o, (∃ p ∈ gs, p.1 = b) → W.frozen? ⟨b, o, none⟩ = false) ∧
    (∀ W, KB N gs W0 w W → ∀ b, b < N → b < W.heap.size) :=
  ⟨fun W h => Keep.cell N gs W0 W h.keep, fun W h => Keep.frozen N gs W0 W h.keep, fun W h => Keep.boxCell N gs W0 W h.keep, fun W h => Keep.boxFrozen N gs W0 W h.keep, fun W h => Keep.lt N gs W0 W h.keep⟩
end
end Go.Proofs.Ytpdblgchfkcgpaa
