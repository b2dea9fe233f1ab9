/-
  Words for memory, of no program: which blocks a reading lies in, slices that read as lists, rows of a call's own.
-/
import Derived.Below
import Derived.Laws.OwnMore
import Derived.Maps.AppendAt
import Derived.Deep.AppendLies
import Derived.Deep.Draws
import Derived.RegionTactic
import Derived.OwnWalk
import Derived.Lib.Hide
namespace Go.Proofs.YtihcaoipemcddaaDoor
open Go.RowKit

theorem block_add (a : Addr) (n : Nat) : (a.add n).block = a.block := by unfold Addr.add; split <;> rfl
theorem add_add' (a : Addr) (i j : Nat) : (a.add i).add j = a.add (i + j) := by
  unfold Addr.add
  by_cases hi : i = 0 <;> by_cases hj : j = 0 <;> simp [hi, hj, Nat.add_assoc]
theorem heap_lt {w : World} {b : Nat} {o : Obj} (h : w.heap[b]? = some o) : b < w.heap.size := by
  rcases Nat.lt_or_ge b w.heap.size with h' | h'
  · exact h'
  · rw [Array.getElem?_eq_none h'] at h; cases h

/-- On the blocks of S the second world is as the first was. -/
def Agree (S : Nat → Prop) (w w' : World) : Prop := w.heap.size ≤ w'.heap.size ∧ ∀ b, S b → b < w.heap.size → w'.heap[b]? = w.heap[b]?

section
variable {S T : Nat → Prop} {w w' w'' : World}
theorem Agree.refl (S : Nat → Prop) (w : World) : Agree S w w := ⟨Nat.le_refl _, fun _ _ _ => rfl⟩
theorem Agree.trans (h : Agree S w w') (k : Agree S w' w'') : Agree S w w'' :=
  ⟨Nat.le_trans h.1 k.1, fun b hb hlt => (k.2 b hb (Nat.lt_of_lt_of_le hlt h.1)).trans (h.2 b hb hlt)⟩
theorem Agree.sub (h : Agree T w w') (hs : ∀ b, S b → T b) : Agree S w w' := ⟨h.1, fun b hb => h.2 b (hs b hb)⟩
theorem Agree.alloc (h : Agree S w w') (o : Obj) : Agree S w (w'.alloc o) :=
  h.trans ⟨by simp, fun b _ hlt => Below.heap_alloc _ _ _ hlt⟩
theorem Agree.drew (h : Agree S w w') : Agree S w w'.drew := h
theorem Agree.drewN (h : Agree S w w') (n : Nat) : Agree S w (w'.drewN n) := h
theorem Agree.set (h : Agree S w w') {p : Addr} (hp : ¬ S p.block) (u : Value) : Agree S w (w'.setCell p u) :=
  h.trans ⟨by simp [World.setCell], fun b hb _ => Below.heap_setCell _ _ _ _ (fun e => hp (e ▸ hb))⟩
theorem Agree.below (h : Agree S w w') {B : Nat} (hb : Below B w' w'') (hs : ∀ b, S b → b < w.heap.size → b < B) : Agree S w w'' :=
  ⟨Nat.le_trans h.1 hb.size, fun b hS hlt => (hb.block b (hs b hS hlt)).trans (h.2 b hS hlt)⟩
theorem Agree.call (h : Agree S w w') (hb : Below w'.heap.size w' w'') : Agree S w w'' :=
  h.below hb fun _ _ hlt => Nat.lt_of_lt_of_le hlt h.1
theorem Agree.grown (h : Agree S w w') {row : Option Nat} (hg : w'.grownBy w'' row) (hr : ∀ g, row = some g → ¬ S g) : Agree S w w'' :=
  ⟨Nat.le_trans h.1 hg.size, fun b hS hlt => (hg.block b (Nat.lt_of_lt_of_le hlt h.1) (fun e => hr b e.symm hS)).trans (h.2 b hS hlt)⟩
end

/-- The cells from A on, in a block of S, are cs. -/
def RowAt (S : Nat → Prop) (w : World) (A : Option Addr) (cs : List Value) : Prop :=
  cs ≠ [] → ∃ a : Addr, A = some a ∧ S a.block ∧ a.block < w.heap.size ∧ ∀ j u, cs[j]? = some u → w.cell? (a.add j) = some u

section
variable {S T : Nat → Prop} {w w' : World} {A : Option Addr} {cs ds : List Value}
theorem RowAt.empty (S : Nat → Prop) (w : World) (A : Option Addr) : RowAt S w A [] := fun h => absurd rfl h
theorem RowAt.keep (h : RowAt S w A cs) (k : Agree S w w') : RowAt S w' A cs := fun hne => by
  obtain ⟨a, hA, hS, hlt, hc⟩ := h hne
  exact ⟨a, hA, hS, Nat.lt_of_lt_of_le hlt k.1, fun j u hu => (World.cell?_of_block (by rw [block_add]; exact k.2 _ hS hlt)).trans (hc j u hu)⟩
theorem RowAt.sub (h : RowAt S w A cs) (hs : ∀ b, S b → b < w.heap.size → T b) : RowAt T w A cs := fun hne => by
  obtain ⟨a, hA, hS, hlt, hc⟩ := h hne
  exact ⟨a, hA, hs _ hS hlt, hlt, hc⟩
theorem RowAt.take (h : RowAt S w A cs) (k : Nat) : RowAt S w A (cs.take k) := fun hne => by
  have hne' : cs ≠ [] := fun e => hne (by simp [e])
  obtain ⟨a, hA, hS, hlt, hc⟩ := h hne'
  refine ⟨a, hA, hS, hlt, fun j u hu => hc j u ?_⟩
  rw [List.getElem?_take] at hu
  split at hu
  · exact hu
  · cases hu
theorem RowAt.drop (h : RowAt S w A cs) (k : Nat) : RowAt S w (A.map (·.add k)) (cs.drop k) := fun hne => by
  have hne' : cs ≠ [] := fun e => hne (by simp [e])
  obtain ⟨a, rfl, hS, hlt, hc⟩ := h hne'
  refine ⟨a.add k, rfl, by rw [block_add]; exact hS, by rw [block_add]; exact hlt, fun j u hu => ?_⟩
  rw [add_add']
  exact hc _ u (by rw [← hu, List.getElem?_drop])
end

/-- What stays behind an append onto block g, said as two rules for the walk. -/
theorem gcell {W w1 : World} {g : Nat} (hg : W.grownBy w1 (some g)) (hW : g ≤ W.heap.size) :
    (∀ b o, b < g → w1.cell? ⟨b, o, none⟩ = W.cell? ⟨b, o, none⟩) ∧ (∀ b o, b < g → w1.frozen? ⟨b, o, none⟩ = W.frozen? ⟨b, o, none⟩) :=
  ⟨fun b o h => World.cell?_of_block (hg.block b (by omega) (by intro e; injection e; omega)), fun b o h => World.frozen?_of_block (hg.block b (by omega) (by intro e; injection e; omega))⟩
theorem bcell {W w1 : World} (hb : Below W.heap.size W w1) :
    (∀ b o, b < W.heap.size → w1.cell? ⟨b, o, none⟩ = W.cell? ⟨b, o, none⟩) ∧ (∀ b o, b < W.heap.size → w1.frozen? ⟨b, o, none⟩ = W.frozen? ⟨b, o, none⟩) :=
  ⟨fun b o h => hb.cell (p := ⟨b, o, none⟩) h, fun b o h => hb.frozen (p := ⟨b, o, none⟩) h⟩

theorem bcellk {W w1 : World} {k : Nat} (hb : Below W.heap.size W w1) (hk : k ≤ W.heap.size) :
    (∀ b o, b < k → w1.cell? ⟨b, o, none⟩ = W.cell? ⟨b, o, none⟩) ∧ (∀ b o, b < k → w1.frozen? ⟨b, o, none⟩ = W.frozen? ⟨b, o, none⟩) :=
  ⟨fun b o h => hb.cell (p := ⟨b, o, none⟩) (Nat.lt_of_lt_of_le h hk), fun b o h => hb.frozen (p := ⟨b, o, none⟩) (Nat.lt_of_lt_of_le h hk)⟩

def cellOf (W : World) (a : Addr) : Value := (W.cell? a).getD default
/-- The boxes of a call: gs are those that are still written (block, number of cells); all other blocks below N are as they were in W0. -/
structure Keep (N : Nat) (gs : List (Nat × Nat)) (W0 W : World) : Prop where
  le : N ≤ W.heap.size
  old : ∀ b, b < N → (∀ p ∈ gs, p.1 ≠ b) → W.heap[b]? = W0.heap[b]?
  box : ∀ p ∈ gs, ∃ cs t, W.heap[p.1]? = some (.cells cs t (0, 0)) ∧ cs.size = p.2
section
variable {N : Nat} {gs : List (Nat × Nat)} {W0 W W' : World}
theorem Keep.drew (h : Keep N gs W0 W) : Keep N gs W0 W.drew := ⟨h.le, h.old, h.box⟩
theorem Keep.drewN (h : Keep N gs W0 W) (n : Nat) : Keep N gs W0 (W.drewN n) := ⟨h.le, h.old, h.box⟩
theorem Keep.heap (h : Keep N gs W0 W) (hs : W.heap.size ≤ W'.heap.size) (hb : ∀ b, b < W.heap.size → b < N ∨ (∃ p ∈ gs, p.1 = b) → W'.heap[b]? = W.heap[b]?) : Keep N gs W0 W' :=
  ⟨Nat.le_trans h.le hs, fun b hN hg => (hb b (Nat.lt_of_lt_of_le hN h.le) (.inl hN)).trans (h.old b hN hg), fun p hp => by
    obtain ⟨cs, t, h1, h2⟩ := h.box p hp
    exact ⟨cs, t, (hb p.1 (heap_lt h1) (.inr ⟨p, hp, rfl⟩)).trans h1, h2⟩⟩
theorem Keep.alloc (h : Keep N gs W0 W) (o : Obj) : Keep N gs W0 (W.alloc o) := h.heap (by simp) fun b hb _ => Below.heap_alloc _ _ _ hb
theorem Keep.call (h : Keep N gs W0 W) (hb : Below W.heap.size W W') : Keep N gs W0 W' := h.heap hb.size fun b hlt _ => hb.block b hlt
theorem Keep.grown (h : Keep N gs W0 W) {row : Option Nat} (hg : W.grownBy W' row) (hr : ∀ k, row = some k → N ≤ k ∧ ∀ p ∈ gs, p.1 ≠ k) : Keep N gs W0 W' :=
  h.heap hg.size fun b hlt hor => hg.block b hlt (fun e => by
    obtain ⟨h1, h2⟩ := hr b e.symm
    rcases hor with hor | ⟨p, hp, hpb⟩
    · omega
    · exact h2 p hp hpb)
theorem Keep.setFar (h : Keep N gs W0 W) {p : Addr} (hp : N ≤ p.block ∧ ∀ q ∈ gs, q.1 ≠ p.block) (u : Value) : Keep N gs W0 (W.setCell p u) :=
  h.heap (by simp [World.setCell]) fun b _ hor => Below.heap_setCell _ _ _ _ (fun e => by
    rcases hor with hor | ⟨q, hq, hqb⟩
    · omega
    · exact hp.2 q hq (hqb.trans e))
theorem Keep.set (h : Keep N gs W0 W) {p : Addr} (hp : ∃ q ∈ gs, q.1 = p.block) (u : Value) : Keep N gs W0 (W.setCell p u) := by
  refine ⟨by simpa [World.setCell] using h.le, fun b hN hg => ?_, fun q hq => ?_⟩
  · obtain ⟨q, hq, hqb⟩ := hp
    exact (Below.heap_setCell _ _ _ _ (fun e => hg q hq (hqb.trans e.symm))).trans (h.old b hN hg)
  · obtain ⟨cs, t, h1, h2⟩ := h.box q hq
    by_cases e : q.1 = p.block
    · refine ⟨if p.spot.isSome then cs else cs.setIfInBounds p.off u, t, ?_, ?_⟩
      · simp only [World.setCell, Array.getElem?_modify]
        rw [if_pos e.symm, h1]
        rfl
      · split <;> simp [h2]
    · exact ⟨cs, t, (Below.heap_setCell _ _ _ _ e).trans h1, h2⟩
theorem heap_alloc_at {w : World} {o : Obj} {g : Nat} (h : g = w.heap.size) : (w.alloc o).heap[g]? = some o := by subst h; exact heap_alloc_new w o
theorem Keep.start1 {W : World} {cs : Array Value} {t : TypeId} {N g k : Nat} (hg : g = W.heap.size) (hk : cs.size = k) (hN : N = g + 1) : Keep N [(g, k)] (W.alloc (.cells cs t)) (W.alloc (.cells cs t)) :=
  ⟨by simp; omega, fun _ _ _ => rfl, fun p hp => by
    simp only [List.mem_singleton] at hp
    subst hp
    exact ⟨cs, t, heap_alloc_at hg, hk⟩⟩
/-- The rules for the walk. -/
theorem Keep.cell (N : Nat) (gs : List (Nat × Nat)) (W0 : World) : ∀ W, Keep N gs W0 W → ∀ b o, b < N → (∀ p ∈ gs, p.1 ≠ b) → W.cell? ⟨b, o, none⟩ = W0.cell? ⟨b, o, none⟩ :=
  fun _ h b _ hb hg => World.cell?_of_block (h.old b hb hg)
theorem Keep.frozen (N : Nat) (gs : List (Nat × Nat)) (W0 : World) : ∀ W, Keep N gs W0 W → ∀ b o, b < N → (∀ p ∈ gs, p.1 ≠ b) → W.frozen? ⟨b, o, none⟩ = W0.frozen? ⟨b, o, none⟩ :=
  fun _ h b _ hb hg => World.frozen?_of_block (h.old b hb hg)
theorem Keep.boxCell (N : Nat) (gs : List (Nat × Nat)) (W0 : World) : ∀ W, Keep N gs W0 W → ∀ b o, (∃ p ∈ gs, p.1 = b ∧ o < p.2) → W.cell? ⟨b, o, none⟩ = some (cellOf W ⟨b, o, none⟩) := by
  rintro W h b o ⟨p, hp, rfl, ho⟩
  obtain ⟨cs, t, h1, h2⟩ := h.box p hp
  have hc := cell_of_row W p.1 o cs t (0, 0) h1
  rw [Array.getElem?_eq_getElem (by omega)] at hc
  simp [cellOf, hc]
theorem Keep.boxFrozen (N : Nat) (gs : List (Nat × Nat)) (W0 : World) : ∀ W, Keep N gs W0 W → ∀ b o, (∃ p ∈ gs, p.1 = b) → W.frozen? ⟨b, o, none⟩ = false := by
  rintro W h b o ⟨p, hp, rfl⟩
  obtain ⟨cs, t, h1, _⟩ := h.box p hp
  simp [World.frozen?, h1]
theorem Keep.lt (N : Nat) (gs : List (Nat × Nat)) (W0 : World) : ∀ W, Keep N gs W0 W → ∀ b, b < N → b < W.heap.size := fun _ h _ hb => Nat.lt_of_lt_of_le hb h.le
end

/-- How values of a Lean type lie in cells. -/
structure Enc (α : Type) where
  size : Nat
  rep : (Nat → Prop) → World → List Value → α → Prop
  len : ∀ {S w cs x}, rep S w cs x → cs.length = size
  sub : ∀ {S T : Nat → Prop} {w cs x}, rep S w cs x → (∀ b, S b → b < w.heap.size → T b) → rep T w cs x
  keep : ∀ {S w w' cs x}, rep S w cs x → Agree S w w' → rep S w' cs x
  one : ∀ {S w cs x}, rep S w cs x → ∀ u ∈ cs, u.oneCell' = true

def Enc.i64 : Enc Int := ⟨1, fun _ _ cs x => cs = [.int .i64 x], by rintro _ _ _ _ rfl; rfl, fun h _ => h, fun h _ => h, by rintro _ _ _ _ rfl u hu; simp at hu; subst hu; rfl⟩
def Enc.u8 : Enc UInt8 := ⟨1, fun _ _ cs x => cs = [.int .u8 (x.toNat : Int)], by rintro _ _ _ _ rfl; rfl, fun h _ => h, fun h _ => h, by rintro _ _ _ _ rfl u hu; simp at hu; subst hu; rfl⟩
def Enc.bool : Enc Bool := ⟨1, fun _ _ cs x => cs = [.bool x], by rintro _ _ _ _ rfl; rfl, fun h _ => h, fun h _ => h, by rintro _ _ _ _ rfl u hu; simp at hu; subst hu; rfl⟩
def Enc.pair {α β : Type} (E : Enc α) (F : Enc β) : Enc (α × β) :=
  ⟨E.size + F.size, fun S w cs x => ∃ c d, cs = c ++ d ∧ E.rep S w c x.1 ∧ F.rep S w d x.2,
   by rintro _ _ _ _ ⟨c, d, rfl, h1, h2⟩; rw [List.length_append, E.len h1, F.len h2],
   by rintro _ _ _ _ _ ⟨c, d, rfl, h1, h2⟩ hs; exact ⟨c, d, rfl, E.sub h1 hs, F.sub h2 hs⟩,
   by rintro _ _ _ _ _ ⟨c, d, rfl, h1, h2⟩ hk; exact ⟨c, d, rfl, E.keep h1 hk, F.keep h2 hk⟩,
   by rintro _ _ _ _ ⟨c, d, rfl, h1, h2⟩ u hu; exact (List.mem_append.1 hu).elim (E.one h1 u) (F.one h2 u)⟩
/-- The same cells, read as another type. -/
def Enc.via {α β : Type} (E : Enc α) (f : β → α) : Enc β := ⟨E.size, fun S w cs x => E.rep S w cs (f x), E.len, E.sub, E.keep, E.one⟩

def Elems {α : Type} (E : Enc α) (S : Nat → Prop) (w : World) : List Value → List α → Prop
  | cs, [] => cs = []
  | cs, x :: xs => ∃ c d, cs = c ++ d ∧ E.rep S w c x ∧ Elems E S w d xs

section
variable {α : Type} {E : Enc α} {S T : Nat → Prop} {w w' : World}
theorem Elems.len : ∀ {xs : List α} {cs : List Value}, Elems E S w cs xs → cs.length = xs.length * E.size
  | [], cs, h => by have h' : cs = [] := h; subst h'; simp
  | x :: xs, cs, ⟨c, d, e, h1, h2⟩ => by subst e; rw [List.length_append, E.len h1, Elems.len h2, List.length_cons, Nat.add_mul]; omega
theorem Elems.sub : ∀ {xs : List α} {cs : List Value}, Elems E S w cs xs → (∀ b, S b → b < w.heap.size → T b) → Elems E T w cs xs
  | [], _, h, _ => h
  | _ :: _, _, ⟨c, d, e, h1, h2⟩, hs => ⟨c, d, e, E.sub h1 hs, h2.sub hs⟩
theorem Elems.keep : ∀ {xs : List α} {cs : List Value}, Elems E S w cs xs → Agree S w w' → Elems E S w' cs xs
  | [], _, h, _ => h
  | _ :: _, _, ⟨c, d, e, h1, h2⟩, hs => ⟨c, d, e, E.keep h1 hs, h2.keep hs⟩
theorem Elems.one : ∀ {xs : List α} {cs : List Value}, Elems E S w cs xs → ∀ u ∈ cs, u.oneCell' = true
  | [], cs, h => by have h' : cs = [] := h; subst h'; simp
  | x :: xs, cs, ⟨c, d, e, h1, h2⟩ => by subst e; intro u hu; exact (List.mem_append.1 hu).elim (E.one h1 u) (h2.one u)
theorem Elems.append : ∀ {xs ys : List α} {cs ds : List Value}, Elems E S w cs xs → Elems E S w ds ys → Elems E S w (cs ++ ds) (xs ++ ys)
  | [], _, cs, _, h, k => by have h' : cs = [] := h; subst h'; exact k
  | x :: xs, ys, cs, ds, ⟨c, d, e, h1, h2⟩, k => ⟨c, d ++ ds, by rw [e, List.append_assoc], h1, h2.append k⟩
theorem Elems.single {x : α} {c : List Value} (h : E.rep S w c x) : Elems E S w c [x] := ⟨c, [], by simp, h, rfl⟩
theorem Elems.snoc {xs : List α} {cs c : List Value} {x : α} (h : Elems E S w cs xs) (k : E.rep S w c x) : Elems E S w (cs ++ c) (xs ++ [x]) := h.append (.single k)
theorem Elems.take : ∀ {xs : List α} {cs : List Value} (k : Nat), Elems E S w cs xs → Elems E S w (cs.take (k * E.size)) (xs.take k)
  | [], cs, k, h => by have h' : cs = [] := h; subst h'; simp only [List.take_nil]; exact rfl
  | x :: xs, cs, 0, h => by simp only [Nat.zero_mul, List.take_zero]; exact rfl
  | x :: xs, cs, k + 1, ⟨c, d, e, h1, h2⟩ => by
    subst e
    refine ⟨c, d.take (k * E.size), ?_, h1, h2.take k⟩
    have hc := E.len h1
    rw [List.take_append, hc, List.take_of_length_le (by rw [hc, Nat.add_mul]; omega), Nat.add_mul, Nat.one_mul, Nat.add_sub_cancel]
theorem Elems.drop : ∀ {xs : List α} {cs : List Value} (k : Nat), Elems E S w cs xs → Elems E S w (cs.drop (k * E.size)) (xs.drop k)
  | [], cs, k, h => by have h' : cs = [] := h; subst h'; simp only [List.drop_nil]; exact rfl
  | x :: xs, cs, 0, h => by simpa using h
  | x :: xs, cs, k + 1, ⟨c, d, e, h1, h2⟩ => by
    subst e
    have hc := E.len h1
    have hd : (c ++ d).drop ((k + 1) * E.size) = d.drop (k * E.size) := by
      rw [List.drop_append, hc, List.drop_of_length_le (by rw [hc, Nat.add_mul]; omega), Nat.add_mul, Nat.one_mul, Nat.add_sub_cancel, List.nil_append]
    rw [hd, List.drop_succ_cons]
    exact h2.drop k
theorem Elems.at_ : ∀ {xs : List α} {cs : List Value} {k : Nat} {x : α}, Elems E S w cs xs → xs[k]? = some x → E.rep S w ((cs.drop (k * E.size)).take E.size) x
  | x :: xs, cs, 0, y, ⟨c, d, e, h1, _⟩, hx => by
    simp at hx; subst hx; subst e
    have hc := E.len h1
    simp only [Nat.zero_mul, List.drop_zero]
    rw [List.take_append, hc, List.take_of_length_le (by omega), Nat.sub_self, List.take_zero, List.append_nil]
    exact h1
  | x :: xs, cs, k + 1, y, ⟨c, d, e, h1, h2⟩, hx => by
    subst e
    have hc := E.len h1
    have hd : (c ++ d).drop ((k + 1) * E.size) = d.drop (k * E.size) := by
      rw [List.drop_append, hc, List.drop_of_length_le (by rw [hc, Nat.add_mul]; omega), Nat.add_mul, Nat.one_mul, Nat.add_sub_cancel, List.nil_append]
    rw [hd]
    exact h2.at_ (by simpa using hx)
/-- Element k written anew. -/
theorem Elems.set {xs : List α} {cs c : List Value} {k : Nat} {x : α} (h : Elems E S w cs xs) (hk : k < xs.length) (hx : E.rep S w c x) :
    Elems E S w (cs.take (k * E.size) ++ c ++ cs.drop ((k + 1) * E.size)) (xs.set k x) := by
  rw [List.set_eq_take_append_cons_drop, if_pos hk, List.append_assoc]
  exact (h.take k).append ⟨c, _, rfl, hx, h.drop (k + 1)⟩
end

/-- The slice value '.slice A xs.length c' reads as xs. -/
def Sl {α : Type} (E : Enc α) (S : Nat → Prop) (w : World) (A : Option Addr) (c : Nat) (xs : List α) : Prop :=
  xs.length ≤ c ∧ c ≤ maxLen ∧ ∃ cs, RowAt S w A cs ∧ Elems E S w cs xs

section
variable {α : Type} {E : Enc α} {S T : Nat → Prop} {w w' : World} {A : Option Addr} {c : Nat} {xs : List α}
theorem Sl.nil_ (E : Enc α) (S : Nat → Prop) (w : World) (A : Option Addr) {c : Nat} (hc : c ≤ maxLen) : Sl E S w A c [] := ⟨Nat.zero_le _, hc, [], RowAt.empty S w A, rfl⟩
theorem Sl.le (h : Sl E S w A c xs) : xs.length ≤ c := h.1
theorem Sl.max (h : Sl E S w A c xs) : xs.length ≤ 9223372036854775807 := by have h1 := h.1; have h2 := h.2.1; unfold maxLen at h2; omega
theorem Sl.capMax (h : Sl E S w A c xs) : c ≤ 9223372036854775807 := by have h2 := h.2.1; unfold maxLen at h2; omega
theorem Sl.sub (h : Sl E S w A c xs) (hs : ∀ b, S b → b < w.heap.size → T b) : Sl E T w A c xs := by
  obtain ⟨h1, h2, cs, hr, he⟩ := h
  exact ⟨h1, h2, cs, hr.sub hs, he.sub hs⟩
theorem Sl.old (h : Sl E S w A c xs) : Sl E (fun b => S b ∧ b < w.heap.size) w A c xs := h.sub fun _ hb hl => ⟨hb, hl⟩
theorem Sl.keep (h : Sl E S w A c xs) (k : Agree S w w') : Sl E S w' A c xs := by
  obtain ⟨h1, h2, cs, hr, he⟩ := h
  exact ⟨h1, h2, cs, hr.keep k, he.keep k⟩
theorem Sl.take (h : Sl E S w A c xs) (k : Nat) : Sl E S w A c (xs.take k) := by
  obtain ⟨h1, h2, cs, hr, he⟩ := h
  exact ⟨Nat.le_trans (List.length_take_le' _ _) h1, h2, _, hr.take _, he.take k⟩
theorem Sl.clip (h : Sl E S w A c xs) : Sl E S w A xs.length xs := by
  obtain ⟨h1, h2, cs, hr, he⟩ := h
  exact ⟨Nat.le_refl _, Nat.le_trans h1 h2, cs, hr, he⟩
theorem Sl.cap (h : Sl E S w A c xs) {c' : Nat} (h1 : xs.length ≤ c') (h2 : c' ≤ maxLen) : Sl E S w A c' xs := by
  obtain ⟨_, _, cs, hr, he⟩ := h
  exact ⟨h1, h2, cs, hr, he⟩
/-- 's[k:]': the address stands still where nothing is left of the capacity. -/
theorem Sl.drop (h : Sl E S w A c xs) {k : Nat} (hk : k ≤ xs.length) : Sl E S w (if c = k then A else A.map (·.add (k * E.size))) (c - k) (xs.drop k) := by
  obtain ⟨h1, h2, cs, hr, he⟩ := h
  refine ⟨by rw [List.length_drop]; omega, by omega, cs.drop (k * E.size), ?_, he.drop k⟩
  split
  · rename_i hck
    have : cs.drop (k * E.size) = [] := List.drop_of_length_le (by rw [he.len]; exact Nat.mul_le_mul_right _ (by omega))
    rw [this]
    exact RowAt.empty _ _ _
  · exact hr.drop _
/-- Element k: its address and its cells. -/
theorem Sl.at_ (h : Sl E S w A c xs) {k : Nat} {x : α} (hx : xs[k]? = some x) (hE : 0 < E.size) :
    ∃ (a : Addr) (cs : List Value), A = some a ∧ S a.block ∧ a.block < w.heap.size ∧ E.rep S w cs x ∧ ∀ j u, cs[j]? = some u → w.cell? (a.add (k * E.size + j)) = some u := by
  obtain ⟨_, _, cs, hr, he⟩ := h
  have hk : k < xs.length := (List.getElem?_eq_some_iff.1 hx).1
  have hrep := he.at_ hx
  have hne : cs ≠ [] := fun e => by
    have := he.len
    rw [e] at this
    have h3 : 0 < xs.length * E.size := Nat.mul_pos (by omega) hE
    simp at this
    omega
  obtain ⟨a, hA, hS, hlt, hc⟩ := hr hne
  refine ⟨a, _, hA, hS, hlt, hrep, fun j u hu => hc _ u ?_⟩
  rw [List.getElem?_take] at hu
  split at hu
  · rwa [List.getElem?_drop] at hu
  · cases hu
end

theorem add_none {w : World} {a : Addr} {n : Nat} {u : Value} (h : w.cell? (a.add n) = some u) : (a.add n) = ⟨a.block, a.off + n, none⟩ := by
  obtain ⟨b, o, s⟩ := a
  unfold Addr.add at h ⊢
  split
  · rename_i hn
    subst hn
    simp only [if_true] at h
    cases s with
    | none => rfl
    | some k =>
      unfold World.cell? at h
      simp at h
      split at h <;> cases h
  · rfl
/-- Element k, said of a plain address. -/
theorem Sl.at' {α : Type} {E : Enc α} {S : Nat → Prop} {w : World} {A : Option Addr} {c : Nat} {xs : List α} (h : Sl E S w A c xs) {k : Nat} {x : α} (hx : xs[k]? = some x) (hE : 0 < E.size) :
    ∃ (b o : Nat) (cs : List Value), A = some ⟨b, o, none⟩ ∧ S b ∧ b < w.heap.size ∧ E.rep S w cs x ∧ ∀ j u, cs[j]? = some u → w.cell? ⟨b, o + k * E.size + j, none⟩ = some u := by
  have hlt : k < xs.length := (List.getElem?_eq_some_iff.1 hx).1
  obtain ⟨a, cs, hA, hS, hb, hrep, hc⟩ := h.at_ hx hE
  obtain ⟨a0, cs0, hA0, _, _, hrep0, hc0⟩ := h.at_ (k := 0) (x := xs[0]'(by omega)) (List.getElem?_eq_getElem (by omega)) hE
  rw [hA] at hA0
  injection hA0 with hA0
  subst hA0
  have hl0 := E.len hrep0
  have h1 := hc0 0 (cs0[0]'(by omega)) (List.getElem?_eq_getElem (by omega))
  simp only [Nat.zero_mul, Nat.add_zero] at h1
  have h2 := add_none h1
  have h3 : a.add 0 = a := by unfold Addr.add; simp
  rw [h3] at h2
  refine ⟨a.block, a.off, cs, by rw [hA]; exact congrArg some (by simpa using h2), hS, hb, hrep, fun j u hu => ?_⟩
  have h4 := hc j u hu
  rw [add_none h4, ← Nat.add_assoc] at h4
  exact h4

def Enc.slice {α : Type} (E : Enc α) : Enc (List α) :=
  ⟨1, fun S w cs x => ∃ A c, cs = [.slice A x.length c] ∧ Sl E S w A c x, by rintro _ _ _ _ ⟨A, c, rfl, _⟩; rfl,
   by rintro _ _ _ _ _ ⟨A, c, rfl, h⟩ hs; exact ⟨A, c, rfl, h.sub hs⟩,
   by rintro _ _ _ _ _ ⟨A, c, rfl, h⟩ hk; exact ⟨A, c, rfl, h.keep hk⟩,
   by rintro _ _ _ _ ⟨A, c, rfl, h⟩ u hu; simp at hu; subst hu; rfl⟩

theorem ownsRow_drew {w : World} {base : Nat} {e : TypeId} {size : Nat} {v : Value} {n : Nat} {xs : List Value} (h : w.ownsRow base e size v n xs) : w.drew.ownsRow base e size v n xs := h
theorem ownsRow_drewN {w : World} {base : Nat} {e : TypeId} {size : Nat} {v : Value} {n : Nat} {xs : List Value} (h : w.ownsRow base e size v n xs) (k : Nat) : (w.drewN k).ownsRow base e size v n xs := h

/-- A slice that the call itself made: nil, or the whole block g from base on; what it holds reads as xs, in the blocks of S. -/
def Own {α : Type} (E : Enc α) (S : Nat → Prop) (w : World) (base : Nat) (e : TypeId) (v : Value) (xs : List α) : Prop :=
  ∃ cs, w.ownsRow base e E.size v xs.length cs ∧ Elems E S w cs xs

section
variable {α : Type} {E : Enc α} {S T : Nat → Prop} {w w' : World} {base : Nat} {e : TypeId} {v : Value} {xs : List α}
theorem Own.nil_ (E : Enc α) (S : Nat → Prop) (w : World) (base : Nat) (e : TypeId) : Own E S w base e (.slice none 0 0) [] := ⟨[], World.ownsRow_nil _ _ _ _, rfl⟩
theorem Own.form (h : Own E S w base e v xs) : ∃ A c, v = .slice A xs.length c ∧ (∀ a, A = some a → base ≤ a.block ∧ a.block < w.heap.size ∧ v.ownBlock = some a.block) := by
  obtain ⟨cs, hown, _⟩ := h
  rcases hown.2 with ⟨rfl, hn⟩ | ⟨g, cap, cur, rfl, hb, hg, _⟩
  · exact ⟨none, 0, by rw [hn], by simp⟩
  · exact ⟨_, cap, rfl, by rintro a ⟨⟩; exact ⟨hb, heap_lt hg, rfl⟩⟩
/-- As a slice to be read. -/
theorem Own.sl {A : Option Addr} {c : Nat} (h : Own E S w base e (.slice A xs.length c) xs) (hs : ∀ b, S b → b < w.heap.size → T b) (hT : ∀ b, base ≤ b → (Value.slice A xs.length c).ownBlock = some b → T b) : Sl E T w A c xs := by
  obtain ⟨cs, hown, hel⟩ := h
  rcases hown.2 with ⟨hv, hn⟩ | ⟨g, cap, cur, hv, hb, hg, hn, hm, _, _⟩
  · injection hv with h1 h2 h3
    have : xs = [] := List.eq_nil_of_length_eq_zero hn
    subst this; subst h3
    exact ⟨by simp, by unfold maxLen; omega, cs, by have : cs = [] := hel; subst this; exact RowAt.empty _ _ _, hel.sub hs⟩
  · have hcells := hown.cells (g := g) (by rw [hv]; rfl)
    injection hv with h1 h2 h3
    subst h1; subst h3
    exact ⟨hn, hm, cs, fun _ => ⟨_, rfl, hT g hb rfl, heap_lt hg, hcells⟩, hel.sub hs⟩
theorem Own.keep (h : Own E S w base e v xs) (ha : Agree S w w') (hg : ∀ g, v.ownBlock = some g → w'.heap[g]? = w.heap[g]?) : Own E S w' base e v xs := by
  obtain ⟨cs, hown, hel⟩ := h
  refine ⟨cs, ⟨hown.1, ?_⟩, hel.keep ha⟩
  rcases hown.2 with hn | ⟨g, cap, cur, rfl, hb, hgg, rest⟩
  · exact .inl hn
  · exact .inr ⟨g, cap, cur, rfl, hb, (hg g rfl).trans hgg, rest⟩
end

end Go.Proofs.YtihcaoipemcddaaDoor
