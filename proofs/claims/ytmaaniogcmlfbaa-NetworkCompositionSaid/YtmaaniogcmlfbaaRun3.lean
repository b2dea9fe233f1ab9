/-
  The laws' 'run': the network, what was sent and what was delivered, in any history of at most 40 operations.
-/
import Derived.Test.YtmaaniogcmlfbaaNetL
namespace Go.Proofs.Ytmaaniogcmlfbaa
open Go.RowKit

/-- The state of 'run': F's blocks hold what the network and the two slices refer to. -/
structure R3F (F S : Nat → Prop) (w : World) (B g : Nat) (s : St3) (v6 v7 : Value) (wr : World) : Prop where
  lt : ∀ b, F b → b < wr.heap.size
  hF : ∀ b, F b → (S b ∧ b < w.heap.size) ∨ B ≤ b
  n6 : ∀ k, v6.ownBlock = some k → ¬ F k
  n7 : ∀ k, v7.ownBlock = some k → ¬ F k
  n67 : ∀ k, v6.ownBlock = some k → v7.ownBlock ≠ some k
  own6 : Own pkE F wr B 32 v6 s.2.1
  own7 : Own pkE F wr B 32 v7 s.2.2
  net : ∃ A c, wr.heap[g]? = some (.cells #[.int .i64 s.1.now, .slice A s.1.way.length c] 26 (0, 0)) ∧ Sl pkE F wr A c s.1.way
  bel : Below w.heap.size w wr
  base : B ≤ wr.heap.size
  res : HG wr w.heap.size
  gB : g < B ∧ w.heap.size < g

section
variable {F F' S : Nat → Prop} {w wr w4 : World} {B g : Nat} {s : St3} {v6 v7 : Value}
theorem R3F.nFg (h : R3F F S w B g s v6 v7 wr) : ¬ F g := fun hf => by have := h.gB; rcases h.hF g hf with h1 | h1 <;> omega
theorem R3F.nFr (h : R3F F S w B g s v6 v7 wr) : ¬ F w.heap.size := fun hf => by have := h.gB; rcases h.hF _ hf with h1 | h1 <;> omega
theorem R3F.move (h : R3F F S w B g s v6 v7 wr) (hk : Below wr.heap.size wr w4) : R3F F S w B g s v6 v7 w4 := by
  obtain ⟨A, c, hg, hs⟩ := h.net
  exact ⟨fun b hb => Nat.lt_of_lt_of_le (h.lt b hb) hk.size, h.hF, h.n6, h.n7, h.n67, h.own6.call hk, h.own7.call hk, ⟨A, c, (hk.block g (heap_lt hg)).trans hg, hs.keep (Below.agree hk)⟩, h.bel.trans (hk.mono h.bel.size), Nat.le_trans h.base hk.size, h.res.below hk, h.gB⟩
theorem R3F.alloc (h : R3F F S w B g s v6 v7 wr) (o : Obj) : R3F F S w B g s v6 v7 (wr.alloc o) := h.move ((Below.refl _ _).alloc (Nat.le_refl _) _)
theorem R3F.drew (h : R3F F S w B g s v6 v7 wr) : R3F F S w B g s v6 v7 wr.drew := h.move (Below.refl _ _).drew
theorem R3F.widen (h : R3F F S w B g s v6 v7 wr) (hs : ∀ b, F b → F' b) (lt : ∀ b, F' b → b < wr.heap.size) (hF : ∀ b, F' b → (S b ∧ b < w.heap.size) ∨ B ≤ b) (n6 : ∀ k, v6.ownBlock = some k → ¬ F' k) (n7 : ∀ k, v7.ownBlock = some k → ¬ F' k) : R3F F' S w B g s v6 v7 wr := by
  obtain ⟨A, c, hg, hsl⟩ := h.net
  exact ⟨lt, hF, n6, n7, h.n67, h.own6.sub fun b hb _ => hs b hb, h.own7.sub fun b hb _ => hs b hb, ⟨A, c, hg, hsl.sub fun b hb _ => hs b hb⟩, h.bel, h.base, h.res, h.gB⟩
theorem R3F.put (h : R3F F S w B g s v6 v7 wr) {n : Nt} {A : Option Addr} {c : Nat} (hs : Sl pkE F wr A c n.way) : R3F F S w B g (n, s.2.1, s.2.2) v6 v7 ((wr.setCell ⟨g, 0, none⟩ (.int .i64 n.now)).setCell ⟨g, 1, none⟩ (.slice A n.way.length c)) := by
  obtain ⟨A0, c0, hg, _⟩ := h.net
  have nf := h.nFg
  have hgB := h.gB
  have e6 : v6.ownBlock ≠ some g := fun e => by have := (h.own6.lt g e).1; omega
  have e7 : v7.ownBlock ≠ some g := fun e => by have := (h.own7.lt g e).1; omega
  exact ⟨fun b hb => by simpa [World.setCell] using h.lt b hb, h.hF, h.n6, h.n7, h.n67, (h.own6.set e6 nf _).set e6 nf _, (h.own7.set e7 nf _).set e7 nf _, ⟨A, c, heap_set (i := 1) (heap_set (i := 0) hg), (hs.keep ((Agree.refl _ _).set nf _)).keep ((Agree.refl _ _).set nf _)⟩,
    (h.bel.setCell (by simp; omega) _).setCell (by simp; omega) _, by simpa [World.setCell] using h.base, (h.res.set (by simp; omega) _).set (by simp; omega) _, h.gB⟩
theorem R3F.far (h : R3F F S w B g s v6 v7 wr) {x : Nat} (hx : B ≤ x) (hF : ¬ F x) (e6 : v6.ownBlock ≠ some x) (e7 : v7.ownBlock ≠ some x) (i : Nat) (u : Value) : R3F F S w B g s v6 v7 (wr.setCell ⟨x, i, none⟩ u) := by
  obtain ⟨A0, c0, hg, hs⟩ := h.net
  have hgB := h.gB
  exact ⟨fun b hb => by simpa [World.setCell] using h.lt b hb, h.hF, h.n6, h.n7, h.n67, h.own6.set e6 hF _, h.own7.set e7 hF _, ⟨A0, c0, (Below.heap_setCell _ _ _ _ (by simp; omega)).trans hg, hs.keep ((Agree.refl _ _).set hF _)⟩,
    h.bel.setCell (by simp; omega) _, by simpa [World.setCell] using h.base, h.res.set (by simp; omega) _, h.gB⟩
theorem R3F.app6 (h : R3F F S w B g s v6 v7 wr) {ys : List Pk} {v : Value} {w6 : World} (ho : Own pkE F w6 B 32 v (s.2.1 ++ ys)) (hg6 : wr.grownBy w6 v6.ownBlock) (hor : ∀ k, v.ownBlock = some k → v6.ownBlock = some k ∨ wr.heap.size = k) : R3F F S w B g (s.1, s.2.1 ++ ys, s.2.2) v v7 w6 := by
  obtain ⟨A0, c0, hg, hs⟩ := h.net
  have hgB := h.gB
  have l6 := h.own6.lt
  have l7 := h.own7.lt
  exact ⟨fun b hb => Nat.lt_of_lt_of_le (h.lt b hb) hg6.size, h.hF, fun k hk hf => by (rcases hor k hk with h1 | h1; exact h.n6 k h1 hf; have := h.lt k hf; omega), h.n7,
    fun k hk e => by (rcases hor k hk with h1 | h1; exact h.n67 k h1 e; have := (l7 k e).2; omega), ho,
    h.own7.grown hg6 (by by_cases e : v7.ownBlock = none; exact .inl e; right; intro e2; obtain ⟨k, hk⟩ := Option.ne_none_iff_exists'.1 e; exact h.n67 k (e2 ▸ hk) hk) (fun k hk => h.n6 k hk),
    ⟨A0, c0, (hg6.block g (heap_lt hg) (fun e => by have := (l6 g e.symm).1; omega)).trans hg, hs.keep ((Agree.refl _ _).grown hg6 (fun k hk => h.n6 k hk))⟩,
    h.bel.grown hg6 h.bel.size (fun k hk => by have := (l6 k hk).1; omega), Nat.le_trans h.base hg6.size, h.res.grown hg6 (fun e => by have := (l6 _ e.symm).1; omega), h.gB⟩
theorem R3F.app7 (h : R3F F S w B g s v6 v7 wr) {ys : List Pk} {v : Value} {w6 : World} (ho : Own pkE F w6 B 32 v (s.2.2 ++ ys)) (hg6 : wr.grownBy w6 v7.ownBlock) (hor : ∀ k, v.ownBlock = some k → v7.ownBlock = some k ∨ wr.heap.size = k) : R3F F S w B g (s.1, s.2.1, s.2.2 ++ ys) v6 v w6 := by
  obtain ⟨A0, c0, hg, hs⟩ := h.net
  have hgB := h.gB
  have l6 := h.own6.lt
  have l7 := h.own7.lt
  exact ⟨fun b hb => Nat.lt_of_lt_of_le (h.lt b hb) hg6.size, h.hF, h.n6, fun k hk hf => by (rcases hor k hk with h1 | h1; exact h.n7 k h1 hf; have := h.lt k hf; omega),
    fun k hk e => by (rcases hor k e with h1 | h1; exact h.n67 k hk h1; have := (l6 k hk).2; omega),
    h.own6.grown hg6 (by by_cases e : v6.ownBlock = none; exact .inl e; right; intro e2; obtain ⟨k, hk⟩ := Option.ne_none_iff_exists'.1 e; exact h.n67 k hk (e2 ▸ hk)) (fun k hk => h.n7 k hk), ho,
    ⟨A0, c0, (hg6.block g (heap_lt hg) (fun e => by have := (l7 g e.symm).1; omega)).trans hg, hs.keep ((Agree.refl _ _).grown hg6 (fun k hk => h.n7 k hk))⟩,
    h.bel.grown hg6 h.bel.size (fun k hk => by have := (l7 k hk).1; omega), Nat.le_trans h.base hg6.size, h.res.grown hg6 (fun e => by have := (l7 _ e.symm).1; omega), h.gB⟩
end
end Go.Proofs.Ytmaaniogcmlfbaa
