/-
  The boxes of a call and its frame, in one word.
-/
import Derived.Test.YtihcaoipemcddaaDoorStore
namespace Go.Proofs.YtihcaoipemcddaaDoor
open Go.RowKit

theorem heap_set {w : World} {g i : Nat} {cs : Array Value} {t : TypeId} {u : Value} (h : w.heap[g]? = some (.cells cs t (0, 0))) : (w.setCell ⟨g, i, none⟩ u).heap[g]? = some (.cells (cs.setIfInBounds i u) t (0, 0)) := by
  simp [World.setCell, Array.getElem?_modify, h]
theorem _root_.Go.RowKit.Below.toGrown' {w w' : World} (h : Below w.heap.size w w') (row : Option Nat) : w.grownBy w' row := ⟨h.os, h.tape, h.output, h.size, fun k hk _ => h.block k hk⟩
theorem grown_set {w w' : World} {g : Nat} (h : w.grownBy w' (some g)) (i : Nat) (u : Value) : w.grownBy (w'.setCell ⟨g, i, none⟩ u) (some g) :=
  ⟨h.os, h.tape, h.output, by simpa [World.setCell] using h.size, fun k hk hne => (Below.heap_setCell _ _ _ _ (by intro e; subst e; exact hne rfl)).trans (h.block k hk hne)⟩

theorem Sl.litAt {α : Type} {E : Enc α} {S T : Nat → Prop} {w : World} {e : TypeId} {xs : List α} {cs : List Value} {g : Nat} (hg : w.heap.size = g) (h : Elems E S w cs xs) (hm : xs.length ≤ maxLen) (hs : ∀ b, S b → b < w.heap.size → T b) (hT : T g) :
    Sl E T (w.alloc (.cells cs.toArray e)) (some ⟨g, 0, none⟩) xs.length xs := by
  subst hg
  exact Sl.lit h hm hs hT
theorem Keep.rebase {N N' : Nat} {gs : List (Nat × Nat)} {W0 W : World} (h : Keep N gs W0 W) (hN : N' ≤ W.heap.size) : Keep N' gs W W := ⟨hN, fun _ _ _ => rfl, h.box⟩
/-- Boxes kept, and nothing below the call's beginning turned. -/
structure KB (N : Nat) (gs : List (Nat × Nat)) (W0 w W : World) : Prop where
  keep : Keep N gs W0 W
  below : Below w.heap.size w W
  base : w.heap.size ≤ N
  hi : ∀ p ∈ gs, w.heap.size ≤ p.1
section
variable {N : Nat} {gs : List (Nat × Nat)} {W0 w W W' : World}
theorem KB.size (h : KB N gs W0 w W) : w.heap.size ≤ W.heap.size := h.below.size
theorem KB.drew (h : KB N gs W0 w W) : KB N gs W0 w W.drew := ⟨h.keep.drew, h.below.drew, h.base, h.hi⟩
theorem KB.drewN (h : KB N gs W0 w W) (n : Nat) : KB N gs W0 w (W.drewN n) := ⟨h.keep.drewN n, ⟨h.below.os, h.below.tape, h.below.output, h.below.size, h.below.block⟩, h.base, h.hi⟩
theorem KB.alloc (h : KB N gs W0 w W) (o : Obj) : KB N gs W0 w (W.alloc o) := ⟨h.keep.alloc o, h.below.alloc h.size o, h.base, h.hi⟩
theorem KB.call (h : KB N gs W0 w W) (hb : Below W.heap.size W W') : KB N gs W0 w W' := ⟨h.keep.call hb, h.below.trans (hb.mono h.size), h.base, h.hi⟩
theorem KB.grown (h : KB N gs W0 w W) {row : Option Nat} (hg : W.grownBy W' row) (hr : ∀ k, row = some k → N ≤ k ∧ ∀ p ∈ gs, p.1 ≠ k) : KB N gs W0 w W' :=
  ⟨h.keep.grown hg hr, h.below.grown hg h.size fun k hk => Nat.le_trans h.base (hr k hk).1, h.base, h.hi⟩
theorem KB.set (h : KB N gs W0 w W) {p : Addr} (hp : ∃ q ∈ gs, q.1 = p.block) (u : Value) : KB N gs W0 w (W.setCell p u) :=
  ⟨h.keep.set hp u, h.below.setCell (by obtain ⟨q, hq, e⟩ := hp; rw [← e]; exact h.hi q hq) u, h.base, h.hi⟩
theorem KB.setFar (h : KB N gs W0 w W) {p : Addr} (hp : N ≤ p.block ∧ ∀ q ∈ gs, q.1 ≠ p.block) (u : Value) : KB N gs W0 w (W.setCell p u) :=
  ⟨h.keep.setFar hp u, h.below.setCell (Nat.le_trans h.base hp.1) u, h.base, h.hi⟩
theorem KB.agree (h : KB N [] W0 w W) (hN : N = W0.heap.size) : Agree (fun b => b < N) W0 W := ⟨by rw [← hN]; exact h.keep.le, fun b hb _ => h.keep.old b hb (by simp)⟩
theorem KB.rules (N : Nat) (gs : List (Nat × Nat)) (W0 w : World) :
    (∀ W, KB N gs W0 w W → ∀ b o, b < N → (∀ p ∈ gs, p.1 ≠ b) → W.cell? ⟨b, o, none⟩ = W0.cell? ⟨b, o, none⟩) ∧
    (∀ W, KB N gs W0 w W → ∀ b o, b < N → (∀ p ∈ gs, p.1 ≠ b) → W.frozen? ⟨b, o, none⟩ = W0.frozen? ⟨b, o, none⟩) ∧
    (∀ W, KB N gs W0 w W → ∀ b o, (∃ p ∈ gs, p.1 = b ∧ o < p.2) → W.cell? ⟨b, o, none⟩ = some (cellOf W ⟨b, o, none⟩)) ∧
    (∀ W, KB N gs W0 w W → ∀ b o, (∃ p ∈ gs, p.1 = b) → W.frozen? ⟨b, o, none⟩ = false) ∧
    (∀ W, KB N gs W0 w W → ∀ b, b < N → b < W.heap.size) :=
  ⟨fun W h => Keep.cell N gs W0 W h.keep, fun W h => Keep.frozen N gs W0 W h.keep, fun W h => Keep.boxCell N gs W0 W h.keep, fun W h => Keep.boxFrozen N gs W0 W h.keep, fun W h => Keep.lt N gs W0 W h.keep⟩
end
end Go.Proofs.YtihcaoipemcddaaDoor
