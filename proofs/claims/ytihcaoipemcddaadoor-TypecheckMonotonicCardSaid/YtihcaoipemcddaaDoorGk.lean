/-
  A relation of worlds: all blocks but one stand as they stood. Of no program.
-/
import Derived.Test.YtihcaoipemcddaaDoorKeep
namespace Go.Proofs.YtihcaoipemcddaaDoor
open Go.RowKit

/-- All blocks but k stand as they stood; memory may be made. -/
structure Gk (k : Nat) (w w' : World) : Prop where
  g : w.grownBy w' (some k)
section
variable {k : Nat} {w X Y : World}
theorem Gk.refl (k : Nat) (w : World) : Gk k w w := ⟨World.grownBy.refl _ _⟩
theorem Gk.drew (h : Gk k w X) : Gk k w X.drew := ⟨⟨h.g.os, h.g.tape, h.g.output, h.g.size, h.g.block⟩⟩
theorem Gk.drewN (h : Gk k w X) (n : Nat) : Gk k w (X.drewN n) := ⟨⟨h.g.os, h.g.tape, h.g.output, h.g.size, h.g.block⟩⟩
theorem Gk.set (h : Gk k w X) (i : Nat) (u : Value) : Gk k w (X.setCell ⟨k, i, none⟩ u) := ⟨grown_set h.g i u⟩
theorem Gk.call (h : Gk k w X) (hb : Below X.heap.size X Y) : Gk k w Y :=
  ⟨⟨hb.os.trans h.g.os, hb.tape.trans h.g.tape, hb.output.trans h.g.output, Nat.le_trans h.g.size hb.size, fun b hl hn => (hb.block b (Nat.lt_of_lt_of_le hl h.g.size)).trans (h.g.block b hl hn)⟩⟩
theorem Gk.alloc (h : Gk k w X) (o : Obj) : Gk k w (X.alloc o) := h.call ((Below.refl _ _).alloc (Nat.le_refl _) _)
theorem Gk.ofBelow (h : Below w.heap.size w X) : Gk k w X := (Gk.refl k w).call h
theorem Gk.trans {Z : World} (h : Gk k w X) (h' : Gk k X Z) : Gk k w Z :=
  ⟨⟨h'.g.os.trans h.g.os, h'.g.tape.trans h.g.tape, h'.g.output.trans h.g.output, Nat.le_trans h.g.size h'.g.size, fun b hl hn => (h'.g.block b (Nat.lt_of_lt_of_le hl h.g.size) hn).trans (h.g.block b hl hn)⟩⟩
theorem Gk.row {b : Nat} {o : Obj} (h : Gk k w X) (hb : w.heap[b]? = some o) (hne : b ≠ k) : X.heap[b]? = some o := (h.g.block b (heap_lt hb) (by intro e; injection e with e; exact hne e)).trans hb
theorem Gk.below {N : Nat} {w0 : World} (h : Gk k w X) (hb : Below N w0 w) (hk : N ≤ k) (hN : N ≤ w.heap.size) : Below N w0 X := hb.grown h.g hN (fun j hj => by injection hj with hj; omega)
theorem Gk.slKeep {α : Type} {E : Enc α} {S : Nat → Prop} {A : Option Addr} {c : Nat} {xs : List α} (h : Gk k w X) (hs : Sl E S w A c xs) (hS : ¬ S k) : Sl E S X A c xs :=
  hs.keep ((Agree.refl _ _).grown h.g (by rintro _ ⟨⟩; exact hS))
end
end Go.Proofs.YtihcaoipemcddaaDoor
