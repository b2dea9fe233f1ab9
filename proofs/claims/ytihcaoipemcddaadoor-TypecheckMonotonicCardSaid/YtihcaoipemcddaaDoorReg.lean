/-
  Helpers for regions whose order is drawn: the world that S speaks of may be moved on behind every call.
-/
import Derived.Test.YtihcaoipemcddaaDoorCopy
import Derived.Test.YtihcaoipemcddaaDoorKeep
import Derived.WalkKit
import Derived.Deep.RegionHeld3
namespace Go.Proofs.YtihcaoipemcddaaDoor
open Go.RowKit

theorem wpAnyH_weaker {P : Program} {md : Region.Mode} {ops : Array Oper} {Q : Exit → Act → World → Prop} {S T : World → Prop} (hST : ∀ w, T w → S w) :
    ∀ (fuel : Nat) (listed : Array Bool) (a : Act) (w : World), wpAnyH P md ops Q T fuel listed a w → wpAnyH P md ops Q S fuel listed a w
  | 0, _, _, _, h => h
  | fuel + 1, _, _, _, h => ⟨h.1, fun i hi => wpOp_mono (fun _ _ h' => ⟨hST _ h'.1, wpAnyH_weaker hST fuel _ _ _ h'.2⟩) (h.2 i hi)⟩
/-- From here on, what the world at hand holds may be relied on. -/
theorem wpAnyH_base {P : Program} {md : Region.Mode} {ops : Array Oper} {Q : Exit → Act → World → Prop} {w0 w : World} {fuel : Nat} {listed : Array Bool} {a : Act} (hb : Below w0.heap.size w0 w)
    (h : Below w.heap.size w w → wpAnyH P md ops Q (fun X => Below w.heap.size w X) fuel listed a w) : wpAnyH P md ops Q (fun X => Below w0.heap.size w0 X) fuel listed a w :=
  wpAnyH_weaker (fun _ k => hb.trans (k.mono hb.size)) _ _ _ _ (h (Below.refl _ _))
/-- The same, with the world at hand named, and what is known of it. -/
theorem wpAnyH_world {P : Program} {md : Region.Mode} {ops : Array Oper} {Q : Exit → Act → World → Prop} {w0 w : World} {fuel : Nat} {listed : Array Bool} {a : Act} (hb : Below w0.heap.size w0 w) (F : World → Prop) (hF : F w)
    (h : ∀ X, Below w0.heap.size w0 X → F X → Below X.heap.size X X → wpAnyH P md ops Q (fun Y => Below X.heap.size X Y) fuel listed a X) : wpAnyH P md ops Q (fun X => Below w0.heap.size w0 X) fuel listed a w :=
  wpAnyH_weaker (fun _ k => hb.trans (k.mono hb.size)) _ _ _ _ (h w hb hF (Below.refl _ _))
theorem hold {W : World} {p : Addr} {v : Value} (h : W.cell? p = some v) : ∀ X, Below W.heap.size W X → X.cell? p = some v := fun _ hX => (hX.cell (World.block_lt_of_cell? W p h)).trans h
theorem onward {w0 w : World} (hb : Below w0.heap.size w0 w) : ∀ X, Below w.heap.size w X → Below w0.heap.size w0 X := fun _ k => hb.trans (k.mono hb.size)
theorem wp_world {P : Program} {c : Code} {Q : Exit → Act → World → Prop} {a : Act} {w0 : World} (F : World → Prop) (h0 : F w0) (h : ∀ w, F w → Code.wp P c Q a w) : Code.wp P c Q a w0 := h w0 h0
end Go.Proofs.YtihcaoipemcddaaDoor
