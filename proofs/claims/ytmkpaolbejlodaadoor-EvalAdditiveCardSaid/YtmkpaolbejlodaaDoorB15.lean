/-
  Texts of this claim, merged: EvN. Conditions: as each theorem says.
-/
import Derived.Lib.Mul64
import Derived.Laws.Bits64b
import Derived.Shelf.Bits.Mul64
import Derived.Test.YtmkpaolbejlodaaDoorB1
import Derived.Test.YtmkpaolbejlodaaDoorB2
import Derived.Test.YtmkpaolbejlodaaDoorB3
import Derived.Test.YtmkpaolbejlodaaDoorB4
import Derived.Test.YtmkpaolbejlodaaDoorB5
import Derived.Test.YtmkpaolbejlodaaDoorB6
import Derived.Test.YtmkpaolbejlodaaDoorB7
import Derived.Test.YtmkpaolbejlodaaDoorB8
import Derived.Test.YtmkpaolbejlodaaDoorB9
import Derived.Test.YtmkpaolbejlodaaDoorB10
import Derived.Test.YtmkpaolbejlodaaDoorB11
import Derived.Test.YtmkpaolbejlodaaDoorB12
import Derived.Test.YtmkpaolbejlodaaDoorB13
import Derived.Test.YtmkpaolbejlodaaDoorB14
set_option linter.unusedSimpArgs false
set_option linter.unusedVariables false
namespace Go.Proofs.YtmkpaolbejlodaaDoor
open Go.RowKit

theorem Sl.set_ {α : Type} {E : Enc α} {S : Nat → Prop} {w : World} {A : Option Addr} {c : Nat} {xs : List α} {p : Addr} (h : Sl E S w A c xs) (hp : ¬ S p.block) (u : Value) : Sl E S (w.setCell p u) A c xs := h.keep ((Agree.refl _ _).set hp u)
theorem Sl.two_ {α : Type} {E : Enc α} {S : Nat → Prop} {w : World} {A : Option Addr} {c g : Nat} {xs : List α} {u v : Value} (h : Sl E S w A c xs) (hg : ¬ S g) : Sl E (fun _ => True) ((w.setCell ⟨g, 0, none⟩ u).setCell ⟨g, 1, none⟩ v) A c xs := ((h.set_ hg u).set_ hg v).sub fun _ _ _ => trivial
theorem set2 {W : World} {g : Nat} {t : TypeId} {a b u v : Value} (h : W.heap[g]? = some (.cells #[a, b] t (0, 0))) : ((W.setCell ⟨g, 0, none⟩ u).setCell ⟨g, 1, none⟩ v).heap[g]? = some (.cells #[u, v] t (0, 0)) :=
  heap_set (i := 1) (heap_set (i := 0) h)
theorem onlyL15 (col v : Int) (w : World) : Calls Tryd.prog 29 #[.int .i64 col, .int .i64 v] w fun e w' => ∃ g, e = .returned (.slice (some ⟨g, 0, none⟩) 1 1) ∧ Sl cdE (fun _ => True) w' (some ⟨g, 0, none⟩) 1 [⟨col, v, v⟩] ∧ w'.heap.size = g + 1 ∧ Below w.heap.size w w' := by
  go_enter Tryd.func29, Tryd.ntmps29
  go_wp2_with fail
  go_ret
  exact ⟨_, rfl, sl_cd1 (x := ⟨col, v, v⟩) (heap_alloc_at rfl) trivial, by simp, (by repeat' (first | with_reducible exact Below.refl _ _ | with_reducible assumption | with_reducible refine Below.setCell ?_ ?_ _ | with_reducible refine Below.drew ?_ | with_reducible refine below_drewN ?_ _ | with_reducible refine Below.alloc ?_ ?_ _ | (rintro _ ⟨⟩; simp <;> omega) | omega | (simp <;> omega)))⟩
/-- An answer, its numbers named. -/
def AnsN (w : World) (xs ys : List Int) (n m : Nat) (e : Ending) (w' : World) : Prop :=
  ∃ A c B d, e = .returned (.agg #[.slice A n c, .slice B m d]) ∧ Sl .i64 (fun b => w.heap.size ≤ b ∧ b < w'.heap.size) w' A c xs ∧ Sl .i64 (fun b => w.heap.size ≤ b ∧ b < w'.heap.size) w' B d ys ∧ Below w.heap.size w w'
theorem answerN {q : Qy} {s : Str} {A L G : Option Addr} {cc cl cg f n m nl ng : Nat} {xs ys : List Int} {S T U : Nat → Prop} (hx : sumsF q (liveF s) = xs) (hy : resF q xs = ys) (hf : q.fs.length = f) (hn : xs.length = n) (hm : ys.length = m) (hnl : s.l.length = nl) (hng : s.g.length = ng)
    (w : World) (hq : ValidQ q) (hw : wideB q = false) (ok : OkStr s) (hl : s.l.length ≤ 1000) (h : Sl cdE.slice S w A cc q.fs) (hL : Sl rdE T w L cl s.l) (hG : Sl .bool U w G cg s.g) :
    Calls Tryd.prog 15 #[(.agg #[.int .i64 q.kind, .int .i64 q.col, .int .i64 q.k, .slice A f cc]), .agg #[.slice L nl cl, .slice G ng cg]] w (AnsN w xs ys n m) := by
  subst hf; subst hn; subst hm; subst hnl; subst hng; subst hy; subst hx
  exact (answerE w hq hw ok hl h hL hG).mono fun e w' ⟨A, c, B, d, h1, h2, h3, h4⟩ => ⟨A, c, B, d, h1, h2.old, h3.old, h4⟩
theorem same15N {xs : List Int} {A B : Option Addr} {c d n : Nat} {S T : Nat → Prop} (hn : xs.length = n) (w : World) (h : Sl .i64 S w A c xs) (k : Sl .i64 T w B d xs) :
    Calls Tryd.prog 17 #[.slice A n c, .slice B n d] w fun e w' => e = .returned (.bool true) ∧ Below w.heap.size w w' := by
  subst hn
  exact (same15 w h k).mono fun e w' ⟨h1, h2⟩ => ⟨by rw [h1]; simp, h2⟩
/-- An answer's box. -/
def An (w : World) (g : Nat) (xs ys : List Int) (n m : Nat) : Prop := ∃ A c B d, w.heap[g]? = some (.cells #[.slice A n c, .slice B m d] 36 (0, 0)) ∧ Sl .i64 (fun _ => True) w A c xs ∧ Sl .i64 (fun _ => True) w B d ys
theorem mvAn {w w' : World} {g n m : Nat} {xs ys : List Int} (h : Hid (An w g xs ys n m)) (hb : Below w.heap.size w w') : Hid (An w' g xs ys n m) := by
  obtain ⟨A, c, B, d, h1, h2, h3⟩ := h.out
  exact Lib.hid ⟨A, c, B, d, (hb.block g (heap_lt h1)).trans h1, h2.keep (Below.agree hb), h3.keep (Below.agree hb)⟩
theorem sl_fs1N {S : Nat → Prop} {w : World} {g n : Nat} {t : TypeId} {B : Option Addr} {d : Nat} {l : List Cd} (hn : l.length = n) (h : w.heap[g]? = some (.cells #[.slice B n d] t (0, 0))) (hs : Sl cdE S w B d l) (hS : S g) : Sl cdE.slice S w (some ⟨g, 0, none⟩) 1 [l] := by
  subst hn; exact sl_fs1 h hs hS
theorem sl_fs2N {S : Nat → Prop} {w : World} {g n m : Nat} {t : TypeId} {B C : Option Addr} {d e : Nat} {l k : List Cd} (hn : l.length = n) (hm : k.length = m) (h : w.heap[g]? = some (.cells #[.slice B n d, .slice C m e] t (0, 0))) (hs : Sl cdE S w B d l) (hk : Sl cdE S w C e k) (hS : S g) : Sl cdE.slice S w (some ⟨g, 0, none⟩) 2 [l, k] := by
  subst hn; subst hm
  exact Sl.ofRow (cs := [.slice B l.length d, .slice C k.length e]) h ⟨[_], _, rfl, ⟨B, d, rfl, hs⟩, .single ⟨C, e, rfl, hk⟩⟩ hS (by unfold maxLen; simp)
theorem sumsN {q : Qy} {s : Str} {A L G : Option Addr} {cc cl cg f n nl ng : Nat} {xs : List Int} {S T U : Nat → Prop} (hx : sumsF q (liveF s) = xs) (hf : q.fs.length = f) (hn : xs.length = n) (hnl : s.l.length = nl) (hng : s.g.length = ng)
    (w : World) (hq : ValidQ q) (hw : wideB q = false) (ok : OkStr s) (hl : s.l.length ≤ 1000) (h : Sl cdE.slice S w A cc q.fs) (hL : Sl rdE T w L cl s.l) (hG : Sl .bool U w G cg s.g) :
    Calls Tryd.prog 13 #[(.agg #[.int .i64 q.kind, .int .i64 q.col, .int .i64 q.k, .slice A f cc]), .agg #[.slice L nl cl, .slice G ng cg]] w fun e w' => ∃ A c, e = .returned (.slice A n c) ∧ Sl .i64 (fun b => w.heap.size ≤ b) w' A c xs ∧ Below w.heap.size w w' := by
  subst hf; subst hn; subst hnl; subst hng; subst hx
  exact sumsE_new w hq hw ok hl h hL hG
/-- A stream's box. -/
def StB (w : World) (g : Nat) (s : Str) (nl ng : Nat) : Prop := ∃ L cl G cg, w.heap[g]? = some (.cells #[.slice L nl cl, .slice G ng cg] 31 (0, 0)) ∧ Sl rdE (fun _ => True) w L cl s.l ∧ Sl .bool (fun _ => True) w G cg s.g
theorem mvSt {w w' : World} {g n m : Nat} {s : Str} (h : Hid (StB w g s n m)) (hb : Below w.heap.size w w') : Hid (StB w' g s n m) := by
  obtain ⟨A, c, B, d, h1, h2, h3⟩ := h.out
  exact Lib.hid ⟨A, c, B, d, (hb.block g (heap_lt h1)).trans h1, h2.keep (Below.agree hb), h3.keep (Below.agree hb)⟩
theorem zAn {w W : World} {g n c m d : Nat} {A B : Option Addr} (h : Hid (w.heap[g]? = some (.cells #[.slice A n c, .slice B m d] 36 (0, 0)))) (hW : Below w.heap.size w W) : W.cell? ⟨g, 0, none⟩ = some (.slice A n c) ∧ W.cell? ⟨g, 1, none⟩ = some (.slice B m d) ∧ g < W.heap.size := by
  have h1 := (hW.block g (heap_lt h.out)).trans h.out
  exact ⟨cell_of_row _ _ 0 _ _ _ h1, cell_of_row _ _ 1 _ _ _ h1, heap_lt h1⟩
theorem mvF {w w' : World} {A : Option Addr} {c : Nat} {l : List (List Cd)} (h : Hid (Sl cdE.slice (fun _ => True) w A c l)) (hb : Below w.heap.size w w') : Hid (Sl cdE.slice (fun _ => True) w' A c l) := Lib.hid (h.out.keep (Below.agree hb))
theorem two2 {W : World} {g : Nat} {u v : Value} {t : TypeId} (h : Hid (W.heap[g]? = some (.cells #[u, v] t (0, 0)))) : W.cell? ⟨g, 0, none⟩ = some u ∧ W.cell? ⟨g, 1, none⟩ = some v :=
  ⟨cell_of_row _ _ 0 _ _ _ h.out, cell_of_row _ _ 1 _ _ _ h.out⟩
theorem drew_get2 {w : World} {g : Nat} {o : Option Obj} (h : w.heap[g]? = o) : w.drew.heap[g]? = o := h
theorem sumsRN {q : Qy} {s : Str} {A L G : Option Addr} {cc cl cg f n nl ng : Nat} {xs : List Int} {S T U : Nat → Prop} (hx : sumsF q (liveF s) = xs) (hf : q.fs.length = f) (hn : xs.length = n) (hnl : s.l.length = nl) (hng : s.g.length = ng)
    (w : World) (hq : ValidQ q) (hw : wideB q = false) (ok : OkStr s) (hl : s.l.length ≤ 1000) (h : Sl cdE.slice S w A cc q.fs) (hL : Sl rdE T w L cl s.l) (hG : Sl .bool U w G cg s.g) :
    Calls Tryd.prog 14 #[(.agg #[.int .i64 q.kind, .int .i64 q.col, .int .i64 q.k, .slice A f cc]), .agg #[.slice L nl cl, .slice G ng cg]] w fun e w' => ∃ A c, e = .returned (.slice A n c) ∧ Sl .i64 (fun b => w.heap.size ≤ b) w' A c xs ∧ Below w.heap.size w w' := by
  subst hf; subst hn; subst hnl; subst hng; subst hx
  exact sumsR w hq hw ok hl h hL hG
theorem answerRN {q : Qy} {s : Str} {A L G : Option Addr} {cc cl cg f n m nl ng : Nat} {xs ys : List Int} {S T U : Nat → Prop} (hx : sumsF q (liveF s) = xs) (hy : resF q xs = ys) (hf : q.fs.length = f) (hn : xs.length = n) (hm : ys.length = m) (hnl : s.l.length = nl) (hng : s.g.length = ng)
    (w : World) (hq : ValidQ q) (hw : wideB q = false) (ok : OkStr s) (hl : s.l.length ≤ 1000) (h : Sl cdE.slice S w A cc q.fs) (hL : Sl rdE T w L cl s.l) (hG : Sl .bool U w G cg s.g) :
    Calls Tryd.prog 16 #[(.agg #[.int .i64 q.kind, .int .i64 q.col, .int .i64 q.k, .slice A f cc]), .agg #[.slice L nl cl, .slice G ng cg]] w (AnsN w xs ys n m) := by
  subst hf; subst hn; subst hm; subst hnl; subst hng; subst hy; subst hx
  exact (answerR w hq hw ok hl h hL hG).mono fun e w' ⟨A, c, B, d, h1, h2, h3, h4⟩ => ⟨A, c, B, d, h1, h2.old, h3.old, h4⟩
theorem resultEN {q : Qy} {xs ys : List Int} {A B : Option Addr} {cc d f n m : Nat} {S : Nat → Prop} (hy : resF q xs = ys) (hf : q.fs.length = f) (hn : xs.length = n) (hm : ys.length = m) (w : World) (hr : ResOk q xs) (hxl : xs.length ≤ 1000) (h : Sl .i64 S w B d xs) :
    Calls Tryd.prog 18 #[(.agg #[.int .i64 q.kind, .int .i64 q.col, .int .i64 q.k, .slice A f cc]), .slice B n d] w fun e w' => ∃ A c, e = .returned (.slice A m c) ∧ Sl .i64 (fun _ => True) w' A c ys ∧ Below w.heap.size w w' := by
  subst hf; subst hn; subst hm; subst hy
  exact (resultE w hr hxl h).mono fun e w' ⟨A, c, h1, h2, h3⟩ => ⟨A, c, h1, h2.sub fun _ _ _ => trivial, h3⟩
theorem resultRN {q : Qy} {xs ys : List Int} {A B : Option Addr} {cc d f n m : Nat} {S : Nat → Prop} (hy : resF q xs = ys) (hf : q.fs.length = f) (hn : xs.length = n) (hm : ys.length = m) (w : World) (hr : ResOk q xs) (hxl : xs.length ≤ 1000) (h : Sl .i64 S w B d xs) :
    Calls Tryd.prog 19 #[(.agg #[.int .i64 q.kind, .int .i64 q.col, .int .i64 q.k, .slice A f cc]), .slice B n d] w fun e w' => ∃ A c, e = .returned (.slice A m c) ∧ Sl .i64 (fun _ => True) w' A c ys ∧ Below w.heap.size w w' := by
  subst hf; subst hn; subst hm; subst hy
  exact (resultR w hr hxl h).mono fun e w' ⟨A, c, h1, h2, h3⟩ => ⟨A, c, h1, h2.sub fun _ _ _ => trivial, h3⟩
end Go.Proofs.YtmkpaolbejlodaaDoor
