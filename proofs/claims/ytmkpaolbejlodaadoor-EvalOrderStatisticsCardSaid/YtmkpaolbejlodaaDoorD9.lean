/-
  Texts of this claim, merged: Ev7, EvN. Conditions: as each theorem says.
-/
import Derived.Lib.Mul64
import Derived.Laws.Bits64b
import Derived.Shelf.Bits.Mul64
import Derived.Test.YtmkpaolbejlodaaDoorD1
import Derived.Test.YtmkpaolbejlodaaDoorD2
import Derived.Test.YtmkpaolbejlodaaDoorD3
import Derived.Test.YtmkpaolbejlodaaDoorD4
import Derived.Test.YtmkpaolbejlodaaDoorD5
import Derived.Test.YtmkpaolbejlodaaDoorD6
import Derived.Test.YtmkpaolbejlodaaDoorD7
import Derived.Test.YtmkpaolbejlodaaDoorD8
set_option linter.unusedSimpArgs false
set_option linter.unusedVariables false
namespace Go.Proofs.YtmkpaolbejlodaaDoor
open Go.RowKit

theorem live_len (s : Str) : (liveF s).length ≤ s.l.length := by
  unfold liveF
  rw [List.length_map]
  have h1 := List.length_filter_le (fun p : Rd × Bool => !p.2) (s.l.zip s.g)
  rw [List.length_zip] at h1
  omega
def AnsRes (w : World) (xs ys : List Int) (e : Ending) (w' : World) : Prop :=
  ∃ A c B d, e = .returned (.agg #[.slice A xs.length c, .slice B ys.length d]) ∧ Sl .i64 (fun b => w.heap.size ≤ b) w' A c xs ∧ Sl .i64 (fun b => w.heap.size ≤ b) w' B d ys ∧ Below w.heap.size w w'
theorem sumsE_new {q : Qy} {s : Str} {A L G : Option Addr} {cc cl cg : Nat} {S T U : Nat → Prop} (w : World) (hq : ValidQ q) (hw : wideB q = false) (ok : OkStr s) (hl : s.l.length ≤ 1000)
    (h : Sl cdE.slice S w A cc q.fs) (hL : Sl rdE T w L cl s.l) (hG : Sl .bool U w G cg s.g) :
    Calls Tryd.prog 13 #[(.agg #[.int .i64 q.kind, .int .i64 q.col, .int .i64 q.k, .slice A q.fs.length cc]), .agg #[.slice L s.l.length cl, .slice G s.g.length cg]] w (IntsNew w (sumsF q (liveF s))) :=
  (sumsE w hq hw ok hl h hL hG).mono fun _ _ h => h.new
set_option maxRecDepth 100000 in
set_option maxHeartbeats 2000000 in
theorem answerE {q : Qy} {s : Str} {A L G : Option Addr} {cc cl cg : Nat} {S T U : Nat → Prop} (w : World) (hq : ValidQ q) (hw : wideB q = false) (ok : OkStr s) (hl : s.l.length ≤ 1000)
    (h : Sl cdE.slice S w A cc q.fs) (hL : Sl rdE T w L cl s.l) (hG : Sl .bool U w G cg s.g) :
    Calls Tryd.prog 15 #[(.agg #[.int .i64 q.kind, .int .i64 q.col, .int .i64 q.k, .slice A q.fs.length cc]), .agg #[.slice L s.l.length cl, .slice G s.g.length cg]] w (AnsRes w (sumsF q (liveF s)) (resF q (sumsF q (liveF s)))) := by
  have HQ := Lib.hid hq
  have HW := Lib.hid hw
  have OK := Lib.hid ok
  have H := Lib.hid h
  have HL := Lib.hid hL
  have HG := Lib.hid hG
  obtain ⟨xs, hxs⟩ : ∃ xs, sumsF q (liveF s) = xs := ⟨_, rfl⟩
  have HR := Lib.hid (show ResOk q xs by rw [← hxs]; exact resOk_sums hq (Nat.le_trans (live_len s) hl))
  have hx32 : xs.length ≤ 1000 := by rw [← hxs, sumsF_len]; have := (nSums_le hq).1; omega
  rw [hxs]
  have HXS := Lib.hid hxs
  clear hq hw ok h hL hG hxs
  go_enter Tryd.func15, Tryd.ntmps15
  go_upto_region 1 with fail
  refine wp_world (F := fun wx => Below w.heap.size w wx ∧ Hid (wx.heap[w.heap.size]? = some (.cells #[.int .i64 q.kind, .int .i64 q.col, .int .i64 q.k, .slice A q.fs.length cc] 24 (0, 0))) ∧ Hid (wx.heap[w.heap.size + 1]? = some (.cells #[.slice L s.l.length cl, .slice G s.g.length cg] 31 (0, 0))) ∧ Hid (wx.heap[w.heap.size + 1 + 1]? = some (.cells #[.slice none 0 0, .slice none 0 0] 36 (0, 0)))) ⟨(by repeat' (first | with_reducible exact Below.refl _ _ | with_reducible assumption | with_reducible refine Below.setCell ?_ ?_ _ | with_reducible refine Below.drew ?_ | with_reducible refine below_drewN ?_ _ | with_reducible refine Below.alloc ?_ ?_ _ | (rintro _ ⟨⟩; simp <;> omega) | omega | (simp <;> omega))), Lib.hid ((Below.heap_alloc _ _ _ (by simp; omega)).trans ((Below.heap_alloc _ _ _ (by simp)).trans (heap_alloc_at rfl))), Lib.hid ((Below.heap_alloc _ _ _ (by simp)).trans (heap_alloc_at (by simp))), Lib.hid (heap_alloc_at (by simp))⟩ ?_
  rintro w1 ⟨bb, gq, gs, ga⟩
  have B1 := Lib.hid bb
  clear bb
  obtain ⟨q0, q1, q2, q3⟩ := row4 gq
  have s0 := cell_of_row _ _ 0 _ _ _ gs.out
  have s1 := cell_of_row _ _ 1 _ _ _ gs.out
  simp only [List.getElem?_toArray, List.getElem?_cons_zero, List.getElem?_cons_succ] at s0 s1
  go_upto_region 2 with (go_at_call 13; refine (sumsE_new (q := q) (s := s) _ HQ.out HW.out OK.out hl (H.out.keep (Below.agree B1.out)) (HL.out.keep (Below.agree B1.out)) (HG.out.keep (Below.agree B1.out))).mono ?_; rw [HXS.out]; rintro e w2 ⟨A2, c2, rfl, hs2, hb2⟩; have HS2 := Lib.hid hs2; have HB2 := Lib.hid hb2; clear hs2 hb2)
  have gq2 := mvQ gq HB2.out
  have ga2 := mvQ ga HB2.out
  have lga := heap_lt ga.out
  clear q0 q1 q2 q3 s0 s1 gq gs ga
  obtain ⟨q0, q1, q2, q3⟩ := row4 gq2
  have a0 := cell_of_row _ _ 0 _ _ _ ga2.out
  have a1 := cell_of_row _ _ 1 _ _ _ ga2.out
  simp only [List.getElem?_toArray, List.getElem?_cons_zero, List.getElem?_cons_succ] at a0 a1
  have B2 := Lib.hid (B1.out.trans (HB2.out.mono B1.out.size))
  have hz1 := B1.out.size
  have hz2 := HB2.out.size
  go_wp2_with (go_at_call 18; refine (resultE (q := q) (xs := xs) _ HR.out hx32 (HS2.out.sub (T := fun b => w1.heap.size ≤ b) (fun _ h _ => h))).mono ?_; rintro e w3 ⟨A3, c3, rfl, hs3, hb3⟩; have HS3 := Lib.hid hs3; have HB3 := Lib.hid hb3; have ga3 := mvQ ga2 hb3; have v0 := cell_of_row _ _ 0 _ _ _ ga3.out; have v1 := cell_of_row _ _ 1 _ _ _ ga3.out; simp only [List.getElem?_toArray, List.getElem?_cons_zero, List.getElem?_cons_succ] at v0 v1; have fa := frz ga3.out; have la := heap_lt ga3.out; clear hs3 hb3)
  have hb3 := B2.out.trans (HB3.out.mono B2.out.size)
  refine bodyPost_ret (v := .agg #[.slice A2 xs.length c2, .slice A3 (resF q xs).length c3]) (by simp [results, Tryd.results15, go_sem, *]) rfl ⟨A2, c2, A3, c3, rfl, ?_, ?_, (by repeat' (first | with_reducible exact Below.refl _ _ | with_reducible assumption | with_reducible refine Below.trans ?_ (Below.mono hb3 ?_) | with_reducible refine Below.setCell ?_ ?_ _ | with_reducible refine Below.drew ?_ | with_reducible refine below_drewN ?_ _ | with_reducible refine Below.alloc ?_ ?_ _ | (rintro _ ⟨⟩; simp <;> omega) | omega | (simp <;> omega)))⟩
  · exact ((HS2.out.call_ HB3.out).keep (by repeat' (first | with_reducible exact Agree.refl _ _ | with_reducible assumption | with_reducible refine Agree.set ?_ ?_ _ | with_reducible refine Agree.alloc ?_ _ | with_reducible refine Agree.drew ?_ | with_reducible refine Agree.drewN ?_ _ | omega | (simp <;> omega)))).sub (fun b hb _ => Nat.le_trans hz1 hb)
  · exact (HS3.out.keep (w := w3) (by repeat' (first | with_reducible exact Agree.refl _ _ | with_reducible refine Agree.set ?_ ?_ _ | (rintro (h | h) <;> simp at h <;> omega)))).sub (fun b hb _ => by rcases hb with h | h <;> omega)
end Go.Proofs.YtmkpaolbejlodaaDoor
namespace Go.Proofs.YtmkpaolbejlodaaDoor
open Go.RowKit

theorem Sl.set_ {α : Type} {E : Enc α} {S : Nat → Prop} {w : World} {A : Option Addr} {c : Nat} {xs : List α} {p : Addr} (h : Sl E S w A c xs) (hp : ¬ S p.block) (u : Value) : Sl E S (w.setCell p u) A c xs := h.keep ((Agree.refl _ _).set hp u)
theorem Sl.two_ {α : Type} {E : Enc α} {S : Nat → Prop} {w : World} {A : Option Addr} {c g : Nat} {xs : List α} {u v : Value} (h : Sl E S w A c xs) (hg : ¬ S g) : Sl E (fun _ => True) ((w.setCell ⟨g, 0, none⟩ u).setCell ⟨g, 1, none⟩ v) A c xs := ((h.set_ hg u).set_ hg v).sub fun _ _ _ => trivial
theorem set2 {W : World} {g : Nat} {t : TypeId} {a b u v : Value} (h : W.heap[g]? = some (.cells #[a, b] t (0, 0))) : ((W.setCell ⟨g, 0, none⟩ u).setCell ⟨g, 1, none⟩ v).heap[g]? = some (.cells #[u, v] t (0, 0)) :=
  heap_set (i := 1) (heap_set (i := 0) h)
theorem onlyL15 (col v : Int) (w : World) : Calls Tryd.prog 29 #[.int .i64 col, .int .i64 v] w fun e w' => ∃ g, e = .returned (.slice (some ⟨g, 0, none⟩) 1 1) ∧ Sl cdE (fun _ => True) w' (some ⟨g, 0, none⟩) 1 [⟨col, v, v⟩] ∧ w'.heap.size = g + 1 ∧ Below w.heap.size w w' := by
  go_enter Tryd.func29, Tryd.ntmps29
  go_wp2_with fail
  go_ret
  exact ⟨_, rfl, sl_cd1 (x := ⟨col, v, v⟩) (heap_alloc_at rfl) trivial, by simp, (by repeat' (first | with_reducible exact Below.refl _ _ | with_reducible assumption | with_reducible refine Below.setCell ?_ ?_ _ | with_reducible refine Below.drew ?_ | with_reducible refine below_drewN ?_ _ | with_reducible refine Below.alloc ?_ ?_ _ | (rintro _ ⟨⟩; simp <;> omega) | omega | (simp <;> omega)))⟩
/-- An answer, its numbers named. -/
def AnsN (w : World) (xs ys : List Int) (n m : Nat) (e : Ending) (w' : World) : Prop :=
  ∃ A c B d, e = .returned (.agg #[.slice A n c, .slice B m d]) ∧ Sl .i64 (fun b => w.heap.size ≤ b ∧ b < w'.heap.size) w' A c xs ∧ Sl .i64 (fun b => w.heap.size ≤ b ∧ b < w'.heap.size) w' B d ys ∧ Below w.heap.size w w'
theorem answerN {q : Qy} {s : Str} {A L G : Option Addr} {cc cl cg f n m nl ng : Nat} {xs ys : List Int} {S T U : Nat → Prop} (hx : sumsF q (liveF s) = xs) (hy : resF q xs = ys) (hf : q.fs.length = f) (hn : xs.length = n) (hm : ys.length = m) (hnl : s.l.length = nl) (hng : s.g.length = ng)
    (w : World) (hq : ValidQ q) (hw : wideB q = false) (ok : OkStr s) (hl : s.l.length ≤ 1000) (h : Sl cdE.slice S w A cc q.fs) (hL : Sl rdE T w L cl s.l) (hG : Sl .bool U w G cg s.g) :
    Calls Tryd.prog 15 #[(.agg #[.int .i64 q.kind, .int .i64 q.col, .int .i64 q.k, .slice A f cc]), .agg #[.slice L nl cl, .slice G ng cg]] w (AnsN w xs ys n m) := by
  subst hf; subst hn; subst hm; subst hnl; subst hng; subst hy; subst hx
  exact (answerE w hq hw ok hl h hL hG).mono fun e w' ⟨A, c, B, d, h1, h2, h3, h4⟩ => ⟨A, c, B, d, h1, h2.old, h3.old, h4⟩
theorem same15N {xs : List Int} {A B : Option Addr} {c d n : Nat} {S T : Nat → Prop} (hn : xs.length = n) (w : World) (h : Sl .i64 S w A c xs) (k : Sl .i64 T w B d xs) :
    Calls Tryd.prog 17 #[.slice A n c, .slice B n d] w fun e w' => e = .returned (.bool true) ∧ Below w.heap.size w w' := by
  subst hn
  exact (same15 w h k).mono fun e w' ⟨h1, h2⟩ => ⟨by rw [h1]; simp, h2⟩
/-- An answer's box. -/
def An (w : World) (g : Nat) (xs ys : List Int) (n m : Nat) : Prop := ∃ A c B d, w.heap[g]? = some (.cells #[.slice A n c, .slice B m d] 36 (0, 0)) ∧ Sl .i64 (fun _ => True) w A c xs ∧ Sl .i64 (fun _ => True) w B d ys
theorem mvAn {w w' : World} {g n m : Nat} {xs ys : List Int} (h : Hid (An w g xs ys n m)) (hb : Below w.heap.size w w') : Hid (An w' g xs ys n m) := by
  obtain ⟨A, c, B, d, h1, h2, h3⟩ := h.out
  exact Lib.hid ⟨A, c, B, d, (hb.block g (heap_lt h1)).trans h1, h2.keep (Below.agree hb), h3.keep (Below.agree hb)⟩
theorem sl_fs1N {S : Nat → Prop} {w : World} {g n : Nat} {t : TypeId} {B : Option Addr} {d : Nat} {l : List Cd} (hn : l.length = n) (h : w.heap[g]? = some (.cells #[.slice B n d] t (0, 0))) (hs : Sl cdE S w B d l) (hS : S g) : Sl cdE.slice S w (some ⟨g, 0, none⟩) 1 [l] := by
  subst hn; exact sl_fs1 h hs hS
theorem sl_fs2N {S : Nat → Prop} {w : World} {g n m : Nat} {t : TypeId} {B C : Option Addr} {d e : Nat} {l k : List Cd} (hn : l.length = n) (hm : k.length = m) (h : w.heap[g]? = some (.cells #[.slice B n d, .slice C m e] t (0, 0))) (hs : Sl cdE S w B d l) (hk : Sl cdE S w C e k) (hS : S g) : Sl cdE.slice S w (some ⟨g, 0, none⟩) 2 [l, k] := by
  subst hn; subst hm
  exact Sl.ofRow (cs := [.slice B l.length d, .slice C k.length e]) h ⟨[_], _, rfl, ⟨B, d, rfl, hs⟩, .single ⟨C, e, rfl, hk⟩⟩ hS (by unfold maxLen; simp)
theorem sumsN {q : Qy} {s : Str} {A L G : Option Addr} {cc cl cg f n nl ng : Nat} {xs : List Int} {S T U : Nat → Prop} (hx : sumsF q (liveF s) = xs) (hf : q.fs.length = f) (hn : xs.length = n) (hnl : s.l.length = nl) (hng : s.g.length = ng)
    (w : World) (hq : ValidQ q) (hw : wideB q = false) (ok : OkStr s) (hl : s.l.length ≤ 1000) (h : Sl cdE.slice S w A cc q.fs) (hL : Sl rdE T w L cl s.l) (hG : Sl .bool U w G cg s.g) :
    Calls Tryd.prog 13 #[(.agg #[.int .i64 q.kind, .int .i64 q.col, .int .i64 q.k, .slice A f cc]), .agg #[.slice L nl cl, .slice G ng cg]] w fun e w' => ∃ A c, e = .returned (.slice A n c) ∧ Sl .i64 (fun b => w.heap.size ≤ b) w' A c xs ∧ Below w.heap.size w w' := by
  subst hf; subst hn; subst hnl; subst hng; subst hx
  exact sumsE_new w hq hw ok hl h hL hG
/-- A stream's box. -/
def StB (w : World) (g : Nat) (s : Str) (nl ng : Nat) : Prop := ∃ L cl G cg, w.heap[g]? = some (.cells #[.slice L nl cl, .slice G ng cg] 31 (0, 0)) ∧ Sl rdE (fun _ => True) w L cl s.l ∧ Sl .bool (fun _ => True) w G cg s.g
theorem mvSt {w w' : World} {g n m : Nat} {s : Str} (h : Hid (StB w g s n m)) (hb : Below w.heap.size w w') : Hid (StB w' g s n m) := by
  obtain ⟨A, c, B, d, h1, h2, h3⟩ := h.out
  exact Lib.hid ⟨A, c, B, d, (hb.block g (heap_lt h1)).trans h1, h2.keep (Below.agree hb), h3.keep (Below.agree hb)⟩
theorem zAn {w W : World} {g n c m d : Nat} {A B : Option Addr} (h : Hid (w.heap[g]? = some (.cells #[.slice A n c, .slice B m d] 36 (0, 0)))) (hW : Below w.heap.size w W) : W.cell? ⟨g, 0, none⟩ = some (.slice A n c) ∧ W.cell? ⟨g, 1, none⟩ = some (.slice B m d) ∧ g < W.heap.size := by
  have h1 := (hW.block g (heap_lt h.out)).trans h.out
  exact ⟨cell_of_row _ _ 0 _ _ _ h1, cell_of_row _ _ 1 _ _ _ h1, heap_lt h1⟩
theorem mvF {w w' : World} {A : Option Addr} {c : Nat} {l : List (List Cd)} (h : Hid (Sl cdE.slice (fun _ => True) w A c l)) (hb : Below w.heap.size w w') : Hid (Sl cdE.slice (fun _ => True) w' A c l) := Lib.hid (h.out.keep (Below.agree hb))
theorem two2 {W : World} {g : Nat} {u v : Value} {t : TypeId} (h : Hid (W.heap[g]? = some (.cells #[u, v] t (0, 0)))) : W.cell? ⟨g, 0, none⟩ = some u ∧ W.cell? ⟨g, 1, none⟩ = some v :=
  ⟨cell_of_row _ _ 0 _ _ _ h.out, cell_of_row _ _ 1 _ _ _ h.out⟩
theorem drew_get2 {w : World} {g : Nat} {o : Option Obj} (h : w.heap[g]? = o) : w.drew.heap[g]? = o := h
end Go.Proofs.YtmkpaolbejlodaaDoor
