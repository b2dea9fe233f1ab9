/-
  Contracts of the network chapter (XNet23).
-/
import Derived.Test.YtmaaniogcmlfbaaNet22
import Derived.Deep.DeepCutAuto
namespace Go.Proofs.Ytmaaniogcmlfbaa
open Go.RowKit

/-- Block g holds the network n. -/
def NB (w : World) (g : Nat) (n : Nt) : Prop := ∃ A c, w.heap[g]? = some (.cells #[.int .i64 n.now, .slice A n.way.length c] 26 (0, 0)) ∧ Sl pkE (fun _ => True) w A c n.way
/-- The value is a slice of the packets ps. -/
def PV (w : World) (v : Value) (ps : List Pk) : Prop := ∃ A c, v = .slice A ps.length c ∧ Sl pkE (fun _ => True) w A c ps
theorem NB.below {w w' : World} {g : Nat} {n : Nt} (h : NB w g n) (hb : Below w.heap.size w w') : NB w' g n := by
  obtain ⟨A, c, hg, hs⟩ := h
  exact ⟨A, c, (hb.block g (heap_lt hg)).trans hg, hs.keep (Below.agree hb)⟩
theorem PV.below {w w' : World} {v : Value} {ps : List Pk} (h : PV w v ps) (hb : Below w.heap.size w w') : PV w' v ps := by
  obtain ⟨A, c, hv, hs⟩ := h
  exact ⟨A, c, hv, hs.keep (Below.agree hb)⟩
/-- What a call needs of a network's box. -/
theorem NB.open_ {w : World} {g : Nat} {n : Nt} (h : NB w g n) : ∃ A c, w.cell? ⟨g, 0, none⟩ = some (.int .i64 n.now) ∧ w.cell? ⟨g, 1, none⟩ = some (.slice A n.way.length c) ∧ g < w.heap.size ∧ Sl pkE (fun _ => True) w A c n.way := by
  obtain ⟨A, c, hg, hs⟩ := h
  exact ⟨A, c, cell_of_row _ _ 0 _ _ _ hg, cell_of_row _ _ 1 _ _ _ hg, heap_lt hg, hs⟩
theorem NB.mk_ {w : World} {n : Nt} {A : Option Addr} {c g : Nat} {S : Nat → Prop} (hs : Sl pkE S w A c n.way) (hg : g = w.heap.size) : NB (w.alloc (.cells #[.int .i64 n.now, .slice A n.way.length c] 26)) g n :=
  ⟨A, c, heap_alloc_at hg, (hs.sub fun _ _ _ => trivial).keep ((Agree.refl _ _).alloc _)⟩

theorem NB.lit {w : World} {g : Nat} {n : Nt} (h : NB w g n) {now : Int} {len : Nat} (h1 : n.now = now) (h2 : n.way.length = len) :
    ∃ A c, w.cell? ⟨g, 0, none⟩ = some (.int .i64 now) ∧ w.cell? ⟨g, 1, none⟩ = some (.slice A len c) ∧ g < w.heap.size ∧ Sl pkE (fun _ => True) w A c n.way := by
  subst h1; subst h2; exact h.open_
theorem NB.made {w : World} {n : Nt} {A : Option Addr} {c g : Nat} {S : Nat → Prop} {now : Int} {len : Nat} (h1 : n.now = now) (h2 : n.way.length = len) (hs : Sl pkE S w A c n.way) (hg : g = w.heap.size) : NB (w.alloc (.cells #[.int .i64 now, .slice A len c] 26)) g n := by
  subst h1; subst h2; exact NB.mk_ hs hg
theorem NB.sets {w : World} {n : Nt} {A : Option Addr} {c g : Nat} {S : Nat → Prop} {now : Int} {len : Nat} {u v : Value} (h1 : n.now = now) (h2 : n.way.length = len) (hg : w.heap[g]? = some (.cells #[u, v] 26 (0, 0))) (hs : Sl pkE S w A c n.way) (hS : ¬ S g) :
    NB ((w.setCell ⟨g, 0, none⟩ (.int .i64 now)).setCell ⟨g, 1, none⟩ (.slice A len c)) g n := by
  subst h1; subst h2
  exact ⟨A, c, heap_set (i := 1) (heap_set (i := 0) hg), (hs.keep (((Agree.refl S w).set hS _).set hS _)).sub fun _ _ _ => trivial⟩
theorem PV.made {w : World} {A : Option Addr} {c len : Nat} {ps : List Pk} {S : Nat → Prop} (h : ps.length = len) (hs : Sl pkE S w A c ps) : PV w (.slice A len c) ps := by
  subst h; exact ⟨A, c, rfl, hs.sub fun _ _ _ => trivial⟩
theorem PV.lit {w : World} {v : Value} {ps : List Pk} (h : PV w v ps) {len : Nat} (hl : ps.length = len) : ∃ A c, v = .slice A len c ∧ Sl pkE (fun _ => True) w A c ps := by
  subst hl; exact h

/-- Apply and Send, with the numbers of the networks given. -/
theorem applyS {S : Nat → Prop} {A : Option Addr} {c len len' dl : Nat} {n n' : Nt} {ds : List Pk} {now now' kd at_ by_ : Int} (w : World) (h : Sl pkE S w A c n.way) (ok : NtOk n) (h1 : n.now = now) (h2 : n.way.length = len)
    (hE : applyF n kd at_ by_ = (n', ds)) (h3 : n'.now = now') (h4 : n'.way.length = len') (h5 : ds.length = dl) :
    Calls Try.prog 13 #[.agg #[.int .i64 now, .slice A len c], .agg #[.int .i64 kd, .int .i64 at_, .int .i64 by_]] w fun e w' =>
      ∃ A' c' A2 c2, e = .returned (.tuple #[.agg #[.int .i64 now', .slice A' len' c'], .slice A2 dl c2]) ∧ Sl pkE (Fresh S w) w' A' c' n'.way ∧ Sl pkE (Fresh S w) w' A2 c2 ds ∧ Below w.heap.size w w' := by
  subst h1; subst h2; subst h3; subst h4; subst h5
  have h := applyN w h ok kd at_ by_
  rw [hE] at h
  exact h
theorem sendS {S : Nat → Prop} {A B : Option Addr} {c d len bl len' : Nat} {n n' : Nt} {p : Pk} {now now' x y z : Int} (w : World) (h : Sl pkE S w A c n.way) (hp : Sl .u8 S w B d p.b) (h1 : n.now = now) (h2 : n.way.length = len)
    (hx : p.fr = x) (hy : p.to_ = y) (hz : p.at_ = z) (hb : p.b.length = bl) (hl : bl ≤ 4294967296) (hE : withF n (lateF n p) = n') (h3 : n'.now = now') (h4 : n'.way.length = len') :
    Calls Try.prog 11 #[.agg #[.int .i64 now, .slice A len c], .agg #[.int .i64 x, .int .i64 y, .int .i64 z, .slice B bl d]] w fun e w' =>
      ∃ A' c', e = .returned (.agg #[.int .i64 now', .slice A' len' c']) ∧ Sl pkE (Fresh S w) w' A' c' n'.way ∧ Below w.heap.size w w' := by
  subst h1; subst h2; subst h3; subst h4; subst hx; subst hy; subst hz; subst hb
  have h := sendN w h hp hl
  have hn : (withF n (lateF n p)).now = n.now := by unfold withF; split <;> rfl
  rw [hE] at h hn
  rw [hn]
  exact h

def pS : Pk := ⟨1, 2, 5, [10, 20]⟩
def pX : Pk := ⟨1, 2, 5, [10, 21]⟩
def pL : Pk := ⟨0, 0, 2, []⟩
def pM : Pk := ⟨0, 0, 5, []⟩
def nS : Nt := ⟨0, [pS]⟩
def nL : Nt := ⟨5, [pS]⟩
def nE : Nt := ⟨5, []⟩
def nX : Nt := ⟨0, [pX]⟩
def nT : Nt := ⟨0, [pS, pS]⟩
def nM : Nt := ⟨5, [pS, pM]⟩
theorem okS : NtOk nS := ⟨by decide, by decide, by decide, by simp [nS, pS]⟩
theorem okL : NtOk nL := ⟨by decide, by decide, by decide, by simp [nL, pS]⟩
theorem okT : NtOk nT := ⟨by decide, by decide, by decide, by simp [nT, pS]⟩
theorem eq3 : applyF nS 1 0 0 = (nS, []) := by kernel_rfl
theorem eq4 : applyF nS 5 0 5 = (nL, []) := by kernel_rfl
theorem eq5 : applyF nL 1 0 0 = (nE, [pS]) := by kernel_rfl
theorem eq6 : applyF nS 4 0 1 = (nX, []) := by kernel_rfl
theorem eq7 : applyF nS 3 0 0 = (nT, []) := by kernel_rfl
theorem eq8 : applyF nT 2 1 0 = (nS, []) := by kernel_rfl
theorem eq9 : withF nL (lateF nL pL) = nM := by kernel_rfl
theorem eq10 : applyF nS 9 0 0 = (nS, []) := by kernel_rfl
theorem eq2 : withF ⟨0, []⟩ (lateF ⟨0, []⟩ pS) = nS := by kernel_rfl
end Go.Proofs.Ytmaaniogcmlfbaa
