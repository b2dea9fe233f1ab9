/-
  Contracts of the network chapter (XNet14).
-/
import Derived.Test.YtmaaniogcmlfbaaNet13
namespace Go.Proofs.Ytmaaniogcmlfbaa
open Go.RowKit

theorem ofrozen {W w1 : World} {g : Nat} (hg : W.grownBy w1 (some g)) :
    (∀ b o, b < W.heap.size → b ≠ g → w1.frozen? ⟨b, o, none⟩ = W.frozen? ⟨b, o, none⟩) :=
  fun b o h hne => World.frozen?_of_block (hg.block b h (fun e => hne (by injection e)))

set_option maxRecDepth 100000 in
set_option maxHeartbeats 400000 in
theorem sendN {S : Nat → Prop} {A B : Option Addr} {c d : Nat} {n : Nt} {p : Pk} (w : World) (h : Sl pkE S w A c n.way) (hp : Sl .u8 S w B d p.b) (hl : p.b.length ≤ 4294967296) :
    Calls Try.prog 11 #[.agg #[.int .i64 n.now, .slice A n.way.length c], .agg #[.int .i64 p.fr, .int .i64 p.to_, .int .i64 p.at_, .slice B p.b.length d]] w fun e w' =>
      ∃ A' c', e = .returned (.agg #[.int .i64 n.now, .slice A' (withF n (lateF n p)).way.length c']) ∧ Sl pkE (Fresh S w) w' A' c' (withF n (lateF n p)).way ∧ Below w.heap.size w w' := by
  by_cases hw : 512 ≤ n.way.length
  · have e2 : withF n (lateF n p) = n := by unfold withF; rw [if_pos hw]
    rw [e2]
    clear e2
    by_cases hm : n.now ≤ p.at_
    · skip
      have hg : ((((w.alloc (.cells #[.int .i64 n.now, .slice A n.way.length c] 26)).alloc (.cells #[.int .i64 p.fr, .int .i64 p.to_, .int .i64 p.at_, .slice B p.b.length d] 32)).alloc (.cells #[.int .i64 0, .slice none 0 0] 26)).alloc (.cells #[.int .i64 n.now, .slice A n.way.length c] 53)).heap[w.heap.size + 3]? = some (.cells #[.int .i64 n.now, .slice A n.way.length c] 53 (0, 0)) := heap_alloc_at (by simp)
      have hbW : Below w.heap.size w ((((w.alloc (.cells #[.int .i64 n.now, .slice A n.way.length c] 26)).alloc (.cells #[.int .i64 p.fr, .int .i64 p.to_, .int .i64 p.at_, .slice B p.b.length d] 32)).alloc (.cells #[.int .i64 0, .slice none 0 0] 26)).alloc (.cells #[.int .i64 n.now, .slice A n.way.length c] 53)) := (by repeat' (first | with_reducible exact Below.refl _ _ | with_reducible assumption | with_reducible refine Below.setCell ?_ ?_ _ | with_reducible refine Below.drew ?_ | with_reducible refine below_drewN ?_ _ | with_reducible refine Below.alloc ?_ ?_ _ | (rintro _ ⟨⟩; simp <;> omega) | omega | (simp <;> omega)))
      have hc := add_full (.int .i64 p.fr) (.int .i64 p.to_) (.int .i64 p.at_) (.slice B p.b.length d) _ hg hw
      have Hc := Lib.hid hc
      have HbW := Lib.hid hbW
      clear hc hg hbW
      go_enter Try.func11, Try.ntmps11
      go_wp2_with (go_at_call 23; refine Hc.out.mono ?_; rintro e w1 ⟨rfl, hb1⟩; obtain ⟨r1, r2⟩ := bcell hb1)
      refine bodyPost_ret (v := .agg #[.int .i64 n.now, .slice A n.way.length c]) (by simp [results, Try.results11, go_sem, r1]) rfl ⟨A, c, rfl, ?_, ?_⟩
      · exact (h.keep (Below.agree ((((HbW.out).trans (hb1.mono (by simp <;> omega))).setCell (by simp <;> omega) _).setCell (by simp <;> omega) _))).sub fun b hb _ => .inl hb
      · exact (((HbW.out).trans (hb1.mono (by simp <;> omega))).setCell (by simp <;> omega) _).setCell (by simp <;> omega) _
    · skip
      have hg : ((((w.alloc (.cells #[.int .i64 n.now, .slice A n.way.length c] 26)).alloc (.cells #[.int .i64 p.fr, .int .i64 p.to_, .int .i64 n.now, .slice B p.b.length d] 32)).alloc (.cells #[.int .i64 0, .slice none 0 0] 26)).alloc (.cells #[.int .i64 n.now, .slice A n.way.length c] 53)).heap[w.heap.size + 3]? = some (.cells #[.int .i64 n.now, .slice A n.way.length c] 53 (0, 0)) := heap_alloc_at (by simp)
      have hbW : Below w.heap.size w ((((w.alloc (.cells #[.int .i64 n.now, .slice A n.way.length c] 26)).alloc (.cells #[.int .i64 p.fr, .int .i64 p.to_, .int .i64 n.now, .slice B p.b.length d] 32)).alloc (.cells #[.int .i64 0, .slice none 0 0] 26)).alloc (.cells #[.int .i64 n.now, .slice A n.way.length c] 53)) := (by repeat' (first | with_reducible exact Below.refl _ _ | with_reducible assumption | with_reducible refine Below.setCell ?_ ?_ _ | with_reducible refine Below.drew ?_ | with_reducible refine below_drewN ?_ _ | with_reducible refine Below.alloc ?_ ?_ _ | (rintro _ ⟨⟩; simp <;> omega) | omega | (simp <;> omega)))
      have hc := add_full (.int .i64 p.fr) (.int .i64 p.to_) (.int .i64 n.now) (.slice B p.b.length d) _ hg hw
      have Hc := Lib.hid hc
      have HbW := Lib.hid hbW
      clear hc hg hbW
      go_enter Try.func11, Try.ntmps11
      go_wp2_with (go_at_call 23; refine Hc.out.mono ?_; rintro e w1 ⟨rfl, hb1⟩; obtain ⟨r1, r2⟩ := bcell hb1)
      refine bodyPost_ret (v := .agg #[.int .i64 n.now, .slice A n.way.length c]) (by simp [results, Try.results11, go_sem, r1]) rfl ⟨A, c, rfl, ?_, ?_⟩
      · exact (h.keep (Below.agree ((((HbW.out).trans (hb1.mono (by simp <;> omega))).setCell (by simp <;> omega) _).setCell (by simp <;> omega) _))).sub fun b hb _ => .inl hb
      · exact (((HbW.out).trans (hb1.mono (by simp <;> omega))).setCell (by simp <;> omega) _).setCell (by simp <;> omega) _
  · have e2 : withF n (lateF n p) = ⟨n.now, n.way ++ [lateF n p]⟩ := by unfold withF; rw [if_neg hw]
    rw [e2]
    clear e2
    by_cases hm : n.now ≤ p.at_
    · have e1 : lateF n p = p := by unfold lateF; rw [Int.max_eq_left hm]
      rw [e1]
      clear e1
      have hg : ((((w.alloc (.cells #[.int .i64 n.now, .slice A n.way.length c] 26)).alloc (.cells #[.int .i64 p.fr, .int .i64 p.to_, .int .i64 p.at_, .slice B p.b.length d] 32)).alloc (.cells #[.int .i64 0, .slice none 0 0] 26)).alloc (.cells #[.int .i64 n.now, .slice A n.way.length c] 53)).heap[w.heap.size + 3]? = some (.cells #[.int .i64 n.now, .slice A n.way.length c] 53 (0, 0)) := heap_alloc_at (by simp)
      have hbW : Below w.heap.size w ((((w.alloc (.cells #[.int .i64 n.now, .slice A n.way.length c] 26)).alloc (.cells #[.int .i64 p.fr, .int .i64 p.to_, .int .i64 p.at_, .slice B p.b.length d] 32)).alloc (.cells #[.int .i64 0, .slice none 0 0] 26)).alloc (.cells #[.int .i64 n.now, .slice A n.way.length c] 53)) := (by repeat' (first | with_reducible exact Below.refl _ _ | with_reducible assumption | with_reducible refine Below.setCell ?_ ?_ _ | with_reducible refine Below.drew ?_ | with_reducible refine below_drewN ?_ _ | with_reducible refine Below.alloc ?_ ?_ _ | (rintro _ ⟨⟩; simp <;> omega) | omega | (simp <;> omega)))
      have hc := add_room (S := fun b => S b ∧ b < w.heap.size) (p := p) _ hg (h.old.keep (Below.agree hbW)) (by rintro ⟨_, h⟩; omega) (hp.old.keep (Below.agree hbW)) (by omega) hl
      have Hc := Lib.hid hc
      have HbW := Lib.hid hbW
      clear hc hg hbW
      go_enter Try.func11, Try.ntmps11
      go_wp2_with (go_at_call 23; refine Hc.out.mono ?_; rintro e w1 ⟨rfl, A1, c1, hg1, hs1, hgr1⟩; have r1 := ocell hgr1; have r2 := ofrozen hgr1; have x0 := cell_of_row _ _ 0 _ _ _ hg1; have x1 := cell_of_row _ _ 1 _ _ _ hg1; simp at x0 x1; have Hg1 := Lib.hid hg1; clear hg1)
      have hne2 : w.heap.size + 2 ≠ w.heap.size + 3 := by omega
      refine bodyPost_ret (v := .agg #[.int .i64 n.now, .slice A1 (n.way ++ [p]).length c1]) (by simp [results, Try.results11, go_sem, r1]) rfl ⟨A1, c1, rfl, ?_, ?_⟩
      · refine ((hs1.sub (T := fun b => (S b ∧ b < w.heap.size) ∨ w.heap.size + 4 ≤ b) fun b hb _ => hb.imp id (fun h => by simp at h; omega)).only (g := w.heap.size + 2) (by repeat' (first | with_reducible exact Agree.refl _ _ | with_reducible assumption | with_reducible refine Agree.set ?_ ?_ _ | with_reducible refine Agree.alloc ?_ _ | with_reducible refine Agree.drew ?_ | with_reducible refine Agree.drewN ?_ _ | omega | (simp <;> omega))) (by rintro (⟨_, h⟩ | h) <;> omega)).sub fun b hb _ => hb.imp And.left (fun h => by omega)
      · exact (((HbW.out).trans ((Below.refl _ _).grown (hgr1) (by simp <;> omega) (by rintro _ ⟨⟩; simp <;> omega))).setCell (by simp <;> omega) _).setCell (by simp <;> omega) _
    · have e1 : lateF n p = { p with at_ := n.now } := by unfold lateF; rw [Int.max_eq_right (by omega)]
      rw [e1]
      clear e1
      have hg : ((((w.alloc (.cells #[.int .i64 n.now, .slice A n.way.length c] 26)).alloc (.cells #[.int .i64 p.fr, .int .i64 p.to_, .int .i64 n.now, .slice B p.b.length d] 32)).alloc (.cells #[.int .i64 0, .slice none 0 0] 26)).alloc (.cells #[.int .i64 n.now, .slice A n.way.length c] 53)).heap[w.heap.size + 3]? = some (.cells #[.int .i64 n.now, .slice A n.way.length c] 53 (0, 0)) := heap_alloc_at (by simp)
      have hbW : Below w.heap.size w ((((w.alloc (.cells #[.int .i64 n.now, .slice A n.way.length c] 26)).alloc (.cells #[.int .i64 p.fr, .int .i64 p.to_, .int .i64 n.now, .slice B p.b.length d] 32)).alloc (.cells #[.int .i64 0, .slice none 0 0] 26)).alloc (.cells #[.int .i64 n.now, .slice A n.way.length c] 53)) := (by repeat' (first | with_reducible exact Below.refl _ _ | with_reducible assumption | with_reducible refine Below.setCell ?_ ?_ _ | with_reducible refine Below.drew ?_ | with_reducible refine below_drewN ?_ _ | with_reducible refine Below.alloc ?_ ?_ _ | (rintro _ ⟨⟩; simp <;> omega) | omega | (simp <;> omega)))
      have hc := add_room (S := fun b => S b ∧ b < w.heap.size) (p := { p with at_ := n.now }) _ hg (h.old.keep (Below.agree hbW)) (by rintro ⟨_, h⟩; omega) (hp.old.keep (Below.agree hbW)) (by omega) hl
      have Hc := Lib.hid hc
      have HbW := Lib.hid hbW
      clear hc hg hbW
      go_enter Try.func11, Try.ntmps11
      go_wp2_with (go_at_call 23; refine Hc.out.mono ?_; rintro e w1 ⟨rfl, A1, c1, hg1, hs1, hgr1⟩; have r1 := ocell hgr1; have r2 := ofrozen hgr1; have x0 := cell_of_row _ _ 0 _ _ _ hg1; have x1 := cell_of_row _ _ 1 _ _ _ hg1; simp at x0 x1; have Hg1 := Lib.hid hg1; clear hg1)
      have hne2 : w.heap.size + 2 ≠ w.heap.size + 3 := by omega
      refine bodyPost_ret (v := .agg #[.int .i64 n.now, .slice A1 (n.way ++ [{ p with at_ := n.now }]).length c1]) (by simp [results, Try.results11, go_sem, r1]) rfl ⟨A1, c1, rfl, ?_, ?_⟩
      · refine ((hs1.sub (T := fun b => (S b ∧ b < w.heap.size) ∨ w.heap.size + 4 ≤ b) fun b hb _ => hb.imp id (fun h => by simp at h; omega)).only (g := w.heap.size + 2) (by repeat' (first | with_reducible exact Agree.refl _ _ | with_reducible assumption | with_reducible refine Agree.set ?_ ?_ _ | with_reducible refine Agree.alloc ?_ _ | with_reducible refine Agree.drew ?_ | with_reducible refine Agree.drewN ?_ _ | omega | (simp <;> omega))) (by rintro (⟨_, h⟩ | h) <;> omega)).sub fun b hb _ => hb.imp And.left (fun h => by omega)
      · exact (((HbW.out).trans ((Below.refl _ _).grown (hgr1) (by simp <;> omega) (by rintro _ ⟨⟩; simp <;> omega))).setCell (by simp <;> omega) _).setCell (by simp <;> omega) _
end Go.Proofs.Ytmaaniogcmlfbaa
