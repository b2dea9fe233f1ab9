/-
  Contracts of the network chapter (XNet13).
-/
import Derived.Test.YtmaaniogcmlfbaaNet12
import Derived.Test.YtmaaniogcmlfbaaNet11
import Derived.Test.YtmaaniogcmlfbaaNet9
import Derived.Test.YtmaaniogcmlfbaaNet5
namespace Go.Proofs.Ytmaaniogcmlfbaa
open Go.RowKit


theorem with_full {A : Option Addr} {c : Nat} {n : Nt} (v0 v1 v2 v3 : Value) (w : World) (hw : 512 ≤ n.way.length) :
    Calls Try.prog 28 #[.agg #[.int .i64 n.now, .slice A n.way.length c], .agg #[v0, v1, v2, v3]] w fun e w' =>
      e = .returned (.agg #[.int .i64 n.now, .slice A n.way.length c]) ∧ Below w.heap.size w w' := by
  have hw' : (512 : Int) ≤ (n.way.length : Int) := by omega
  go_enter Try.func28, Try.ntmps28
  go_wp2_with fail
  exact bodyPost_ret (v := .agg #[.int .i64 n.now, .slice A n.way.length c]) (by simp [results, Try.results28, go_sem]) rfl ⟨rfl, (by repeat' (first | with_reducible exact Below.refl _ _ | with_reducible assumption | with_reducible refine Below.setCell ?_ ?_ _ | with_reducible refine Below.drew ?_ | with_reducible refine below_drewN ?_ _ | with_reducible refine Below.alloc ?_ ?_ _ | (rintro _ ⟨⟩; simp <;> omega) | omega | (simp <;> omega)))⟩

/-- 'with', whether the network is full or not. -/
theorem with_any {S : Nat → Prop} {A B : Option Addr} {c d : Nat} {n : Nt} {p : Pk} (w : World) (h : Sl pkE S w A c n.way) (hp : Sl .u8 S w B d p.b) (hl : p.b.length ≤ 4294967296) :
    Calls Try.prog 28 #[.agg #[.int .i64 n.now, .slice A n.way.length c], .agg #[.int .i64 p.fr, .int .i64 p.to_, .int .i64 p.at_, .slice B p.b.length d]] w fun e w' =>
      ∃ A' c', e = .returned (.agg #[.int .i64 n.now, .slice A' (withF n p).way.length c']) ∧ Sl pkE (Fresh S w) w' A' c' (withF n p).way ∧ Below w.heap.size w w' := by
  unfold withF
  by_cases hw : 512 ≤ n.way.length
  · rw [if_pos hw]
    exact (with_full _ _ _ _ w hw).mono fun e w' ⟨he, hb⟩ => ⟨A, c, he, (h.sub fun _ hb _ => .inl hb).keep (Below.agree hb), hb⟩
  · rw [if_neg hw]
    exact with_room w h hp (by omega) hl

set_option maxRecDepth 100000 in
set_option maxHeartbeats 400000 in
theorem sendR {S : Nat → Prop} {A B : Option Addr} {c d : Nat} {n : Nt} {p : Pk} (w : World) (h : Sl pkE S w A c n.way) (hp : Sl .u8 S w B d p.b) (hl : p.b.length ≤ 4294967296) :
    Calls Try.prog 16 #[.agg #[.int .i64 n.now, .slice A n.way.length c], .agg #[.int .i64 p.fr, .int .i64 p.to_, .int .i64 p.at_, .slice B p.b.length d]] w fun e w' =>
      ∃ A' c', e = .returned (.agg #[.int .i64 n.now, .slice A' (withF n (lateF n p)).way.length c']) ∧ Sl pkE (Fresh S w) w' A' c' (withF n (lateF n p)).way ∧ Below w.heap.size w w' := by
  by_cases hm : n.now ≤ p.at_
  · have e1 : lateF n p = p := by unfold lateF; rw [Int.max_eq_left hm]
    rw [e1]
    clear e1
    go_enter Try.func16, Try.ntmps16
    go_wp2_with (go_at_call 28; refine (with_any (S := fun b => S b ∧ b < w.heap.size) (p := p) _ (h.old.keep (((Agree.refl _ _).alloc _).alloc _ |>.alloc _)) (hp.old.keep (((Agree.refl _ _).alloc _).alloc _ |>.alloc _)) hl).mono ?_; rintro e w1 ⟨A1, c1, rfl, hs1, hb1⟩; obtain ⟨hc1, hf1⟩ := bcellk (k := w.heap.size + 3) hb1 (by simp))
    refine bodyPost_ret (v := .agg #[.int .i64 n.now, .slice A1 (withF n p).way.length c1]) (by simp [results, Try.results16, go_sem, hc1]) rfl ⟨A1, c1, rfl, ?_, (by repeat' (first | with_reducible exact Below.refl _ _ | with_reducible assumption | with_reducible refine Below.trans ?_ (Below.mono hb1 ?_) | with_reducible refine Below.setCell ?_ ?_ _ | with_reducible refine Below.drew ?_ | with_reducible refine below_drewN ?_ _ | with_reducible refine Below.alloc ?_ ?_ _ | (rintro _ ⟨⟩; simp <;> omega) | omega | (simp <;> omega)))⟩
    refine ((hs1.sub (T := fun b => (S b ∧ b < w.heap.size) ∨ w.heap.size + 3 ≤ b) fun b hb _ => hb.imp id (fun h => by simp at h; omega)).only (g := w.heap.size + 2) (by repeat' (first | with_reducible exact Agree.refl _ _ | with_reducible assumption | with_reducible refine Agree.set ?_ ?_ _ | with_reducible refine Agree.alloc ?_ _ | with_reducible refine Agree.drew ?_ | with_reducible refine Agree.drewN ?_ _ | omega | (simp <;> omega))) (by rintro (⟨_, h⟩ | h) <;> omega)).sub fun b hb _ => hb.imp And.left (fun h => by omega)
  · have e1 : lateF n p = { p with at_ := n.now } := by unfold lateF; rw [Int.max_eq_right (by omega)]
    rw [e1]
    clear e1
    go_enter Try.func16, Try.ntmps16
    go_wp2_with (go_at_call 28; refine (with_any (S := fun b => S b ∧ b < w.heap.size) (p := { p with at_ := n.now }) _ (h.old.keep (((Agree.refl _ _).alloc _).alloc _ |>.alloc _)) (hp.old.keep (((Agree.refl _ _).alloc _).alloc _ |>.alloc _)) hl).mono ?_; rintro e w1 ⟨A1, c1, rfl, hs1, hb1⟩; obtain ⟨hc1, hf1⟩ := bcellk (k := w.heap.size + 3) hb1 (by simp))
    refine bodyPost_ret (v := .agg #[.int .i64 n.now, .slice A1 (withF n { p with at_ := n.now }).way.length c1]) (by simp [results, Try.results16, go_sem, hc1]) rfl ⟨A1, c1, rfl, ?_, (by repeat' (first | with_reducible exact Below.refl _ _ | with_reducible assumption | with_reducible refine Below.trans ?_ (Below.mono hb1 ?_) | with_reducible refine Below.setCell ?_ ?_ _ | with_reducible refine Below.drew ?_ | with_reducible refine below_drewN ?_ _ | with_reducible refine Below.alloc ?_ ?_ _ | (rintro _ ⟨⟩; simp <;> omega) | omega | (simp <;> omega)))⟩
    refine ((hs1.sub (T := fun b => (S b ∧ b < w.heap.size) ∨ w.heap.size + 3 ≤ b) fun b hb _ => hb.imp id (fun h => by simp at h; omega)).only (g := w.heap.size + 2) (by repeat' (first | with_reducible exact Agree.refl _ _ | with_reducible assumption | with_reducible refine Agree.set ?_ ?_ _ | with_reducible refine Agree.alloc ?_ _ | with_reducible refine Agree.drew ?_ | with_reducible refine Agree.drewN ?_ _ | omega | (simp <;> omega))) (by rintro (⟨_, h⟩ | h) <;> omega)).sub fun b hb _ => hb.imp And.left (fun h => by omega)
end Go.Proofs.Ytmaaniogcmlfbaa
