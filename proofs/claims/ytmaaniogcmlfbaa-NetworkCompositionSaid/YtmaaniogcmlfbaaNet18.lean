/-
  Contracts of the network chapter (XNet18).
-/
import Derived.Test.YtmaaniogcmlfbaaNet15
import Derived.Test.YtmaaniogcmlfbaaKeep
import Derived.Laws.EntriesVeiled
namespace Go.Proofs.Ytmaaniogcmlfbaa
open Go.RowKit

section

set_option maxRecDepth 100000 in
set_option maxHeartbeats 400000 in
theorem applyN_tick {S : Nat → Prop} {A : Option Addr} {c : Nat} {n : Nt} (w : World) (h : Sl pkE S w A c n.way) (at_ by_ : Int) (h0 : 0 ≤ n.now) (h1 : n.now ≤ 1000000000) :
    Calls Try.prog 13 #[.agg #[.int .i64 n.now, .slice A n.way.length c], .agg #[.int .i64 5, .int .i64 at_, .int .i64 by_]] w (ApRes S w (tickF n by_) []) := by
  unfold tickF
  by_cases hb1 : 1 ≤ by_
  · by_cases hb2 : by_ ≤ 1000000
    · by_cases hb3 : n.now + by_ ≤ 1000000000
      · rw [if_pos ⟨hb1, hb2, hb3⟩]
        go_enter Try.func13, Try.ntmps13
        go_wp2_with fail
        exact bodyPost_ret (v := .tuple #[.agg #[.int .i64 (n.now + by_), .slice A n.way.length c], .slice none 0 0]) (by simp [results, Try.results13, go_sem]) rfl (ApRes.same h rfl (by repeat' (first | with_reducible exact Below.refl _ _ | with_reducible assumption | with_reducible refine Below.setCell ?_ ?_ _ | with_reducible refine Below.drew ?_ | with_reducible refine below_drewN ?_ _ | with_reducible refine Below.alloc ?_ ?_ _ | (rintro _ ⟨⟩; simp <;> omega) | omega | (simp <;> omega))))
      · rw [if_neg (by omega)]
        go_enter Try.func13, Try.ntmps13
        go_wp2_with fail
        exact bodyPost_ret (v := .tuple #[.agg #[.int .i64 n.now, .slice A n.way.length c], .slice none 0 0]) (by simp [results, Try.results13, go_sem]) rfl (ApRes.same h rfl (by repeat' (first | with_reducible exact Below.refl _ _ | with_reducible assumption | with_reducible refine Below.setCell ?_ ?_ _ | with_reducible refine Below.drew ?_ | with_reducible refine below_drewN ?_ _ | with_reducible refine Below.alloc ?_ ?_ _ | (rintro _ ⟨⟩; simp <;> omega) | omega | (simp <;> omega))))
    · rw [if_neg (by omega)]
      go_enter Try.func13, Try.ntmps13
      go_wp2_with fail
      exact bodyPost_ret (v := .tuple #[.agg #[.int .i64 n.now, .slice A n.way.length c], .slice none 0 0]) (by simp [results, Try.results13, go_sem]) rfl (ApRes.same h rfl (by repeat' (first | with_reducible exact Below.refl _ _ | with_reducible assumption | with_reducible refine Below.setCell ?_ ?_ _ | with_reducible refine Below.drew ?_ | with_reducible refine below_drewN ?_ _ | with_reducible refine Below.alloc ?_ ?_ _ | (rintro _ ⟨⟩; simp <;> omega) | omega | (simp <;> omega))))
  · rw [if_neg (by omega)]
    go_enter Try.func13, Try.ntmps13
    go_wp2_with fail
    exact bodyPost_ret (v := .tuple #[.agg #[.int .i64 n.now, .slice A n.way.length c], .slice none 0 0]) (by simp [results, Try.results13, go_sem]) rfl (ApRes.same h rfl (by repeat' (first | with_reducible exact Below.refl _ _ | with_reducible assumption | with_reducible refine Below.setCell ?_ ?_ _ | with_reducible refine Below.drew ?_ | with_reducible refine below_drewN ?_ _ | with_reducible refine Below.alloc ?_ ?_ _ | (rintro _ ⟨⟩; simp <;> omega) | omega | (simp <;> omega))))

set_option maxRecDepth 100000 in
set_option maxHeartbeats 400000 in
theorem applyN_out {S : Nat → Prop} {A : Option Addr} {c : Nat} {n : Nt} (w : World) (h : Sl pkE S w A c n.way) (kd at_ by_ : Int) (hk : kd ≠ 5) (hat : kd < 1 ∨ 5 ≤ kd ∨ at_ < 0 ∨ (n.way.length : Int) ≤ at_) :
    Calls Try.prog 13 #[.agg #[.int .i64 n.now, .slice A n.way.length c], .agg #[.int .i64 kd, .int .i64 at_, .int .i64 by_]] w (ApRes S w n []) := by
  have hk5 : (kd == 5) = false := by rw [beq_eq_false_iff_ne]; exact hk
  by_cases hk1 : kd < 1
  · clear hat
    go_enter Try.func13, Try.ntmps13
    go_wp2_with fail
    exact bodyPost_ret (v := .tuple #[.agg #[.int .i64 n.now, .slice A n.way.length c], .slice none 0 0]) (by simp [results, Try.results13, go_sem]) rfl (ApRes.same h rfl (by repeat' (first | with_reducible exact Below.refl _ _ | with_reducible assumption | with_reducible refine Below.setCell ?_ ?_ _ | with_reducible refine Below.drew ?_ | with_reducible refine below_drewN ?_ _ | with_reducible refine Below.alloc ?_ ?_ _ | (rintro _ ⟨⟩; simp <;> omega) | omega | (simp <;> omega))))
  · have hk1' : decide (kd < 1) = false := by simpa using hk1
    by_cases hk2 : 5 ≤ kd
    · clear hat
      go_enter Try.func13, Try.ntmps13
      go_wp2_with fail
      exact bodyPost_ret (v := .tuple #[.agg #[.int .i64 n.now, .slice A n.way.length c], .slice none 0 0]) (by simp [results, Try.results13, go_sem]) rfl (ApRes.same h rfl (by repeat' (first | with_reducible exact Below.refl _ _ | with_reducible assumption | with_reducible refine Below.setCell ?_ ?_ _ | with_reducible refine Below.drew ?_ | with_reducible refine below_drewN ?_ _ | with_reducible refine Below.alloc ?_ ?_ _ | (rintro _ ⟨⟩; simp <;> omega) | omega | (simp <;> omega))))
    · have hk2' : decide (5 ≤ kd) = false := by simpa using hk2
      by_cases ha : at_ < 0
      · clear hat
        go_enter Try.func13, Try.ntmps13
        go_wp2_with fail
        exact bodyPost_ret (v := .tuple #[.agg #[.int .i64 n.now, .slice A n.way.length c], .slice none 0 0]) (by simp [results, Try.results13, go_sem]) rfl (ApRes.same h rfl (by repeat' (first | with_reducible exact Below.refl _ _ | with_reducible assumption | with_reducible refine Below.setCell ?_ ?_ _ | with_reducible refine Below.drew ?_ | with_reducible refine below_drewN ?_ _ | with_reducible refine Below.alloc ?_ ?_ _ | (rintro _ ⟨⟩; simp <;> omega) | omega | (simp <;> omega))))
      · have ha2 : decide (at_ < 0) = false := by simpa using ha
        have ha' : (n.way.length : Int) ≤ at_ := by omega
        clear hat
        go_enter Try.func13, Try.ntmps13
        go_wp2_with fail
        exact bodyPost_ret (v := .tuple #[.agg #[.int .i64 n.now, .slice A n.way.length c], .slice none 0 0]) (by simp [results, Try.results13, go_sem]) rfl (ApRes.same h rfl (by repeat' (first | with_reducible exact Below.refl _ _ | with_reducible assumption | with_reducible refine Below.setCell ?_ ?_ _ | with_reducible refine Below.drew ?_ | with_reducible refine below_drewN ?_ _ | with_reducible refine Below.alloc ?_ ?_ _ | (rintro _ ⟨⟩; simp <;> omega) | omega | (simp <;> omega))))
end
end Go.Proofs.Ytmaaniogcmlfbaa
