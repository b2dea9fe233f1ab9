/-
  Contracts of the type checker's reference (XQ17): Bits, Sums.
-/
import Derived.Test.YtihcaoipemcddaaDoorQ16
import Derived.Test.YtihcaoipemcddaaDoorQ6
import Derived.Test.YtihcaoipemcddaaDoorQ14
namespace Go.Proofs.YtihcaoipemcddaaDoor
open Go.RowKit

theorem bitsRef (c : Int) (w : World) : Calls Tryd.prog 18 #[.int .i64 c] w fun e w' => e = .returned (.int .i64 (bitsC c)) ∧ w = w' := by
  by_cases h : 0 ≤ c ∧ c ≤ 4
  · rcases (by omega : c = 0 ∨ c = 1 ∨ c = 2 ∨ c = 3 ∨ c = 4) with rfl | rfl | rfl | rfl | rfl
    all_goals
      go_enter Tryd.func18, Tryd.ntmps18
      go_wp2_with fail
      go_ret
      exact ⟨rfl, rfl⟩
  · have e : bitsC c = 0 := by unfold bitsC; rw [if_neg (by omega), if_neg (by omega), if_neg (by omega)]
    have g0 := beqF (show ¬ c = 0 by omega)
    have g1 := beqF (show ¬ c = 1 by omega)
    have g2 := beqF (show ¬ c = 2 by omega)
    have g3 := beqF (show ¬ c = 3 by omega)
    have g4 := beqF (show ¬ c = 4 by omega)
    rw [e]
    clear e h
    go_enter Tryd.func18, Tryd.ntmps18
    go_wp2_with fail
    go_ret
    exact ⟨rfl, rfl⟩
theorem sumsRef {q : Qy} {A : Option Addr} {c : Nat} (w : World) : Calls Tryd.prog 16 #[(.agg #[.int .i64 q.kind, .int .i64 q.col, .int .i64 q.k, .slice A q.fs.length c])] w fun e w' => e = .returned (.int .i64 (sumsC q.kind)) ∧ Below w.heap.size w w' := by
  obtain ⟨kind, col, k, fs⟩ := q
  dsimp only
  by_cases h : 1 ≤ kind ∧ kind ≤ 7
  · rcases (by omega : kind = 1 ∨ kind = 2 ∨ kind = 3 ∨ kind = 4 ∨ kind = 5 ∨ kind = 6 ∨ kind = 7) with rfl | rfl | rfl | rfl | rfl | rfl | rfl
    all_goals
      go_enter Tryd.func16, Tryd.ntmps16
      go_wp2_with fail
      go_ret
      exact ⟨rfl, (by repeat' (first | with_reducible exact Below.refl _ _ | with_reducible assumption | with_reducible refine Below.setCell ?_ ?_ _ | with_reducible refine Below.drew ?_ | with_reducible refine below_drewN ?_ _ | with_reducible refine Below.alloc ?_ ?_ _ | (rintro _ ⟨⟩; simp <;> omega) | omega | (simp <;> omega)))⟩
  · have e : sumsC kind = 0 := by unfold sumsC; rw [if_neg (by omega), if_neg (by omega), if_neg (by omega)]
    rw [e]
    clear e
    by_cases h1 : kind < 1
    · clear h
      go_enter Tryd.func16, Tryd.ntmps16
      go_wp2_with fail
      go_ret
      exact ⟨rfl, (by repeat' (first | with_reducible exact Below.refl _ _ | with_reducible assumption | with_reducible refine Below.setCell ?_ ?_ _ | with_reducible refine Below.drew ?_ | with_reducible refine below_drewN ?_ _ | with_reducible refine Below.alloc ?_ ?_ _ | (rintro _ ⟨⟩; simp <;> omega) | omega | (simp <;> omega)))⟩
    · have h1' : decide (kind < 1) = false := decide_eq_false h1
      have h7 : 7 < kind := by omega
      clear h
      go_enter Tryd.func16, Tryd.ntmps16
      go_wp2_with fail
      go_ret
      exact ⟨rfl, (by repeat' (first | with_reducible exact Below.refl _ _ | with_reducible assumption | with_reducible refine Below.setCell ?_ ?_ _ | with_reducible refine Below.drew ?_ | with_reducible refine below_drewN ?_ _ | with_reducible refine Below.alloc ?_ ?_ _ | (rintro _ ⟨⟩; simp <;> omega) | omega | (simp <;> omega)))⟩
end Go.Proofs.YtihcaoipemcddaaDoor
