/-
  Contracts of the queries (XQ3): the program's table of forms, and whether a query is valid.
-/
import Derived.Test.YtihcaoipemcddaaDoorQ2
import Derived.Test.YtihcaoipemcddaaDoorMap
namespace Go.Proofs.YtihcaoipemcddaaDoor
open Go.RowKit

def formV (kw : ByteArray) (col : Bool) (mk n : Int) : Value := .agg #[.string kw, .bool col, .int .i64 mk, .int .i64 n]
def formsE : List MapEntry := [keyI 1 (formV ⟨#[99, 111, 117, 110, 116]⟩ false 0 1) 0, keyI 2 (formV ⟨#[116, 111, 116, 97, 108]⟩ true 0 1) 1, keyI 3 (formV ⟨#[109, 111, 109, 101, 110, 116]⟩ true 6 1) 2, keyI 4 (formV ⟨#[103, 114, 111, 117, 112, 115]⟩ true 0 1) 3,
  keyI 5 (formV ⟨#[100, 105, 115, 116, 105, 110, 99, 116]⟩ true 0 1) 4, keyI 6 (formV ⟨#[115, 109, 97, 108, 108, 101, 115, 116]⟩ true 65536 1) 5, keyI 7 (formV ⟨#[112, 97, 105, 114, 115]⟩ false 0 2) 6]
def kwF (k : Int) : ByteArray := if k = 1 then ⟨#[99, 111, 117, 110, 116]⟩ else if k = 2 then ⟨#[116, 111, 116, 97, 108]⟩ else if k = 3 then ⟨#[109, 111, 109, 101, 110, 116]⟩ else if k = 4 then ⟨#[103, 114, 111, 117, 112, 115]⟩ else if k = 5 then ⟨#[100, 105, 115, 116, 105, 110, 99, 116]⟩ else if k = 6 then ⟨#[115, 109, 97, 108, 108, 101, 115, 116]⟩ else if k = 7 then ⟨#[112, 97, 105, 114, 115]⟩ else ⟨#[]⟩
def knownB (k : Int) : Bool := decide (1 ≤ k ∧ k ≤ 7)
def nFormF (k : Int) : Int := if k = 7 then 2 else if 1 ≤ k ∧ k ≤ 6 then 1 else 0
set_option maxRecDepth 100000 in
theorem forms_find (k : Int) : (findI k formsE).getD (formV ⟨#[]⟩ false 0 0) = formV (kwF k) (hasColB k) (maxKF k) (nFormF k) ∧ (findI k formsE).isSome = knownB k := by
  by_cases h : 1 ≤ k ∧ k ≤ 7
  · rcases (by omega : k = 1 ∨ k = 2 ∨ k = 3 ∨ k = 4 ∨ k = 5 ∨ k = 6 ∨ k = 7) with rfl | rfl | rfl | rfl | rfl | rfl | rfl <;> exact ⟨rfl, rfl⟩
  · have hn : findI k formsE = none := by
      unfold formsE keyI
      simp only [findI]
      repeat (rw [if_neg (by omega)])
    rw [hn]
    refine ⟨?_, ?_⟩
    · unfold kwF hasColB maxKF nFormF
      rw [if_neg (by omega), if_neg (by omega), if_neg (by omega), if_neg (by omega), if_neg (by omega), if_neg (by omega), if_neg (by omega), if_neg (by omega), if_neg (by omega), if_neg (by omega), if_neg (by omega), decide_eq_false (by omega)]
      rfl
    · unfold knownB
      rw [decide_eq_false h]; rfl
set_option maxRecDepth 100000 in
theorem formsP (w : World) : Calls Tryd.prog 40 #[] w fun e w' => ∃ b, e = .returned (.map (some b)) ∧ w.heap.size ≤ b ∧ MapIs w' b formsE ∧ Below w.heap.size w w' := by
  have hmm := @run_makeMap Tryd.prog
  have hM := MapIs.made w
  have hB : Below w.heap.size w (w.alloc (.map #[] 0)) := (by repeat' (first | with_reducible exact Below.refl _ _ | with_reducible assumption | with_reducible refine Below.setCell ?_ ?_ _ | with_reducible refine Below.drew ?_ | with_reducible refine below_drewN ?_ _ | with_reducible refine Below.alloc ?_ ?_ _ | (rintro _ ⟨⟩; simp <;> omega) | omega | (simp <;> omega)))
  have hz0 : w.heap.size < (w.alloc (.map #[] 0)).heap.size := by simp
  go_enter Tryd.func40, Tryd.ntmps40
  go_wp2_with (refine wpList_insert_I (by rfl) (.tmp 1) _ _ rfl Tryd.underlying79 Tryd.underlying3 hM (by rfl) rfl (by rfl) (by rfl) (by rfl) ?_; clear hM; intro w1 hM hg; replace hB := hB.grown hg (Nat.le_of_lt hz0) (by rintro k ⟨⟩; exact Nat.le_refl _); replace hz0 := Nat.lt_of_lt_of_le hz0 hg.size; clear hg)
  go_ret
  exact ⟨w.heap.size, rfl, Nat.le_refl _, hM, hB⟩
end Go.Proofs.YtihcaoipemcddaaDoor
