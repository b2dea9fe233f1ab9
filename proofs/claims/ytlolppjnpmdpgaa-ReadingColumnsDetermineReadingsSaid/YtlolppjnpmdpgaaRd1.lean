/-
  Contracts of the readings (XRd1): whatever computes on one reading.
-/
import Derived.Test.YtlolppjnpmdpgaaRows
import Derived.Test.YtlolppjnpmdpgaaRdF
import Derived.WalkSpells
import Derived.Deep.RegionHeld3
import Derived.Deep.RegionLaw
import Derived.BigQuiet
import Derived.Deep.QuietTactic
import Derived.StillTailTactics
import Derived.Outline
import Derived.Laws.EntriesVeiled
import Derived.Deep.LoopGhost
namespace Go.Proofs.Ytlolppjnpmdpgaa
open Go.RowKit

theorem rdsT : SlT Try.prog 27 24 rdE 32 := ⟨Try.underlying27, by kernel_rfl, by decide⟩
theorem boolsT : SlT Try.prog 28 4 Enc.bool 1 := ⟨Try.underlying28, by kernel_rfl, by decide⟩
theorem u64sT : SlT Try.prog 48 50 Enc.u64 8 := ⟨Try.underlying48, by kernel_rfl, by decide⟩
theorem colsT : SlT Try.prog 38 48 Enc.u64.slice 24 := ⟨Try.underlying38, by kernel_rfl, by decide⟩

theorem ret_int {k : IntKind} {a b : Int} (h : a = b) : Ending.returned (.int k a) = .returned (.int k b) := by rw [h]
theorem ret_bool {a b : Bool} (h : a = b) : Ending.returned (.bool a) = .returned (.bool b) := by rw [h]
theorem valid_true {r : Rd} (h : ValidR r) : true = validB r := by simp [validB, h]
theorem valid_false {r : Rd} (h : ¬ ValidR r) : false = validB r := by simp [validB, h]
theorem clipR (n c : Nat) (A : Option Addr) (w : World) (h : n ≤ c) : Calls Try.prog 42 #[.slice A n c] w fun e w' => e = .returned (.slice A n n) ∧ w = w' := by
  go_enter Try.func42, Try.ntmps42
  go_wp2_with fail
  go_ret
  exact ⟨rfl, rfl⟩
theorem clipBool (n c : Nat) (A : Option Addr) (w : World) (h : n ≤ c) : Calls Try.prog 43 #[.slice A n c] w fun e w' => e = .returned (.slice A n n) ∧ w = w' := by
  go_enter Try.func43, Try.ntmps43
  go_wp2_with fail
  go_ret
  exact ⟨rfl, rfl⟩

theorem fieldsP (w : World) : Calls Try.prog 45 #[] w fun e w' =>
    e = .returned (.agg #[.func (.func 64) #[] #[], .int .i64 4, .func (.func 65) #[] #[], .int .i64 8, .func (.func 66) #[] #[], .int .i64 4, .func (.func 67) #[] #[], .int .i64 8]) ∧ Below w.heap.size w w' := by
  go_enter Try.func45, Try.ntmps45
  go_wp2_with fail
  exact bodyPost_ret (v := .agg #[.func (.func 64) #[] #[], .int .i64 4, .func (.func 65) #[] #[], .int .i64 8, .func (.func 66) #[] #[], .int .i64 4, .func (.func 67) #[] #[], .int .i64 8]) (by simp [results, Try.results45, go_sem]) rfl ⟨rfl, (by repeat' (first | with_reducible exact Below.refl _ _ | with_reducible assumption | with_reducible refine Below.setCell ?_ ?_ _ | with_reducible refine Below.drew ?_ | with_reducible refine below_drewN ?_ _ | with_reducible refine Below.alloc ?_ ?_ _ | (rintro _ ⟨⟩; simp <;> omega) | omega | (simp <;> omega)))⟩

theorem field1 (r : Rd) (w : World) : Calls Try.prog 64 #[.agg #[.int .i64 r.who, .int .i64 r.whn, .int .i64 r.knd, .int .i64 r.val]] w fun e w' => e = .returned (.int .i64 r.who) ∧ Below w.heap.size w w' := by
  go_enter Try.func64, Try.ntmps64
  go_wp2_with fail
  go_ret
  exact ⟨rfl, (by repeat' (first | with_reducible exact Below.refl _ _ | with_reducible assumption | with_reducible refine Below.setCell ?_ ?_ _ | with_reducible refine Below.drew ?_ | with_reducible refine below_drewN ?_ _ | with_reducible refine Below.alloc ?_ ?_ _ | (rintro _ ⟨⟩; simp <;> omega) | omega | (simp <;> omega)))⟩
theorem field2 (r : Rd) (w : World) : Calls Try.prog 65 #[.agg #[.int .i64 r.who, .int .i64 r.whn, .int .i64 r.knd, .int .i64 r.val]] w fun e w' => e = .returned (.int .i64 r.whn) ∧ Below w.heap.size w w' := by
  go_enter Try.func65, Try.ntmps65
  go_wp2_with fail
  go_ret
  exact ⟨rfl, (by repeat' (first | with_reducible exact Below.refl _ _ | with_reducible assumption | with_reducible refine Below.setCell ?_ ?_ _ | with_reducible refine Below.drew ?_ | with_reducible refine below_drewN ?_ _ | with_reducible refine Below.alloc ?_ ?_ _ | (rintro _ ⟨⟩; simp <;> omega) | omega | (simp <;> omega)))⟩
theorem field3 (r : Rd) (w : World) : Calls Try.prog 66 #[.agg #[.int .i64 r.who, .int .i64 r.whn, .int .i64 r.knd, .int .i64 r.val]] w fun e w' => e = .returned (.int .i64 r.knd) ∧ Below w.heap.size w w' := by
  go_enter Try.func66, Try.ntmps66
  go_wp2_with fail
  go_ret
  exact ⟨rfl, (by repeat' (first | with_reducible exact Below.refl _ _ | with_reducible assumption | with_reducible refine Below.setCell ?_ ?_ _ | with_reducible refine Below.drew ?_ | with_reducible refine below_drewN ?_ _ | with_reducible refine Below.alloc ?_ ?_ _ | (rintro _ ⟨⟩; simp <;> omega) | omega | (simp <;> omega)))⟩
theorem field4 (r : Rd) (w : World) : Calls Try.prog 67 #[.agg #[.int .i64 r.who, .int .i64 r.whn, .int .i64 r.knd, .int .i64 r.val]] w fun e w' => e = .returned (.int .i64 r.val) ∧ Below w.heap.size w w' := by
  go_enter Try.func67, Try.ntmps67
  go_wp2_with fail
  go_ret
  exact ⟨rfl, (by repeat' (first | with_reducible exact Below.refl _ _ | with_reducible assumption | with_reducible refine Below.setCell ?_ ?_ _ | with_reducible refine Below.drew ?_ | with_reducible refine below_drewN ?_ _ | with_reducible refine Below.alloc ?_ ?_ _ | (rintro _ ⟨⟩; simp <;> omega) | omega | (simp <;> omega)))⟩

theorem fieldRef (r : Rd) (c : Nat) (w : World) : Calls Try.prog 50 #[.agg #[.int .i64 r.who, .int .i64 r.whn, .int .i64 r.knd, .int .i64 r.val], .int .i64 c] w fun e w' => e = .returned (.int .i64 (fieldF r c)) ∧ Below w.heap.size w w' := by
  by_cases h0 : c = 0
  · subst h0
    go_enter Try.func50, Try.ntmps50
    go_wp2_with fail
    go_ret
    exact ⟨rfl, (by repeat' (first | with_reducible exact Below.refl _ _ | with_reducible assumption | with_reducible refine Below.setCell ?_ ?_ _ | with_reducible refine Below.drew ?_ | with_reducible refine below_drewN ?_ _ | with_reducible refine Below.alloc ?_ ?_ _ | (rintro _ ⟨⟩; simp <;> omega) | omega | (simp <;> omega)))⟩
  · by_cases h1 : c = 1
    · subst h1
      go_enter Try.func50, Try.ntmps50
      go_wp2_with fail
      go_ret
      exact ⟨rfl, (by repeat' (first | with_reducible exact Below.refl _ _ | with_reducible assumption | with_reducible refine Below.setCell ?_ ?_ _ | with_reducible refine Below.drew ?_ | with_reducible refine below_drewN ?_ _ | with_reducible refine Below.alloc ?_ ?_ _ | (rintro _ ⟨⟩; simp <;> omega) | omega | (simp <;> omega)))⟩
    · by_cases h2 : c = 2
      · subst h2
        go_enter Try.func50, Try.ntmps50
        go_wp2_with fail
        go_ret
        exact ⟨rfl, (by repeat' (first | with_reducible exact Below.refl _ _ | with_reducible assumption | with_reducible refine Below.setCell ?_ ?_ _ | with_reducible refine Below.drew ?_ | with_reducible refine below_drewN ?_ _ | with_reducible refine Below.alloc ?_ ?_ _ | (rintro _ ⟨⟩; simp <;> omega) | omega | (simp <;> omega)))⟩
      · have e0 : ((c : Int) == 0) = false := by simp; omega
        have e1 : ((c : Int) == 1) = false := by simp; omega
        have e2 : ((c : Int) == 2) = false := by simp; omega
        go_enter Try.func50, Try.ntmps50
        go_wp2_with fail
        go_ret
        exact ⟨ret_int (by unfold fieldF; rw [if_neg h0, if_neg h1, if_neg h2]), (by repeat' (first | with_reducible exact Below.refl _ _ | with_reducible assumption | with_reducible refine Below.setCell ?_ ?_ _ | with_reducible refine Below.drew ?_ | with_reducible refine below_drewN ?_ _ | with_reducible refine Below.alloc ?_ ?_ _ | (rintro _ ⟨⟩; simp <;> omega) | omega | (simp <;> omega)))⟩
theorem widthRef (c : Nat) (w : World) : Calls Try.prog 34 #[.int .i64 c] w fun e w' => e = .returned (.int .i64 (widthF c : Nat)) ∧ w = w' := by
  by_cases h0 : c = 0
  · subst h0
    go_enter Try.func34, Try.ntmps34
    go_wp2_with fail
    go_ret
    exact ⟨rfl, rfl⟩
  · have e0 : ((c : Int) == 0) = false := by simp; omega
    by_cases h2 : c = 2
    · subst h2
      go_enter Try.func34, Try.ntmps34
      go_wp2_with fail
      go_ret
      exact ⟨rfl, rfl⟩
    · have e2 : ((c : Int) == 2) = false := by simp; omega
      go_enter Try.func34, Try.ntmps34
      go_wp2_with fail
      go_ret
      exact ⟨ret_int (by unfold widthF; rw [if_neg (by omega)]; rfl), rfl⟩

theorem validR_any (r : Rd) (w : World) : Calls Try.prog 18 #[.agg #[.int .i64 r.who, .int .i64 r.whn, .int .i64 r.knd, .int .i64 r.val]] w fun e w' => e = .returned (.bool (validB r)) ∧ Below w.heap.size w w' := by
  go_enter Try.func18, Try.ntmps18
  go_wp2_with fail
  all_goals
    go_ret
    exact ⟨by first | exact ret_bool (valid_true (by unfold ValidR; omega)) | exact ret_bool (valid_false (by unfold ValidR; omega)) | exact ret_bool (by unfold validB; exact decide_eq_decide.2 (by unfold ValidR; omega)), (by repeat' (first | with_reducible exact Below.refl _ _ | with_reducible assumption | with_reducible refine Below.setCell ?_ ?_ _ | with_reducible refine Below.drew ?_ | with_reducible refine below_drewN ?_ _ | with_reducible refine Below.alloc ?_ ?_ _ | (rintro _ ⟨⟩; simp <;> omega) | omega | (simp <;> omega)))⟩

theorem or_nib (a b : Int) (h1 : 0 ≤ a) (h2 : a < 16) (h3 : 0 ≤ b) (h4 : b < 16) : bits BinOp.or IntKind.i64 a (b * 16) % 256 = a + 16 * b := by
  have h : ∀ x : Fin 16, ∀ y : Fin 16, bits BinOp.or IntKind.i64 (x.1 : Int) ((y.1 : Int) * 16) % 256 = (x.1 : Int) + 16 * (y.1 : Int) := by decide +kernel
  have := h ⟨a.toNat, by omega⟩ ⟨b.toNat, by omega⟩
  simpa [Int.toNat_of_nonneg h1, Int.toNat_of_nonneg h3] using this
theorem encodeP (r : Rd) (w : World) (h : ValidR r) : Calls Try.prog 27 #[.agg #[.int .i64 r.who, .int .i64 r.whn, .int .i64 r.knd, .int .i64 r.val]] w fun e w' =>
    ∃ A c, e = .returned (.slice A 3 c) ∧ Sl .u8 (Fresh (fun _ => False) w) w' A c (encodeF r) ∧ Below w.heap.size w w' := by
  obtain ⟨⟨h1, h2⟩, ⟨h3, h4⟩, ⟨h5, h6⟩, h7, h8⟩ := h
  go_enter Try.func27, Try.ntmps27
  go_wp2_with fail
  go_ret
  refine ⟨_, _, rfl, ?_, (by repeat' (first | with_reducible exact Below.refl _ _ | with_reducible assumption | with_reducible refine Below.setCell ?_ ?_ _ | with_reducible refine Below.drew ?_ | with_reducible refine below_drewN ?_ _ | with_reducible refine Below.alloc ?_ ?_ _ | (rintro _ ⟨⟩; simp <;> omega) | omega | (simp <;> omega)))⟩
  have e : ∀ x, 0 ≤ x → x < 256 → ((byteF x).toNat : Int) = x := by intro x h h'; unfold byteF; simp; omega
  have h := u8_elems (S := fun _ => False) (w := w.alloc (.cells #[.int .i64 r.who, .int .i64 r.whn, .int .i64 r.knd, .int .i64 r.val] 24)) (encodeF r)
  simp only [encodeF, List.map_cons, List.map_nil, e (r.who + 16 * r.knd) (by omega) (by omega), e r.whn h5 h6, e r.val h7 h8] at h
  have ho : bits BinOp.or IntKind.i64 r.who (r.knd * 16) % 256 = r.who + 16 * r.knd := or_nib r.who r.knd h1 h2 h3 h4
  rw [ho]
  exact Sl.litAt (by simp) h (by unfold maxLen; simp [encodeF]) (fun _ h _ => h.elim) (.inr (by simp))
theorem encodeR (r : Rd) (w : World) (h : ValidR r) : Calls Try.prog 28 #[.agg #[.int .i64 r.who, .int .i64 r.whn, .int .i64 r.knd, .int .i64 r.val]] w fun e w' =>
    ∃ A c, e = .returned (.slice A 3 c) ∧ Sl .u8 (Fresh (fun _ => False) w) w' A c (encodeF r) ∧ Below w.heap.size w w' := by
  obtain ⟨⟨h1, h2⟩, ⟨h3, h4⟩, ⟨h5, h6⟩, h7, h8⟩ := h
  go_enter Try.func28, Try.ntmps28
  go_wp2_with fail
  go_ret
  refine ⟨_, _, rfl, ?_, (by repeat' (first | with_reducible exact Below.refl _ _ | with_reducible assumption | with_reducible refine Below.setCell ?_ ?_ _ | with_reducible refine Below.drew ?_ | with_reducible refine below_drewN ?_ _ | with_reducible refine Below.alloc ?_ ?_ _ | (rintro _ ⟨⟩; simp <;> omega) | omega | (simp <;> omega)))⟩
  have e : ∀ x, 0 ≤ x → x < 256 → ((byteF x).toNat : Int) = x := by intro x h h'; unfold byteF; simp; omega
  have h := u8_elems (S := fun _ => False) (w := w.alloc (.cells #[.int .i64 r.who, .int .i64 r.whn, .int .i64 r.knd, .int .i64 r.val] 24)) (encodeF r)
  simp only [encodeF, List.map_cons, List.map_nil, e (r.who + 16 * r.knd) (by omega) (by omega), e r.whn h5 h6, e r.val h7 h8] at h
  exact Sl.litAt (by simp) h (by unfold maxLen; simp [encodeF]) (fun _ h _ => h.elim) (.inr (by simp))
end Go.Proofs.Ytlolppjnpmdpgaa
