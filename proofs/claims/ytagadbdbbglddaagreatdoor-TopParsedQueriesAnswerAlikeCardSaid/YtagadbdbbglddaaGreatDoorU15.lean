/-
  Texts of this claim, merged: Ev1. Conditions: as each theorem says.
-/
import Derived.Test.YtagadbdbbglddaaGreatDoorU1
import Derived.Test.YtagadbdbbglddaaGreatDoorU2
import Derived.Test.YtagadbdbbglddaaGreatDoorU3
import Derived.Test.YtagadbdbbglddaaGreatDoorU4
import Derived.Test.YtagadbdbbglddaaGreatDoorU5
import Derived.Test.YtagadbdbbglddaaGreatDoorU6
import Derived.Test.YtagadbdbbglddaaGreatDoorU7
import Derived.Test.YtagadbdbbglddaaGreatDoorU8
import Derived.Test.YtagadbdbbglddaaGreatDoorU9
import Derived.Test.YtagadbdbbglddaaGreatDoorU10
import Derived.Test.YtagadbdbbglddaaGreatDoorU11
import Derived.Test.YtagadbdbbglddaaGreatDoorU12
import Derived.Test.YtagadbdbbglddaaGreatDoorU13
import Derived.Test.YtagadbdbbglddaaGreatDoorU14
set_option linter.unusedSimpArgs false
set_option linter.unusedVariables false
namespace Go.Proofs.YtagadbdbbglddaaGreatDoor
open Go.RowKit

abbrev Row4 (g : Nat) (r : Rd) (w : World) : Prop := w.heap[g]? = some (.cells #[.int .i64 r.who, .int .i64 r.whn, .int .i64 r.knd, .int .i64 r.val] 112 (0, 0))
set_option maxHeartbeats 2000000 in
theorem match1P {c : Cd} {r : Rd} {g : Nat} (w : World) (hg : Row4 g r w) (hv : ValidCd c) : Calls Tryz.prog 66 #[(.agg #[.int .i64 c.col, .int .i64 c.lo, .int .i64 c.hi]), .pointer (some ⟨g, 0, none⟩)] w fun e w' => e = .returned (.bool (!matchT r c)) ∧ Below w.heap.size w w' := by
  obtain ⟨x0, x1, x2, x3⟩ := row4 (Lib.hid (show w.heap[g]? = _ from hg))
  have hlt := heap_lt (show w.heap[g]? = _ from hg)
  have hcol := hv.1
  clear hg hv
  obtain ⟨cl, lo, hi⟩ := c
  dsimp only at hcol ⊢
  rcases (by omega : cl = 0 ∨ cl = 1 ∨ cl = 2 ∨ cl = 3) with rfl | rfl | rfl | rfl
  · have e : matchT r ⟨0, lo, hi⟩ = decide (lo ≤ r.who ∧ r.who ≤ hi) := rfl
    have E := Lib.hid e
    clear e hcol
    by_cases h1 : r.who < lo
    · have hf := Lib.hid (show true = !matchT r ⟨0, lo, hi⟩ by rw [E.out, decide_eq_false (show ¬ (lo ≤ r.who ∧ r.who ≤ hi) by omega)]; rfl)
      have h2 : decide (r.who < lo) = true := decide_eq_true h1
      go_enter Tryz.func66, Tryz.ntmps66
      go_wp2_with fail
      go_quiet (fail)
      go_wp2_with fail
      go_ret
      exact ⟨ret_b hf.out, (by repeat' (first | with_reducible exact Below.refl _ _ | with_reducible assumption | with_reducible refine Below.setCell ?_ ?_ _ | with_reducible refine Below.drew ?_ | with_reducible refine below_drewN ?_ _ | with_reducible refine Below.alloc ?_ ?_ _ | (rintro _ ⟨⟩; simp <;> omega) | omega | (simp <;> omega)))⟩
    · have h2 : decide (r.who < lo) = false := decide_eq_false h1
      by_cases h3 : hi < r.who
      · have hf := Lib.hid (show true = !matchT r ⟨0, lo, hi⟩ by rw [E.out, decide_eq_false (show ¬ (lo ≤ r.who ∧ r.who ≤ hi) by omega)]; rfl)
        go_enter Tryz.func66, Tryz.ntmps66
        go_wp2_with fail
        go_quiet (fail)
        go_wp2_with fail
        go_ret
        exact ⟨ret_b hf.out, (by repeat' (first | with_reducible exact Below.refl _ _ | with_reducible assumption | with_reducible refine Below.setCell ?_ ?_ _ | with_reducible refine Below.drew ?_ | with_reducible refine below_drewN ?_ _ | with_reducible refine Below.alloc ?_ ?_ _ | (rintro _ ⟨⟩; simp <;> omega) | omega | (simp <;> omega)))⟩
      · have hf := Lib.hid (show false = !matchT r ⟨0, lo, hi⟩ by rw [E.out, decide_eq_true (show (lo ≤ r.who ∧ r.who ≤ hi) by omega)]; rfl)
        have h4 : decide (hi < r.who) = false := decide_eq_false h3
        go_enter Tryz.func66, Tryz.ntmps66
        go_wp2_with fail
        go_quiet (fail)
        go_wp2_with fail
        go_ret
        exact ⟨ret_b hf.out, (by repeat' (first | with_reducible exact Below.refl _ _ | with_reducible assumption | with_reducible refine Below.setCell ?_ ?_ _ | with_reducible refine Below.drew ?_ | with_reducible refine below_drewN ?_ _ | with_reducible refine Below.alloc ?_ ?_ _ | (rintro _ ⟨⟩; simp <;> omega) | omega | (simp <;> omega)))⟩
  · have e : matchT r ⟨1, lo, hi⟩ = decide (lo ≤ r.whn ∧ r.whn ≤ hi) := rfl
    have E := Lib.hid e
    clear e hcol
    by_cases h1 : r.whn < lo
    · have hf := Lib.hid (show true = !matchT r ⟨1, lo, hi⟩ by rw [E.out, decide_eq_false (show ¬ (lo ≤ r.whn ∧ r.whn ≤ hi) by omega)]; rfl)
      have h2 : decide (r.whn < lo) = true := decide_eq_true h1
      go_enter Tryz.func66, Tryz.ntmps66
      go_wp2_with fail
      go_quiet (fail)
      go_wp2_with fail
      go_ret
      exact ⟨ret_b hf.out, (by repeat' (first | with_reducible exact Below.refl _ _ | with_reducible assumption | with_reducible refine Below.setCell ?_ ?_ _ | with_reducible refine Below.drew ?_ | with_reducible refine below_drewN ?_ _ | with_reducible refine Below.alloc ?_ ?_ _ | (rintro _ ⟨⟩; simp <;> omega) | omega | (simp <;> omega)))⟩
    · have h2 : decide (r.whn < lo) = false := decide_eq_false h1
      by_cases h3 : hi < r.whn
      · have hf := Lib.hid (show true = !matchT r ⟨1, lo, hi⟩ by rw [E.out, decide_eq_false (show ¬ (lo ≤ r.whn ∧ r.whn ≤ hi) by omega)]; rfl)
        go_enter Tryz.func66, Tryz.ntmps66
        go_wp2_with fail
        go_quiet (fail)
        go_wp2_with fail
        go_ret
        exact ⟨ret_b hf.out, (by repeat' (first | with_reducible exact Below.refl _ _ | with_reducible assumption | with_reducible refine Below.setCell ?_ ?_ _ | with_reducible refine Below.drew ?_ | with_reducible refine below_drewN ?_ _ | with_reducible refine Below.alloc ?_ ?_ _ | (rintro _ ⟨⟩; simp <;> omega) | omega | (simp <;> omega)))⟩
      · have hf := Lib.hid (show false = !matchT r ⟨1, lo, hi⟩ by rw [E.out, decide_eq_true (show (lo ≤ r.whn ∧ r.whn ≤ hi) by omega)]; rfl)
        have h4 : decide (hi < r.whn) = false := decide_eq_false h3
        go_enter Tryz.func66, Tryz.ntmps66
        go_wp2_with fail
        go_quiet (fail)
        go_wp2_with fail
        go_ret
        exact ⟨ret_b hf.out, (by repeat' (first | with_reducible exact Below.refl _ _ | with_reducible assumption | with_reducible refine Below.setCell ?_ ?_ _ | with_reducible refine Below.drew ?_ | with_reducible refine below_drewN ?_ _ | with_reducible refine Below.alloc ?_ ?_ _ | (rintro _ ⟨⟩; simp <;> omega) | omega | (simp <;> omega)))⟩
  · have e : matchT r ⟨2, lo, hi⟩ = decide (lo ≤ r.knd ∧ r.knd ≤ hi) := rfl
    have E := Lib.hid e
    clear e hcol
    by_cases h1 : r.knd < lo
    · have hf := Lib.hid (show true = !matchT r ⟨2, lo, hi⟩ by rw [E.out, decide_eq_false (show ¬ (lo ≤ r.knd ∧ r.knd ≤ hi) by omega)]; rfl)
      have h2 : decide (r.knd < lo) = true := decide_eq_true h1
      go_enter Tryz.func66, Tryz.ntmps66
      go_wp2_with fail
      go_quiet (fail)
      go_wp2_with fail
      go_ret
      exact ⟨ret_b hf.out, (by repeat' (first | with_reducible exact Below.refl _ _ | with_reducible assumption | with_reducible refine Below.setCell ?_ ?_ _ | with_reducible refine Below.drew ?_ | with_reducible refine below_drewN ?_ _ | with_reducible refine Below.alloc ?_ ?_ _ | (rintro _ ⟨⟩; simp <;> omega) | omega | (simp <;> omega)))⟩
    · have h2 : decide (r.knd < lo) = false := decide_eq_false h1
      by_cases h3 : hi < r.knd
      · have hf := Lib.hid (show true = !matchT r ⟨2, lo, hi⟩ by rw [E.out, decide_eq_false (show ¬ (lo ≤ r.knd ∧ r.knd ≤ hi) by omega)]; rfl)
        go_enter Tryz.func66, Tryz.ntmps66
        go_wp2_with fail
        go_quiet (fail)
        go_wp2_with fail
        go_ret
        exact ⟨ret_b hf.out, (by repeat' (first | with_reducible exact Below.refl _ _ | with_reducible assumption | with_reducible refine Below.setCell ?_ ?_ _ | with_reducible refine Below.drew ?_ | with_reducible refine below_drewN ?_ _ | with_reducible refine Below.alloc ?_ ?_ _ | (rintro _ ⟨⟩; simp <;> omega) | omega | (simp <;> omega)))⟩
      · have hf := Lib.hid (show false = !matchT r ⟨2, lo, hi⟩ by rw [E.out, decide_eq_true (show (lo ≤ r.knd ∧ r.knd ≤ hi) by omega)]; rfl)
        have h4 : decide (hi < r.knd) = false := decide_eq_false h3
        go_enter Tryz.func66, Tryz.ntmps66
        go_wp2_with fail
        go_quiet (fail)
        go_wp2_with fail
        go_ret
        exact ⟨ret_b hf.out, (by repeat' (first | with_reducible exact Below.refl _ _ | with_reducible assumption | with_reducible refine Below.setCell ?_ ?_ _ | with_reducible refine Below.drew ?_ | with_reducible refine below_drewN ?_ _ | with_reducible refine Below.alloc ?_ ?_ _ | (rintro _ ⟨⟩; simp <;> omega) | omega | (simp <;> omega)))⟩
  · have e : matchT r ⟨3, lo, hi⟩ = decide (lo ≤ r.val ∧ r.val ≤ hi) := rfl
    have E := Lib.hid e
    clear e hcol
    by_cases h1 : r.val < lo
    · have hf := Lib.hid (show true = !matchT r ⟨3, lo, hi⟩ by rw [E.out, decide_eq_false (show ¬ (lo ≤ r.val ∧ r.val ≤ hi) by omega)]; rfl)
      have h2 : decide (r.val < lo) = true := decide_eq_true h1
      go_enter Tryz.func66, Tryz.ntmps66
      go_wp2_with fail
      go_quiet (fail)
      go_wp2_with fail
      go_ret
      exact ⟨ret_b hf.out, (by repeat' (first | with_reducible exact Below.refl _ _ | with_reducible assumption | with_reducible refine Below.setCell ?_ ?_ _ | with_reducible refine Below.drew ?_ | with_reducible refine below_drewN ?_ _ | with_reducible refine Below.alloc ?_ ?_ _ | (rintro _ ⟨⟩; simp <;> omega) | omega | (simp <;> omega)))⟩
    · have h2 : decide (r.val < lo) = false := decide_eq_false h1
      by_cases h3 : hi < r.val
      · have hf := Lib.hid (show true = !matchT r ⟨3, lo, hi⟩ by rw [E.out, decide_eq_false (show ¬ (lo ≤ r.val ∧ r.val ≤ hi) by omega)]; rfl)
        go_enter Tryz.func66, Tryz.ntmps66
        go_wp2_with fail
        go_quiet (fail)
        go_wp2_with fail
        go_ret
        exact ⟨ret_b hf.out, (by repeat' (first | with_reducible exact Below.refl _ _ | with_reducible assumption | with_reducible refine Below.setCell ?_ ?_ _ | with_reducible refine Below.drew ?_ | with_reducible refine below_drewN ?_ _ | with_reducible refine Below.alloc ?_ ?_ _ | (rintro _ ⟨⟩; simp <;> omega) | omega | (simp <;> omega)))⟩
      · have hf := Lib.hid (show false = !matchT r ⟨3, lo, hi⟩ by rw [E.out, decide_eq_true (show (lo ≤ r.val ∧ r.val ≤ hi) by omega)]; rfl)
        have h4 : decide (hi < r.val) = false := decide_eq_false h3
        go_enter Tryz.func66, Tryz.ntmps66
        go_wp2_with fail
        go_quiet (fail)
        go_wp2_with fail
        go_ret
        exact ⟨ret_b hf.out, (by repeat' (first | with_reducible exact Below.refl _ _ | with_reducible assumption | with_reducible refine Below.setCell ?_ ?_ _ | with_reducible refine Below.drew ?_ | with_reducible refine below_drewN ?_ _ | with_reducible refine Below.alloc ?_ ?_ _ | (rintro _ ⟨⟩; simp <;> omega) | omega | (simp <;> omega)))⟩
def badM (l : List Cd) (r : Rd) : Bool := l.any fun c => !matchT r c
theorem badM_match (l : List Cd) (r : Rd) : (!badM l r) = matchB l r := by
  unfold badM matchB
  induction l with
  | nil => rfl
  | cons c l ih => simp only [List.any_cons, List.all_cons, Bool.not_or, ih, Bool.not_not]
theorem indexM {l : List Cd} {r : Rd} {g : Nat} {A : Option Addr} {c : Nat} {S : Nat → Prop} (w : World) (h : Sl cdE S w A c l) (hg : Row4 g r w) (hv : ∀ x ∈ l, ValidCd x) :
    Calls Tryz.prog 84 #[.slice A l.length c, (.func (.func 66) #[] #[.pointer (some ⟨g, 0, none⟩)])] w (SignB (badM l r) w) := by
  have hm := h.max
  have H := Lib.hid h
  have G := Lib.hid hg
  have HV := Lib.hid hv
  clear h hg hv
  go_enter Tryz.func84, Tryz.ntmps84
  go_wp2_with fail
  go_loopw [8] (fun i wr => ∃ j : Nat, j ≤ l.length ∧ i = .int .i64 j ∧ badM (l.take j) r = false ∧ Below w.heap.size w wr) (fun i _ => l.length - (intOf i).toNat)
  case atStart => exact ⟨0, Nat.zero_le _, rfl, rfl, Below.refl _ _⟩
  case round =>
    obtain ⟨j, hj, rfl, hb, bb⟩ := hrel
    have Hb := Lib.hid hb
    have B0 := Lib.hid bb
    have G1 := Lib.hid (show Row4 g r wr from (bb.block g (heap_lt G.out)).trans G.out)
    clear hb
    by_cases hlt : j < l.length
    · obtain ⟨x, hx⟩ : ∃ x, l[j]? = some x := ⟨_, List.getElem?_eq_getElem hlt⟩
      obtain ⟨b1, o1, rfl, -, hb1, x0, x1, x2⟩ := cd_at (H.out.keep (Below.agree bb)) hx
      have hj0 : (0 : Int) ≤ (j : Int) := by omega
      have hj1 : (j : Int) < (l.length : Int) := by omega
      have hs : badM (l.take (j + 1)) r = (badM (l.take j) r || !matchT r x) := by rw [take_snocR hx]; simp [badM]
      have hvx := HV.out x (List.mem_of_getElem? hx)
      have Hs := Lib.hid hs
      have Hx := Lib.hid hx
      have HVX := Lib.hid hvx
      clear hs hx bb hvx
      cases hok : matchT r x with
      | true =>
        have Hok := Lib.hid hok
        clear hok
        go_wp2_with (go_at_call 66; refine (match1P (r := r) _ G1.out HVX.out).mono ?_; rw [Hok.out]; rintro e w2 ⟨rfl, hb2⟩)
        go_roundw
        case rel => exact ⟨j + 1, by omega, by go_num, by rw [Hs.out, Hb.out, Hok.out]; rfl, B0.out.trans (hb2.mono B0.out.size)⟩
        case measure => simp [intOf]; omega
      | false =>
        have Hok := Lib.hid hok
        clear hok
        go_wp2_with (go_at_call 66; refine (match1P (r := r) _ G1.out HVX.out).mono ?_; rw [Hok.out]; rintro e w2 ⟨rfl, hb2⟩)
        go_ret
        refine ⟨j, rfl, ?_, B0.out.trans (hb2.mono B0.out.size)⟩
        have : badM l r = true := List.any_eq_true.2 ⟨x, List.mem_of_getElem? Hx.out, by simp [Hok.out]⟩
        rw [this]; simp
    · have hj1 : ¬ (j : Int) < (l.length : Int) := by omega
      clear bb
      go_wp2_with fail
      go_ret
      refine ⟨-1, rfl, ?_, B0.out⟩
      have := Hb.out
      rw [List.take_of_length_le (by omega)] at this
      rw [this]; rfl
theorem containsM {l : List Cd} {r : Rd} {g : Nat} {A : Option Addr} {c : Nat} {S : Nat → Prop} (w : World) (h : Sl cdE S w A c l) (hg : Row4 g r w) (hv : ∀ x ∈ l, ValidCd x) :
    Calls Tryz.prog 49 #[.slice A l.length c, (.func (.func 66) #[] #[.pointer (some ⟨g, 0, none⟩)])] w fun e w' => e = .returned (.bool (badM l r)) ∧ Below w.heap.size w w' := by
  have H := Lib.hid h
  have G := Lib.hid hg
  have HV := Lib.hid hv
  clear h hg hv
  go_enter Tryz.func49, Tryz.ntmps49
  go_wp2_with (go_at_call 84; refine (indexM (r := r) _ H.out G.out HV.out).mono ?_; rintro e w2 ⟨z, rfl, hz, hb2⟩)
  go_ret
  exact ⟨rfl, hb2⟩
set_option maxRecDepth 100000 in
theorem matchP {l : List Cd} {r : Rd} {A : Option Addr} {c : Nat} {S : Nat → Prop} (w : World) (h : Sl cdE S w A c l) (hv : ∀ x ∈ l, ValidCd x) :
    Calls Tryz.prog 27 #[.slice A l.length c, (.agg #[.int .i64 r.who, .int .i64 r.whn, .int .i64 r.knd, .int .i64 r.val])] w fun e w' => e = .returned (.bool (matchB l r)) ∧ Below w.heap.size w w' := by
  have H := Lib.hid h
  have HV := Lib.hid hv
  have HB := Lib.hid (badM_match l r)
  clear h hv
  go_enter Tryz.func27, Tryz.ntmps27
  go_wp2_with (go_at_call 49; refine (containsM (r := r) _ (H.out.keep (by repeat' (first | with_reducible exact Agree.refl _ _ | with_reducible assumption | with_reducible refine Agree.alloc ?_ _ | with_reducible refine Agree.drew ?_ | with_reducible refine Agree.drewN ?_ _ | with_reducible refine Agree.call ?_ (by with_reducible assumption)))) (by with_reducible refine heap_alloc_at ?_; simp) HV.out).mono ?_; rintro e w2 ⟨rfl, hb2⟩)
  go_ret
  exact ⟨ret_b HB.out, (by repeat' (first | with_reducible exact Below.refl _ _ | with_reducible assumption | with_reducible refine Below.trans ?_ (Below.mono hb2 ?_) | with_reducible refine Below.setCell ?_ ?_ _ | with_reducible refine Below.drew ?_ | with_reducible refine below_drewN ?_ _ | with_reducible refine Below.alloc ?_ ?_ _ | (rintro _ ⟨⟩; simp <;> omega) | omega | (simp <;> omega)))⟩
theorem row_who {r : Rd} (w : World) : Calls Tryz.prog 91 #[(.agg #[.int .i64 r.who, .int .i64 r.whn, .int .i64 r.knd, .int .i64 r.val])] w fun e w' => e = .returned (.int .i64 r.who) ∧ Below w.heap.size w w' := by
  go_enter Tryz.func91, Tryz.ntmps91
  go_wp2_with fail
  go_ret
  exact ⟨rfl, (by repeat' (first | with_reducible exact Below.refl _ _ | with_reducible assumption | with_reducible refine Below.setCell ?_ ?_ _ | with_reducible refine Below.drew ?_ | with_reducible refine below_drewN ?_ _ | with_reducible refine Below.alloc ?_ ?_ _ | (rintro _ ⟨⟩; simp <;> omega) | omega | (simp <;> omega)))⟩
theorem row_when {r : Rd} (w : World) : Calls Tryz.prog 92 #[(.agg #[.int .i64 r.who, .int .i64 r.whn, .int .i64 r.knd, .int .i64 r.val])] w fun e w' => e = .returned (.int .i64 r.whn) ∧ Below w.heap.size w w' := by
  go_enter Tryz.func92, Tryz.ntmps92
  go_wp2_with fail
  go_ret
  exact ⟨rfl, (by repeat' (first | with_reducible exact Below.refl _ _ | with_reducible assumption | with_reducible refine Below.setCell ?_ ?_ _ | with_reducible refine Below.drew ?_ | with_reducible refine below_drewN ?_ _ | with_reducible refine Below.alloc ?_ ?_ _ | (rintro _ ⟨⟩; simp <;> omega) | omega | (simp <;> omega)))⟩
theorem row_kind {r : Rd} (w : World) : Calls Tryz.prog 93 #[(.agg #[.int .i64 r.who, .int .i64 r.whn, .int .i64 r.knd, .int .i64 r.val])] w fun e w' => e = .returned (.int .i64 r.knd) ∧ Below w.heap.size w w' := by
  go_enter Tryz.func93, Tryz.ntmps93
  go_wp2_with fail
  go_ret
  exact ⟨rfl, (by repeat' (first | with_reducible exact Below.refl _ _ | with_reducible assumption | with_reducible refine Below.setCell ?_ ?_ _ | with_reducible refine Below.drew ?_ | with_reducible refine below_drewN ?_ _ | with_reducible refine Below.alloc ?_ ?_ _ | (rintro _ ⟨⟩; simp <;> omega) | omega | (simp <;> omega)))⟩
theorem row_value {r : Rd} (w : World) : Calls Tryz.prog 94 #[(.agg #[.int .i64 r.who, .int .i64 r.whn, .int .i64 r.knd, .int .i64 r.val])] w fun e w' => e = .returned (.int .i64 r.val) ∧ Below w.heap.size w w' := by
  go_enter Tryz.func94, Tryz.ntmps94
  go_wp2_with fail
  go_ret
  exact ⟨rfl, (by repeat' (first | with_reducible exact Below.refl _ _ | with_reducible assumption | with_reducible refine Below.setCell ?_ ?_ _ | with_reducible refine Below.drew ?_ | with_reducible refine below_drewN ?_ _ | with_reducible refine Below.alloc ?_ ?_ _ | (rintro _ ⟨⟩; simp <;> omega) | omega | (simp <;> omega)))⟩
theorem colIx_who (w : World) : (Instr.index 141 (.agg #[.func (.func 91) #[] #[], .func (.func 92) #[] #[], .func (.func 93) #[] #[], .func (.func 94) #[] #[]]) (.int .i64 0)).run Tryz.prog w = .ok (.func (.func 91) #[] #[]) w := by kernel_rfl
theorem colIx_when (w : World) : (Instr.index 141 (.agg #[.func (.func 91) #[] #[], .func (.func 92) #[] #[], .func (.func 93) #[] #[], .func (.func 94) #[] #[]]) (.int .i64 1)).run Tryz.prog w = .ok (.func (.func 92) #[] #[]) w := by kernel_rfl
theorem colIx_kind (w : World) : (Instr.index 141 (.agg #[.func (.func 91) #[] #[], .func (.func 92) #[] #[], .func (.func 93) #[] #[], .func (.func 94) #[] #[]]) (.int .i64 2)).run Tryz.prog w = .ok (.func (.func 93) #[] #[]) w := by kernel_rfl
theorem colIx_value (w : World) : (Instr.index 141 (.agg #[.func (.func 91) #[] #[], .func (.func 92) #[] #[], .func (.func 93) #[] #[], .func (.func 94) #[] #[]]) (.int .i64 3)).run Tryz.prog w = .ok (.func (.func 94) #[] #[]) w := by kernel_rfl
def evCol : List FRow := [(0, ([], (6, []))), (1, ([], (7, [1]))), (2, ([0, 1], (8, [5, 6]))), (3, ([], (9, [2]))), (4, ([2, 3], (10, [7, 8]))), (5, ([4, 4, 0, 1, 2, 3, 4], (5, [9])))]
theorem columnE {r : Rd} {col : Int} (w : World) (h0 : 0 ≤ col) (h3 : col ≤ 3) : Calls Tryz.prog 60 #[(.agg #[.int .i64 r.who, .int .i64 r.whn, .int .i64 r.knd, .int .i64 r.val]), .int .i64 col] w fun e w' => e = .returned (.int .i64 (fldI r col)) ∧ Below w.heap.size w w' := by
  rcases (by omega : col = 0 ∨ col = 1 ∨ col = 2 ∨ col = 3) with rfl | rfl | rfl | rfl
  · clear h0 h3
    go_enter Tryz.func60, Tryz.ntmps60
    go_upto_region 1 with fail
    refine wp_world (F := fun wx => Below w.heap.size w wx ∧ Hid (wx.heap[w.heap.size]? = some (.cells #[.int .i64 r.who, .int .i64 r.whn, .int .i64 r.knd, .int .i64 r.val] 46 (0, 0)))) ⟨(by repeat' (first | with_reducible exact Below.refl _ _ | with_reducible assumption | with_reducible refine Below.setCell ?_ ?_ _ | with_reducible refine Below.drew ?_ | with_reducible refine below_drewN ?_ _ | with_reducible refine Below.alloc ?_ ?_ _ | (rintro _ ⟨⟩; simp <;> omega) | omega | (simp <;> omega))), Lib.hid (heap_alloc_at rfl)⟩ ?_
    rintro wr ⟨bb, gr⟩
    have B0 := Lib.hid bb
    have zr : ∀ W, Below wr.heap.size wr W → _ ∧ _ ∧ _ ∧ _ := fun W hW => row4 (mvQ gr hW)
    have br : Below wr.heap.size wr wr := Below.refl _ _
    have ba : ∀ W o, Below wr.heap.size wr W → Below wr.heap.size wr (W.alloc o) := fun W o h => h.alloc h.size o
    have bc : ∀ W W', Below wr.heap.size wr W → Below W.heap.size W W' → Below wr.heap.size wr W' := fun W W' h k => h.trans (k.mono h.size)
    have ix := colIx_who
    clear bb
    refine wp_region_noPanic ?_
    refine wp_region_held_drew (S := fun X => Below wr.heap.size wr X) (by kernel_rfl) ?_ (fun hHeld => ?_)
    · (first | with_reducible assumption | (with_reducible refine Below.drew ?_; with_reducible assumption) | (with_reducible refine ba _ _ ?_; with_reducible assumption) | (with_reducible refine Below.drew ?_; with_reducible refine ba _ _ ?_; with_reducible assumption) | exact Below.refl _ _ | exact (Below.refl _ _).drew | exact (Below.refl _ _).alloc (Nat.le_refl _) _ | (refine bc _ _ (by assumption) (by assumption)))
    refine RegOk.begin_ (n := 6) (T := evCol) ⟨by kernel_rfl, by kernel_rfl, by kernel_rfl, by kernel_rfl⟩ fun hR => ?_
    refine hR.take (i := 0) (oi := ?ow611_0) (v := ?vw611_0) (m' := 1) ?hw611_0 (by kernel_rfl) (by kernel_rfl) (fun _ _ _ h => h) (Or.inl ⟨?sw611_0, ?yw611_0⟩) (by assumption) ?nw611_0
    case hw611_0 => simp only [List.getElem?_toArray, List.getElem?_cons_succ, List.getElem?_cons_zero]; rfl
    case sw611_0 => rfl
    case yw611_0 => (intro w hSw; (try dsimp only at hSw); go_simp <;> with_reducible rfl)
    try simp only [Act.put, List.setIfInBounds_toArray, List.set_cons_zero, List.set_cons_succ]
    refine hR.take (i := 1) (oi := ?ow612_1) (v := ?vw612_1) (m' := 3) ?hw612_1 (by kernel_rfl) (by kernel_rfl) (fun _ _ _ h => h) (Or.inl ⟨?sw612_1, ?yw612_1⟩) (by assumption) ?nw612_1
    case hw612_1 => simp only [List.getElem?_toArray, List.getElem?_cons_succ, List.getElem?_cons_zero]; rfl
    case sw612_1 => rfl
    case yw612_1 => (intro w hSw; (try dsimp only at hSw); go_simp <;> with_reducible rfl)
    try simp only [Act.put, List.setIfInBounds_toArray, List.set_cons_zero, List.set_cons_succ]
    refine hR.take (i := 2) (oi := ?ow613_2) (v := ?vw613_2) (m' := 7) ?hw613_2 (by kernel_rfl) (by kernel_rfl) (fun _ _ _ h => h) (Or.inl ⟨?sw613_2, ?yw613_2⟩) (by assumption) ?nw613_2
    case hw613_2 => simp only [List.getElem?_toArray, List.getElem?_cons_succ, List.getElem?_cons_zero]; rfl
    case sw613_2 => rfl
    case yw613_2 => (intro w hSw; (try dsimp only at hSw); go_simp <;> with_reducible rfl)
    try simp only [Act.put, List.setIfInBounds_toArray, List.set_cons_zero, List.set_cons_succ]
    refine hR.take (i := 3) (oi := ?ow614_3) (v := ?vw614_3) (m' := 15) ?hw614_3 (by kernel_rfl) (by kernel_rfl) (fun _ _ _ h => h) (Or.inl ⟨?sw614_3, ?yw614_3⟩) (by assumption) ?nw614_3
    case hw614_3 => simp only [List.getElem?_toArray, List.getElem?_cons_succ, List.getElem?_cons_zero]; rfl
    case sw614_3 => rfl
    case yw614_3 => (intro w hSw; (try dsimp only at hSw); go_simp <;> with_reducible rfl)
    try simp only [Act.put, List.setIfInBounds_toArray, List.set_cons_zero, List.set_cons_succ]
    refine hR.come (rs := [4]) (by kernel_rfl) (by simp) ?_
    refine AllReadyH.cons (o := ?o615_4) ?h615_4 (fun K hK => ?kw615_4) AllReadyH.nil
    case h615_4 => simp only [List.getElem?_toArray, List.getElem?_cons_succ, List.getElem?_cons_zero]; rfl
    go_simp
    go_at_call 91; refine (row_who (r := r) _).mono ?_; rintro e w1 ⟨rfl, hb1⟩; have hk := bc _ _ (by (first | with_reducible assumption | (with_reducible refine Below.drew ?_; with_reducible assumption) | (with_reducible refine ba _ _ ?_; with_reducible assumption) | (with_reducible refine Below.drew ?_; with_reducible refine ba _ _ ?_; with_reducible assumption) | exact Below.refl _ _ | exact (Below.refl _ _).drew | exact (Below.refl _ _).alloc (Nat.le_refl _) _ | (refine bc _ _ (by assumption) (by assumption)))) hb1
    refine hK.out _ _ ?_ (fun hHeld => ?_)
    · (first | with_reducible assumption | (with_reducible refine Below.drew ?_; with_reducible assumption) | (with_reducible refine ba _ _ ?_; with_reducible assumption) | (with_reducible refine Below.drew ?_; with_reducible refine ba _ _ ?_; with_reducible assumption) | exact Below.refl _ _ | exact (Below.refl _ _).drew | exact (Below.refl _ _).alloc (Nat.le_refl _) _ | (refine bc _ _ (by assumption) (by assumption)))
    clear hK K
    refine RegOk.put_ (m' := 31) (by kernel_rfl) ?_
    try simp only [Act.put, List.setIfInBounds_toArray, List.set_cons_zero, List.set_cons_succ]
    refine hR.take (i := 5) (oi := ?ow616_5) (v := ?vw616_5) (m' := 63) ?hw616_5 (by kernel_rfl) (by kernel_rfl) (fun _ _ _ h => h) (Or.inl ⟨?sw616_5, ?yw616_5⟩) (by assumption) ?nw616_5
    case hw616_5 => simp only [List.getElem?_toArray, List.getElem?_cons_succ, List.getElem?_cons_zero]; rfl
    case sw616_5 => rfl
    case yw616_5 => (intro w hSw; (try dsimp only at hSw); go_simp <;> with_reducible rfl)
    try simp only [Act.put, List.setIfInBounds_toArray, List.set_cons_zero, List.set_cons_succ]
    refine hR.all (by kernel_rfl) ?_ _
    refine NoPanic.normal ?_
    go_wp2_with fail
    go_ret
    exact ⟨rfl, B0.out.trans (Below.mono (by assumption) B0.out.size)⟩
  · clear h0 h3
    go_enter Tryz.func60, Tryz.ntmps60
    go_upto_region 1 with fail
    refine wp_world (F := fun wx => Below w.heap.size w wx ∧ Hid (wx.heap[w.heap.size]? = some (.cells #[.int .i64 r.who, .int .i64 r.whn, .int .i64 r.knd, .int .i64 r.val] 46 (0, 0)))) ⟨(by repeat' (first | with_reducible exact Below.refl _ _ | with_reducible assumption | with_reducible refine Below.setCell ?_ ?_ _ | with_reducible refine Below.drew ?_ | with_reducible refine below_drewN ?_ _ | with_reducible refine Below.alloc ?_ ?_ _ | (rintro _ ⟨⟩; simp <;> omega) | omega | (simp <;> omega))), Lib.hid (heap_alloc_at rfl)⟩ ?_
    rintro wr ⟨bb, gr⟩
    have B0 := Lib.hid bb
    have zr : ∀ W, Below wr.heap.size wr W → _ ∧ _ ∧ _ ∧ _ := fun W hW => row4 (mvQ gr hW)
    have br : Below wr.heap.size wr wr := Below.refl _ _
    have ba : ∀ W o, Below wr.heap.size wr W → Below wr.heap.size wr (W.alloc o) := fun W o h => h.alloc h.size o
    have bc : ∀ W W', Below wr.heap.size wr W → Below W.heap.size W W' → Below wr.heap.size wr W' := fun W W' h k => h.trans (k.mono h.size)
    have ix := colIx_when
    clear bb
    refine wp_region_noPanic ?_
    refine wp_region_held_drew (S := fun X => Below wr.heap.size wr X) (by kernel_rfl) ?_ (fun hHeld => ?_)
    · (first | with_reducible assumption | (with_reducible refine Below.drew ?_; with_reducible assumption) | (with_reducible refine ba _ _ ?_; with_reducible assumption) | (with_reducible refine Below.drew ?_; with_reducible refine ba _ _ ?_; with_reducible assumption) | exact Below.refl _ _ | exact (Below.refl _ _).drew | exact (Below.refl _ _).alloc (Nat.le_refl _) _ | (refine bc _ _ (by assumption) (by assumption)))
    refine RegOk.begin_ (n := 6) (T := evCol) ⟨by kernel_rfl, by kernel_rfl, by kernel_rfl, by kernel_rfl⟩ fun hR => ?_
    refine hR.take (i := 0) (oi := ?ow617_0) (v := ?vw617_0) (m' := 1) ?hw617_0 (by kernel_rfl) (by kernel_rfl) (fun _ _ _ h => h) (Or.inl ⟨?sw617_0, ?yw617_0⟩) (by assumption) ?nw617_0
    case hw617_0 => simp only [List.getElem?_toArray, List.getElem?_cons_succ, List.getElem?_cons_zero]; rfl
    case sw617_0 => rfl
    case yw617_0 => (intro w hSw; (try dsimp only at hSw); go_simp <;> with_reducible rfl)
    try simp only [Act.put, List.setIfInBounds_toArray, List.set_cons_zero, List.set_cons_succ]
    refine hR.take (i := 1) (oi := ?ow618_1) (v := ?vw618_1) (m' := 3) ?hw618_1 (by kernel_rfl) (by kernel_rfl) (fun _ _ _ h => h) (Or.inl ⟨?sw618_1, ?yw618_1⟩) (by assumption) ?nw618_1
    case hw618_1 => simp only [List.getElem?_toArray, List.getElem?_cons_succ, List.getElem?_cons_zero]; rfl
    case sw618_1 => rfl
    case yw618_1 => (intro w hSw; (try dsimp only at hSw); go_simp <;> with_reducible rfl)
    try simp only [Act.put, List.setIfInBounds_toArray, List.set_cons_zero, List.set_cons_succ]
    refine hR.take (i := 2) (oi := ?ow619_2) (v := ?vw619_2) (m' := 7) ?hw619_2 (by kernel_rfl) (by kernel_rfl) (fun _ _ _ h => h) (Or.inl ⟨?sw619_2, ?yw619_2⟩) (by assumption) ?nw619_2
    case hw619_2 => simp only [List.getElem?_toArray, List.getElem?_cons_succ, List.getElem?_cons_zero]; rfl
    case sw619_2 => rfl
    case yw619_2 => (intro w hSw; (try dsimp only at hSw); go_simp <;> with_reducible rfl)
    try simp only [Act.put, List.setIfInBounds_toArray, List.set_cons_zero, List.set_cons_succ]
    refine hR.take (i := 3) (oi := ?ow620_3) (v := ?vw620_3) (m' := 15) ?hw620_3 (by kernel_rfl) (by kernel_rfl) (fun _ _ _ h => h) (Or.inl ⟨?sw620_3, ?yw620_3⟩) (by assumption) ?nw620_3
    case hw620_3 => simp only [List.getElem?_toArray, List.getElem?_cons_succ, List.getElem?_cons_zero]; rfl
    case sw620_3 => rfl
    case yw620_3 => (intro w hSw; (try dsimp only at hSw); go_simp <;> with_reducible rfl)
    try simp only [Act.put, List.setIfInBounds_toArray, List.set_cons_zero, List.set_cons_succ]
    refine hR.come (rs := [4]) (by kernel_rfl) (by simp) ?_
    refine AllReadyH.cons (o := ?o621_4) ?h621_4 (fun K hK => ?kw621_4) AllReadyH.nil
    case h621_4 => simp only [List.getElem?_toArray, List.getElem?_cons_succ, List.getElem?_cons_zero]; rfl
    go_simp
    go_at_call 92; refine (row_when (r := r) _).mono ?_; rintro e w1 ⟨rfl, hb1⟩; have hk := bc _ _ (by (first | with_reducible assumption | (with_reducible refine Below.drew ?_; with_reducible assumption) | (with_reducible refine ba _ _ ?_; with_reducible assumption) | (with_reducible refine Below.drew ?_; with_reducible refine ba _ _ ?_; with_reducible assumption) | exact Below.refl _ _ | exact (Below.refl _ _).drew | exact (Below.refl _ _).alloc (Nat.le_refl _) _ | (refine bc _ _ (by assumption) (by assumption)))) hb1
    refine hK.out _ _ ?_ (fun hHeld => ?_)
    · (first | with_reducible assumption | (with_reducible refine Below.drew ?_; with_reducible assumption) | (with_reducible refine ba _ _ ?_; with_reducible assumption) | (with_reducible refine Below.drew ?_; with_reducible refine ba _ _ ?_; with_reducible assumption) | exact Below.refl _ _ | exact (Below.refl _ _).drew | exact (Below.refl _ _).alloc (Nat.le_refl _) _ | (refine bc _ _ (by assumption) (by assumption)))
    clear hK K
    refine RegOk.put_ (m' := 31) (by kernel_rfl) ?_
    try simp only [Act.put, List.setIfInBounds_toArray, List.set_cons_zero, List.set_cons_succ]
    refine hR.take (i := 5) (oi := ?ow622_5) (v := ?vw622_5) (m' := 63) ?hw622_5 (by kernel_rfl) (by kernel_rfl) (fun _ _ _ h => h) (Or.inl ⟨?sw622_5, ?yw622_5⟩) (by assumption) ?nw622_5
    case hw622_5 => simp only [List.getElem?_toArray, List.getElem?_cons_succ, List.getElem?_cons_zero]; rfl
    case sw622_5 => rfl
    case yw622_5 => (intro w hSw; (try dsimp only at hSw); go_simp <;> with_reducible rfl)
    try simp only [Act.put, List.setIfInBounds_toArray, List.set_cons_zero, List.set_cons_succ]
    refine hR.all (by kernel_rfl) ?_ _
    refine NoPanic.normal ?_
    go_wp2_with fail
    go_ret
    exact ⟨rfl, B0.out.trans (Below.mono (by assumption) B0.out.size)⟩
  · clear h0 h3
    go_enter Tryz.func60, Tryz.ntmps60
    go_upto_region 1 with fail
    refine wp_world (F := fun wx => Below w.heap.size w wx ∧ Hid (wx.heap[w.heap.size]? = some (.cells #[.int .i64 r.who, .int .i64 r.whn, .int .i64 r.knd, .int .i64 r.val] 46 (0, 0)))) ⟨(by repeat' (first | with_reducible exact Below.refl _ _ | with_reducible assumption | with_reducible refine Below.setCell ?_ ?_ _ | with_reducible refine Below.drew ?_ | with_reducible refine below_drewN ?_ _ | with_reducible refine Below.alloc ?_ ?_ _ | (rintro _ ⟨⟩; simp <;> omega) | omega | (simp <;> omega))), Lib.hid (heap_alloc_at rfl)⟩ ?_
    rintro wr ⟨bb, gr⟩
    have B0 := Lib.hid bb
    have zr : ∀ W, Below wr.heap.size wr W → _ ∧ _ ∧ _ ∧ _ := fun W hW => row4 (mvQ gr hW)
    have br : Below wr.heap.size wr wr := Below.refl _ _
    have ba : ∀ W o, Below wr.heap.size wr W → Below wr.heap.size wr (W.alloc o) := fun W o h => h.alloc h.size o
    have bc : ∀ W W', Below wr.heap.size wr W → Below W.heap.size W W' → Below wr.heap.size wr W' := fun W W' h k => h.trans (k.mono h.size)
    have ix := colIx_kind
    clear bb
    refine wp_region_noPanic ?_
    refine wp_region_held_drew (S := fun X => Below wr.heap.size wr X) (by kernel_rfl) ?_ (fun hHeld => ?_)
    · (first | with_reducible assumption | (with_reducible refine Below.drew ?_; with_reducible assumption) | (with_reducible refine ba _ _ ?_; with_reducible assumption) | (with_reducible refine Below.drew ?_; with_reducible refine ba _ _ ?_; with_reducible assumption) | exact Below.refl _ _ | exact (Below.refl _ _).drew | exact (Below.refl _ _).alloc (Nat.le_refl _) _ | (refine bc _ _ (by assumption) (by assumption)))
    refine RegOk.begin_ (n := 6) (T := evCol) ⟨by kernel_rfl, by kernel_rfl, by kernel_rfl, by kernel_rfl⟩ fun hR => ?_
    refine hR.take (i := 0) (oi := ?ow623_0) (v := ?vw623_0) (m' := 1) ?hw623_0 (by kernel_rfl) (by kernel_rfl) (fun _ _ _ h => h) (Or.inl ⟨?sw623_0, ?yw623_0⟩) (by assumption) ?nw623_0
    case hw623_0 => simp only [List.getElem?_toArray, List.getElem?_cons_succ, List.getElem?_cons_zero]; rfl
    case sw623_0 => rfl
    case yw623_0 => (intro w hSw; (try dsimp only at hSw); go_simp <;> with_reducible rfl)
    try simp only [Act.put, List.setIfInBounds_toArray, List.set_cons_zero, List.set_cons_succ]
    refine hR.take (i := 1) (oi := ?ow624_1) (v := ?vw624_1) (m' := 3) ?hw624_1 (by kernel_rfl) (by kernel_rfl) (fun _ _ _ h => h) (Or.inl ⟨?sw624_1, ?yw624_1⟩) (by assumption) ?nw624_1
    case hw624_1 => simp only [List.getElem?_toArray, List.getElem?_cons_succ, List.getElem?_cons_zero]; rfl
    case sw624_1 => rfl
    case yw624_1 => (intro w hSw; (try dsimp only at hSw); go_simp <;> with_reducible rfl)
    try simp only [Act.put, List.setIfInBounds_toArray, List.set_cons_zero, List.set_cons_succ]
    refine hR.take (i := 2) (oi := ?ow625_2) (v := ?vw625_2) (m' := 7) ?hw625_2 (by kernel_rfl) (by kernel_rfl) (fun _ _ _ h => h) (Or.inl ⟨?sw625_2, ?yw625_2⟩) (by assumption) ?nw625_2
    case hw625_2 => simp only [List.getElem?_toArray, List.getElem?_cons_succ, List.getElem?_cons_zero]; rfl
    case sw625_2 => rfl
    case yw625_2 => (intro w hSw; (try dsimp only at hSw); go_simp <;> with_reducible rfl)
    try simp only [Act.put, List.setIfInBounds_toArray, List.set_cons_zero, List.set_cons_succ]
    refine hR.take (i := 3) (oi := ?ow626_3) (v := ?vw626_3) (m' := 15) ?hw626_3 (by kernel_rfl) (by kernel_rfl) (fun _ _ _ h => h) (Or.inl ⟨?sw626_3, ?yw626_3⟩) (by assumption) ?nw626_3
    case hw626_3 => simp only [List.getElem?_toArray, List.getElem?_cons_succ, List.getElem?_cons_zero]; rfl
    case sw626_3 => rfl
    case yw626_3 => (intro w hSw; (try dsimp only at hSw); go_simp <;> with_reducible rfl)
    try simp only [Act.put, List.setIfInBounds_toArray, List.set_cons_zero, List.set_cons_succ]
    refine hR.come (rs := [4]) (by kernel_rfl) (by simp) ?_
    refine AllReadyH.cons (o := ?o627_4) ?h627_4 (fun K hK => ?kw627_4) AllReadyH.nil
    case h627_4 => simp only [List.getElem?_toArray, List.getElem?_cons_succ, List.getElem?_cons_zero]; rfl
    go_simp
    go_at_call 93; refine (row_kind (r := r) _).mono ?_; rintro e w1 ⟨rfl, hb1⟩; have hk := bc _ _ (by (first | with_reducible assumption | (with_reducible refine Below.drew ?_; with_reducible assumption) | (with_reducible refine ba _ _ ?_; with_reducible assumption) | (with_reducible refine Below.drew ?_; with_reducible refine ba _ _ ?_; with_reducible assumption) | exact Below.refl _ _ | exact (Below.refl _ _).drew | exact (Below.refl _ _).alloc (Nat.le_refl _) _ | (refine bc _ _ (by assumption) (by assumption)))) hb1
    refine hK.out _ _ ?_ (fun hHeld => ?_)
    · (first | with_reducible assumption | (with_reducible refine Below.drew ?_; with_reducible assumption) | (with_reducible refine ba _ _ ?_; with_reducible assumption) | (with_reducible refine Below.drew ?_; with_reducible refine ba _ _ ?_; with_reducible assumption) | exact Below.refl _ _ | exact (Below.refl _ _).drew | exact (Below.refl _ _).alloc (Nat.le_refl _) _ | (refine bc _ _ (by assumption) (by assumption)))
    clear hK K
    refine RegOk.put_ (m' := 31) (by kernel_rfl) ?_
    try simp only [Act.put, List.setIfInBounds_toArray, List.set_cons_zero, List.set_cons_succ]
    refine hR.take (i := 5) (oi := ?ow628_5) (v := ?vw628_5) (m' := 63) ?hw628_5 (by kernel_rfl) (by kernel_rfl) (fun _ _ _ h => h) (Or.inl ⟨?sw628_5, ?yw628_5⟩) (by assumption) ?nw628_5
    case hw628_5 => simp only [List.getElem?_toArray, List.getElem?_cons_succ, List.getElem?_cons_zero]; rfl
    case sw628_5 => rfl
    case yw628_5 => (intro w hSw; (try dsimp only at hSw); go_simp <;> with_reducible rfl)
    try simp only [Act.put, List.setIfInBounds_toArray, List.set_cons_zero, List.set_cons_succ]
    refine hR.all (by kernel_rfl) ?_ _
    refine NoPanic.normal ?_
    go_wp2_with fail
    go_ret
    exact ⟨rfl, B0.out.trans (Below.mono (by assumption) B0.out.size)⟩
  · clear h0 h3
    go_enter Tryz.func60, Tryz.ntmps60
    go_upto_region 1 with fail
    refine wp_world (F := fun wx => Below w.heap.size w wx ∧ Hid (wx.heap[w.heap.size]? = some (.cells #[.int .i64 r.who, .int .i64 r.whn, .int .i64 r.knd, .int .i64 r.val] 46 (0, 0)))) ⟨(by repeat' (first | with_reducible exact Below.refl _ _ | with_reducible assumption | with_reducible refine Below.setCell ?_ ?_ _ | with_reducible refine Below.drew ?_ | with_reducible refine below_drewN ?_ _ | with_reducible refine Below.alloc ?_ ?_ _ | (rintro _ ⟨⟩; simp <;> omega) | omega | (simp <;> omega))), Lib.hid (heap_alloc_at rfl)⟩ ?_
    rintro wr ⟨bb, gr⟩
    have B0 := Lib.hid bb
    have zr : ∀ W, Below wr.heap.size wr W → _ ∧ _ ∧ _ ∧ _ := fun W hW => row4 (mvQ gr hW)
    have br : Below wr.heap.size wr wr := Below.refl _ _
    have ba : ∀ W o, Below wr.heap.size wr W → Below wr.heap.size wr (W.alloc o) := fun W o h => h.alloc h.size o
    have bc : ∀ W W', Below wr.heap.size wr W → Below W.heap.size W W' → Below wr.heap.size wr W' := fun W W' h k => h.trans (k.mono h.size)
    have ix := colIx_value
    clear bb
    refine wp_region_noPanic ?_
    refine wp_region_held_drew (S := fun X => Below wr.heap.size wr X) (by kernel_rfl) ?_ (fun hHeld => ?_)
    · (first | with_reducible assumption | (with_reducible refine Below.drew ?_; with_reducible assumption) | (with_reducible refine ba _ _ ?_; with_reducible assumption) | (with_reducible refine Below.drew ?_; with_reducible refine ba _ _ ?_; with_reducible assumption) | exact Below.refl _ _ | exact (Below.refl _ _).drew | exact (Below.refl _ _).alloc (Nat.le_refl _) _ | (refine bc _ _ (by assumption) (by assumption)))
    refine RegOk.begin_ (n := 6) (T := evCol) ⟨by kernel_rfl, by kernel_rfl, by kernel_rfl, by kernel_rfl⟩ fun hR => ?_
    refine hR.take (i := 0) (oi := ?ow629_0) (v := ?vw629_0) (m' := 1) ?hw629_0 (by kernel_rfl) (by kernel_rfl) (fun _ _ _ h => h) (Or.inl ⟨?sw629_0, ?yw629_0⟩) (by assumption) ?nw629_0
    case hw629_0 => simp only [List.getElem?_toArray, List.getElem?_cons_succ, List.getElem?_cons_zero]; rfl
    case sw629_0 => rfl
    case yw629_0 => (intro w hSw; (try dsimp only at hSw); go_simp <;> with_reducible rfl)
    try simp only [Act.put, List.setIfInBounds_toArray, List.set_cons_zero, List.set_cons_succ]
    refine hR.take (i := 1) (oi := ?ow630_1) (v := ?vw630_1) (m' := 3) ?hw630_1 (by kernel_rfl) (by kernel_rfl) (fun _ _ _ h => h) (Or.inl ⟨?sw630_1, ?yw630_1⟩) (by assumption) ?nw630_1
    case hw630_1 => simp only [List.getElem?_toArray, List.getElem?_cons_succ, List.getElem?_cons_zero]; rfl
    case sw630_1 => rfl
    case yw630_1 => (intro w hSw; (try dsimp only at hSw); go_simp <;> with_reducible rfl)
    try simp only [Act.put, List.setIfInBounds_toArray, List.set_cons_zero, List.set_cons_succ]
    refine hR.take (i := 2) (oi := ?ow631_2) (v := ?vw631_2) (m' := 7) ?hw631_2 (by kernel_rfl) (by kernel_rfl) (fun _ _ _ h => h) (Or.inl ⟨?sw631_2, ?yw631_2⟩) (by assumption) ?nw631_2
    case hw631_2 => simp only [List.getElem?_toArray, List.getElem?_cons_succ, List.getElem?_cons_zero]; rfl
    case sw631_2 => rfl
    case yw631_2 => (intro w hSw; (try dsimp only at hSw); go_simp <;> with_reducible rfl)
    try simp only [Act.put, List.setIfInBounds_toArray, List.set_cons_zero, List.set_cons_succ]
    refine hR.take (i := 3) (oi := ?ow632_3) (v := ?vw632_3) (m' := 15) ?hw632_3 (by kernel_rfl) (by kernel_rfl) (fun _ _ _ h => h) (Or.inl ⟨?sw632_3, ?yw632_3⟩) (by assumption) ?nw632_3
    case hw632_3 => simp only [List.getElem?_toArray, List.getElem?_cons_succ, List.getElem?_cons_zero]; rfl
    case sw632_3 => rfl
    case yw632_3 => (intro w hSw; (try dsimp only at hSw); go_simp <;> with_reducible rfl)
    try simp only [Act.put, List.setIfInBounds_toArray, List.set_cons_zero, List.set_cons_succ]
    refine hR.come (rs := [4]) (by kernel_rfl) (by simp) ?_
    refine AllReadyH.cons (o := ?o633_4) ?h633_4 (fun K hK => ?kw633_4) AllReadyH.nil
    case h633_4 => simp only [List.getElem?_toArray, List.getElem?_cons_succ, List.getElem?_cons_zero]; rfl
    go_simp
    go_at_call 94; refine (row_value (r := r) _).mono ?_; rintro e w1 ⟨rfl, hb1⟩; have hk := bc _ _ (by (first | with_reducible assumption | (with_reducible refine Below.drew ?_; with_reducible assumption) | (with_reducible refine ba _ _ ?_; with_reducible assumption) | (with_reducible refine Below.drew ?_; with_reducible refine ba _ _ ?_; with_reducible assumption) | exact Below.refl _ _ | exact (Below.refl _ _).drew | exact (Below.refl _ _).alloc (Nat.le_refl _) _ | (refine bc _ _ (by assumption) (by assumption)))) hb1
    refine hK.out _ _ ?_ (fun hHeld => ?_)
    · (first | with_reducible assumption | (with_reducible refine Below.drew ?_; with_reducible assumption) | (with_reducible refine ba _ _ ?_; with_reducible assumption) | (with_reducible refine Below.drew ?_; with_reducible refine ba _ _ ?_; with_reducible assumption) | exact Below.refl _ _ | exact (Below.refl _ _).drew | exact (Below.refl _ _).alloc (Nat.le_refl _) _ | (refine bc _ _ (by assumption) (by assumption)))
    clear hK K
    refine RegOk.put_ (m' := 31) (by kernel_rfl) ?_
    try simp only [Act.put, List.setIfInBounds_toArray, List.set_cons_zero, List.set_cons_succ]
    refine hR.take (i := 5) (oi := ?ow634_5) (v := ?vw634_5) (m' := 63) ?hw634_5 (by kernel_rfl) (by kernel_rfl) (fun _ _ _ h => h) (Or.inl ⟨?sw634_5, ?yw634_5⟩) (by assumption) ?nw634_5
    case hw634_5 => simp only [List.getElem?_toArray, List.getElem?_cons_succ, List.getElem?_cons_zero]; rfl
    case sw634_5 => rfl
    case yw634_5 => (intro w hSw; (try dsimp only at hSw); go_simp <;> with_reducible rfl)
    try simp only [Act.put, List.setIfInBounds_toArray, List.set_cons_zero, List.set_cons_succ]
    refine hR.all (by kernel_rfl) ?_ _
    refine NoPanic.normal ?_
    go_wp2_with fail
    go_ret
    exact ⟨rfl, B0.out.trans (Below.mono (by assumption) B0.out.size)⟩
theorem powerE {v : Int} {k : Nat} (w : World) (h0 : 0 ≤ v) (h1 : v ≤ 255) (hk : k ≤ 6) : Calls Tryz.prog 62 #[.int .i64 v, .int .i64 k] w fun e w' => e = .returned (.int .i64 (v ^ k)) ∧ w = w' := by
  go_enter Tryz.func62, Tryz.ntmps62
  go_wp2_with fail
  go_loop [5, 7] (fun p i => ∃ j : Nat, j ≤ k ∧ i = .int .i64 j ∧ p = .int .i64 (v ^ j)) (fun _ i => k - (intOf i).toNat)
  case atStart => exact ⟨0, Nat.zero_le _, rfl, by simp⟩
  case round =>
    obtain ⟨j, hj, rfl, rfl⟩ := hrel
    by_cases hlt : j < k
    · have hj1 : (j : Int) < (k : Int) := by omega
      have hp := pow_le_6 h0 h1 (k := j + 1) (by omega)
      have hw : IntKind.i64.wrap (v ^ j * v) = v ^ (j + 1) := by rw [show v ^ j * v = v ^ (j + 1) from (Int.pow_succ v j).symm]; exact IntWalk.i64_in _ (by omega)
      clear hp
      go_wp2_with fail
      go_round
      case rel => exact ⟨j + 1, by omega, by go_num, by first | rfl | rw [hw]⟩
      case measure => simp [intOf]; omega
    · have hj1 : ¬ (j : Int) < (k : Int) := by omega
      obtain rfl : j = k := by omega
      go_wp2_with fail
      go_ret
      exact ⟨rfl, rfl⟩
end Go.Proofs.YtagadbdbbglddaaGreatDoor
