/-
  Texts of this claim, merged: Ev1, Gk. Conditions: as each theorem says.
-/
import Derived.Lib.Mul64
import Derived.Laws.Bits64b
import Derived.Shelf.Bits.Mul64
import Derived.Test.YtmkpaolbejlodaaDoorD1
import Derived.Test.YtmkpaolbejlodaaDoorD2
import Derived.Test.YtmkpaolbejlodaaDoorD3
import Derived.Test.YtmkpaolbejlodaaDoorD4
set_option linter.unusedSimpArgs false
set_option linter.unusedVariables false
namespace Go.Proofs.YtmkpaolbejlodaaDoor
open Go.RowKit

abbrev Row4 (g : Nat) (r : Rd) (w : World) : Prop := w.heap[g]? = some (.cells #[.int .i64 r.who, .int .i64 r.whn, .int .i64 r.knd, .int .i64 r.val] 97 (0, 0))
set_option maxHeartbeats 2000000 in
theorem match1P {c : Cd} {r : Rd} {g : Nat} (w : World) (hg : Row4 g r w) (hv : ValidCd c) : Calls Tryd.prog 60 #[(.agg #[.int .i64 c.col, .int .i64 c.lo, .int .i64 c.hi]), .pointer (some ⟨g, 0, none⟩)] w fun e w' => e = .returned (.bool (!matchT r c)) ∧ Below w.heap.size w w' := by
  obtain ⟨x0, x1, x2, x3⟩ := row4 (Lib.hid (show w.heap[g]? = _ from hg))
  have hlt := heap_lt (show w.heap[g]? = _ from hg)
  have hcol := hv.1
  clear hg hv
  obtain ⟨cl, lo, hi⟩ := c
  dsimp only at hcol ⊢
  rcases (by omega : cl = 0 ∨ cl = 1 ∨ cl = 2 ∨ cl = 3) with rfl | rfl | rfl | rfl
  · have e : matchT r ⟨0, lo, hi⟩ = decide (lo ≤ r.who ∧ r.who ≤ hi) := rfl
    have E := Lib.hid e
    clear e hcol
    by_cases h1 : r.who < lo
    · have hf := Lib.hid (show true = !matchT r ⟨0, lo, hi⟩ by rw [E.out, decide_eq_false (show ¬ (lo ≤ r.who ∧ r.who ≤ hi) by omega)]; rfl)
      have h2 : decide (r.who < lo) = true := decide_eq_true h1
      go_enter Tryd.func60, Tryd.ntmps60
      go_wp2_with fail
      go_quiet (fail)
      go_wp2_with fail
      go_ret
      exact ⟨ret_b hf.out, (by repeat' (first | with_reducible exact Below.refl _ _ | with_reducible assumption | with_reducible refine Below.setCell ?_ ?_ _ | with_reducible refine Below.drew ?_ | with_reducible refine below_drewN ?_ _ | with_reducible refine Below.alloc ?_ ?_ _ | (rintro _ ⟨⟩; simp <;> omega) | omega | (simp <;> omega)))⟩
    · have h2 : decide (r.who < lo) = false := decide_eq_false h1
      by_cases h3 : hi < r.who
      · have hf := Lib.hid (show true = !matchT r ⟨0, lo, hi⟩ by rw [E.out, decide_eq_false (show ¬ (lo ≤ r.who ∧ r.who ≤ hi) by omega)]; rfl)
        go_enter Tryd.func60, Tryd.ntmps60
        go_wp2_with fail
        go_quiet (fail)
        go_wp2_with fail
        go_ret
        exact ⟨ret_b hf.out, (by repeat' (first | with_reducible exact Below.refl _ _ | with_reducible assumption | with_reducible refine Below.setCell ?_ ?_ _ | with_reducible refine Below.drew ?_ | with_reducible refine below_drewN ?_ _ | with_reducible refine Below.alloc ?_ ?_ _ | (rintro _ ⟨⟩; simp <;> omega) | omega | (simp <;> omega)))⟩
      · have hf := Lib.hid (show false = !matchT r ⟨0, lo, hi⟩ by rw [E.out, decide_eq_true (show (lo ≤ r.who ∧ r.who ≤ hi) by omega)]; rfl)
        have h4 : decide (hi < r.who) = false := decide_eq_false h3
        go_enter Tryd.func60, Tryd.ntmps60
        go_wp2_with fail
        go_quiet (fail)
        go_wp2_with fail
        go_ret
        exact ⟨ret_b hf.out, (by repeat' (first | with_reducible exact Below.refl _ _ | with_reducible assumption | with_reducible refine Below.setCell ?_ ?_ _ | with_reducible refine Below.drew ?_ | with_reducible refine below_drewN ?_ _ | with_reducible refine Below.alloc ?_ ?_ _ | (rintro _ ⟨⟩; simp <;> omega) | omega | (simp <;> omega)))⟩
  · have e : matchT r ⟨1, lo, hi⟩ = decide (lo ≤ r.whn ∧ r.whn ≤ hi) := rfl
    have E := Lib.hid e
    clear e hcol
    by_cases h1 : r.whn < lo
    · have hf := Lib.hid (show true = !matchT r ⟨1, lo, hi⟩ by rw [E.out, decide_eq_false (show ¬ (lo ≤ r.whn ∧ r.whn ≤ hi) by omega)]; rfl)
      have h2 : decide (r.whn < lo) = true := decide_eq_true h1
      go_enter Tryd.func60, Tryd.ntmps60
      go_wp2_with fail
      go_quiet (fail)
      go_wp2_with fail
      go_ret
      exact ⟨ret_b hf.out, (by repeat' (first | with_reducible exact Below.refl _ _ | with_reducible assumption | with_reducible refine Below.setCell ?_ ?_ _ | with_reducible refine Below.drew ?_ | with_reducible refine below_drewN ?_ _ | with_reducible refine Below.alloc ?_ ?_ _ | (rintro _ ⟨⟩; simp <;> omega) | omega | (simp <;> omega)))⟩
    · have h2 : decide (r.whn < lo) = false := decide_eq_false h1
      by_cases h3 : hi < r.whn
      · have hf := Lib.hid (show true = !matchT r ⟨1, lo, hi⟩ by rw [E.out, decide_eq_false (show ¬ (lo ≤ r.whn ∧ r.whn ≤ hi) by omega)]; rfl)
        go_enter Tryd.func60, Tryd.ntmps60
        go_wp2_with fail
        go_quiet (fail)
        go_wp2_with fail
        go_ret
        exact ⟨ret_b hf.out, (by repeat' (first | with_reducible exact Below.refl _ _ | with_reducible assumption | with_reducible refine Below.setCell ?_ ?_ _ | with_reducible refine Below.drew ?_ | with_reducible refine below_drewN ?_ _ | with_reducible refine Below.alloc ?_ ?_ _ | (rintro _ ⟨⟩; simp <;> omega) | omega | (simp <;> omega)))⟩
      · have hf := Lib.hid (show false = !matchT r ⟨1, lo, hi⟩ by rw [E.out, decide_eq_true (show (lo ≤ r.whn ∧ r.whn ≤ hi) by omega)]; rfl)
        have h4 : decide (hi < r.whn) = false := decide_eq_false h3
        go_enter Tryd.func60, Tryd.ntmps60
        go_wp2_with fail
        go_quiet (fail)
        go_wp2_with fail
        go_ret
        exact ⟨ret_b hf.out, (by repeat' (first | with_reducible exact Below.refl _ _ | with_reducible assumption | with_reducible refine Below.setCell ?_ ?_ _ | with_reducible refine Below.drew ?_ | with_reducible refine below_drewN ?_ _ | with_reducible refine Below.alloc ?_ ?_ _ | (rintro _ ⟨⟩; simp <;> omega) | omega | (simp <;> omega)))⟩
  · have e : matchT r ⟨2, lo, hi⟩ = decide (lo ≤ r.knd ∧ r.knd ≤ hi) := rfl
    have E := Lib.hid e
    clear e hcol
    by_cases h1 : r.knd < lo
    · have hf := Lib.hid (show true = !matchT r ⟨2, lo, hi⟩ by rw [E.out, decide_eq_false (show ¬ (lo ≤ r.knd ∧ r.knd ≤ hi) by omega)]; rfl)
      have h2 : decide (r.knd < lo) = true := decide_eq_true h1
      go_enter Tryd.func60, Tryd.ntmps60
      go_wp2_with fail
      go_quiet (fail)
      go_wp2_with fail
      go_ret
      exact ⟨ret_b hf.out, (by repeat' (first | with_reducible exact Below.refl _ _ | with_reducible assumption | with_reducible refine Below.setCell ?_ ?_ _ | with_reducible refine Below.drew ?_ | with_reducible refine below_drewN ?_ _ | with_reducible refine Below.alloc ?_ ?_ _ | (rintro _ ⟨⟩; simp <;> omega) | omega | (simp <;> omega)))⟩
    · have h2 : decide (r.knd < lo) = false := decide_eq_false h1
      by_cases h3 : hi < r.knd
      · have hf := Lib.hid (show true = !matchT r ⟨2, lo, hi⟩ by rw [E.out, decide_eq_false (show ¬ (lo ≤ r.knd ∧ r.knd ≤ hi) by omega)]; rfl)
        go_enter Tryd.func60, Tryd.ntmps60
        go_wp2_with fail
        go_quiet (fail)
        go_wp2_with fail
        go_ret
        exact ⟨ret_b hf.out, (by repeat' (first | with_reducible exact Below.refl _ _ | with_reducible assumption | with_reducible refine Below.setCell ?_ ?_ _ | with_reducible refine Below.drew ?_ | with_reducible refine below_drewN ?_ _ | with_reducible refine Below.alloc ?_ ?_ _ | (rintro _ ⟨⟩; simp <;> omega) | omega | (simp <;> omega)))⟩
      · have hf := Lib.hid (show false = !matchT r ⟨2, lo, hi⟩ by rw [E.out, decide_eq_true (show (lo ≤ r.knd ∧ r.knd ≤ hi) by omega)]; rfl)
        have h4 : decide (hi < r.knd) = false := decide_eq_false h3
        go_enter Tryd.func60, Tryd.ntmps60
        go_wp2_with fail
        go_quiet (fail)
        go_wp2_with fail
        go_ret
        exact ⟨ret_b hf.out, (by repeat' (first | with_reducible exact Below.refl _ _ | with_reducible assumption | with_reducible refine Below.setCell ?_ ?_ _ | with_reducible refine Below.drew ?_ | with_reducible refine below_drewN ?_ _ | with_reducible refine Below.alloc ?_ ?_ _ | (rintro _ ⟨⟩; simp <;> omega) | omega | (simp <;> omega)))⟩
  · have e : matchT r ⟨3, lo, hi⟩ = decide (lo ≤ r.val ∧ r.val ≤ hi) := rfl
    have E := Lib.hid e
    clear e hcol
    by_cases h1 : r.val < lo
    · have hf := Lib.hid (show true = !matchT r ⟨3, lo, hi⟩ by rw [E.out, decide_eq_false (show ¬ (lo ≤ r.val ∧ r.val ≤ hi) by omega)]; rfl)
      have h2 : decide (r.val < lo) = true := decide_eq_true h1
      go_enter Tryd.func60, Tryd.ntmps60
      go_wp2_with fail
      go_quiet (fail)
      go_wp2_with fail
      go_ret
      exact ⟨ret_b hf.out, (by repeat' (first | with_reducible exact Below.refl _ _ | with_reducible assumption | with_reducible refine Below.setCell ?_ ?_ _ | with_reducible refine Below.drew ?_ | with_reducible refine below_drewN ?_ _ | with_reducible refine Below.alloc ?_ ?_ _ | (rintro _ ⟨⟩; simp <;> omega) | omega | (simp <;> omega)))⟩
    · have h2 : decide (r.val < lo) = false := decide_eq_false h1
      by_cases h3 : hi < r.val
      · have hf := Lib.hid (show true = !matchT r ⟨3, lo, hi⟩ by rw [E.out, decide_eq_false (show ¬ (lo ≤ r.val ∧ r.val ≤ hi) by omega)]; rfl)
        go_enter Tryd.func60, Tryd.ntmps60
        go_wp2_with fail
        go_quiet (fail)
        go_wp2_with fail
        go_ret
        exact ⟨ret_b hf.out, (by repeat' (first | with_reducible exact Below.refl _ _ | with_reducible assumption | with_reducible refine Below.setCell ?_ ?_ _ | with_reducible refine Below.drew ?_ | with_reducible refine below_drewN ?_ _ | with_reducible refine Below.alloc ?_ ?_ _ | (rintro _ ⟨⟩; simp <;> omega) | omega | (simp <;> omega)))⟩
      · have hf := Lib.hid (show false = !matchT r ⟨3, lo, hi⟩ by rw [E.out, decide_eq_true (show (lo ≤ r.val ∧ r.val ≤ hi) by omega)]; rfl)
        have h4 : decide (hi < r.val) = false := decide_eq_false h3
        go_enter Tryd.func60, Tryd.ntmps60
        go_wp2_with fail
        go_quiet (fail)
        go_wp2_with fail
        go_ret
        exact ⟨ret_b hf.out, (by repeat' (first | with_reducible exact Below.refl _ _ | with_reducible assumption | with_reducible refine Below.setCell ?_ ?_ _ | with_reducible refine Below.drew ?_ | with_reducible refine below_drewN ?_ _ | with_reducible refine Below.alloc ?_ ?_ _ | (rintro _ ⟨⟩; simp <;> omega) | omega | (simp <;> omega)))⟩
def badM (l : List Cd) (r : Rd) : Bool := l.any fun c => !matchT r c
theorem badM_match (l : List Cd) (r : Rd) : (!badM l r) = matchB l r := by
  unfold badM matchB
  induction l with
  | nil => rfl
  | cons c l ih => simp only [List.any_cons, List.all_cons, Bool.not_or, ih, Bool.not_not]
theorem indexM {l : List Cd} {r : Rd} {g : Nat} {A : Option Addr} {c : Nat} {S : Nat → Prop} (w : World) (h : Sl cdE S w A c l) (hg : Row4 g r w) (hv : ∀ x ∈ l, ValidCd x) :
    Calls Tryd.prog 75 #[.slice A l.length c, (.func (.func 60) #[] #[.pointer (some ⟨g, 0, none⟩)])] w (SignB (badM l r) w) := by
  have hm := h.max
  have H := Lib.hid h
  have G := Lib.hid hg
  have HV := Lib.hid hv
  clear h hg hv
  go_enter Tryd.func75, Tryd.ntmps75
  go_wp2_with fail
  go_loopw [8] (fun i wr => ∃ j : Nat, j ≤ l.length ∧ i = .int .i64 j ∧ badM (l.take j) r = false ∧ Below w.heap.size w wr) (fun i _ => l.length - (intOf i).toNat)
  case atStart => exact ⟨0, Nat.zero_le _, rfl, rfl, Below.refl _ _⟩
  case round =>
    obtain ⟨j, hj, rfl, hb, bb⟩ := hrel
    have Hb := Lib.hid hb
    have B0 := Lib.hid bb
    have G1 := Lib.hid (show Row4 g r wr from (bb.block g (heap_lt G.out)).trans G.out)
    clear hb
    by_cases hlt : j < l.length
    · obtain ⟨x, hx⟩ : ∃ x, l[j]? = some x := ⟨_, List.getElem?_eq_getElem hlt⟩
      obtain ⟨b1, o1, rfl, -, hb1, x0, x1, x2⟩ := cd_at (H.out.keep (Below.agree bb)) hx
      have hj0 : (0 : Int) ≤ (j : Int) := by omega
      have hj1 : (j : Int) < (l.length : Int) := by omega
      have hs : badM (l.take (j + 1)) r = (badM (l.take j) r || !matchT r x) := by rw [take_snocR hx]; simp [badM]
      have hvx := HV.out x (List.mem_of_getElem? hx)
      have Hs := Lib.hid hs
      have Hx := Lib.hid hx
      have HVX := Lib.hid hvx
      clear hs hx bb hvx
      cases hok : matchT r x with
      | true =>
        have Hok := Lib.hid hok
        clear hok
        go_wp2_with (go_at_call 60; refine (match1P (r := r) _ G1.out HVX.out).mono ?_; rw [Hok.out]; rintro e w2 ⟨rfl, hb2⟩)
        go_roundw
        case rel => exact ⟨j + 1, by omega, by go_num, by rw [Hs.out, Hb.out, Hok.out]; rfl, B0.out.trans (hb2.mono B0.out.size)⟩
        case measure => simp [intOf]; omega
      | false =>
        have Hok := Lib.hid hok
        clear hok
        go_wp2_with (go_at_call 60; refine (match1P (r := r) _ G1.out HVX.out).mono ?_; rw [Hok.out]; rintro e w2 ⟨rfl, hb2⟩)
        go_ret
        refine ⟨j, rfl, ?_, B0.out.trans (hb2.mono B0.out.size)⟩
        have : badM l r = true := List.any_eq_true.2 ⟨x, List.mem_of_getElem? Hx.out, by simp [Hok.out]⟩
        rw [this]; simp
    · have hj1 : ¬ (j : Int) < (l.length : Int) := by omega
      clear bb
      go_wp2_with fail
      go_ret
      refine ⟨-1, rfl, ?_, B0.out⟩
      have := Hb.out
      rw [List.take_of_length_le (by omega)] at this
      rw [this]; rfl
theorem containsM {l : List Cd} {r : Rd} {g : Nat} {A : Option Addr} {c : Nat} {S : Nat → Prop} (w : World) (h : Sl cdE S w A c l) (hg : Row4 g r w) (hv : ∀ x ∈ l, ValidCd x) :
    Calls Tryd.prog 59 #[.slice A l.length c, (.func (.func 60) #[] #[.pointer (some ⟨g, 0, none⟩)])] w fun e w' => e = .returned (.bool (badM l r)) ∧ Below w.heap.size w w' := by
  have H := Lib.hid h
  have G := Lib.hid hg
  have HV := Lib.hid hv
  clear h hg hv
  go_enter Tryd.func59, Tryd.ntmps59
  go_wp2_with (go_at_call 75; refine (indexM (r := r) _ H.out G.out HV.out).mono ?_; rintro e w2 ⟨z, rfl, hz, hb2⟩)
  go_ret
  exact ⟨rfl, hb2⟩
set_option maxRecDepth 100000 in
theorem matchP {l : List Cd} {r : Rd} {A : Option Addr} {c : Nat} {S : Nat → Prop} (w : World) (h : Sl cdE S w A c l) (hv : ∀ x ∈ l, ValidCd x) :
    Calls Tryd.prog 37 #[.slice A l.length c, (.agg #[.int .i64 r.who, .int .i64 r.whn, .int .i64 r.knd, .int .i64 r.val])] w fun e w' => e = .returned (.bool (matchB l r)) ∧ Below w.heap.size w w' := by
  have H := Lib.hid h
  have HV := Lib.hid hv
  have HB := Lib.hid (badM_match l r)
  clear h hv
  go_enter Tryd.func37, Tryd.ntmps37
  go_wp2_with (go_at_call 59; refine (containsM (r := r) _ (H.out.keep (by repeat' (first | with_reducible exact Agree.refl _ _ | with_reducible assumption | with_reducible refine Agree.alloc ?_ _ | with_reducible refine Agree.drew ?_ | with_reducible refine Agree.drewN ?_ _ | with_reducible refine Agree.call ?_ (by with_reducible assumption)))) (by with_reducible refine heap_alloc_at ?_; simp) HV.out).mono ?_; rintro e w2 ⟨rfl, hb2⟩)
  go_ret
  exact ⟨ret_b HB.out, (by repeat' (first | with_reducible exact Below.refl _ _ | with_reducible assumption | with_reducible refine Below.trans ?_ (Below.mono hb2 ?_) | with_reducible refine Below.setCell ?_ ?_ _ | with_reducible refine Below.drew ?_ | with_reducible refine below_drewN ?_ _ | with_reducible refine Below.alloc ?_ ?_ _ | (rintro _ ⟨⟩; simp <;> omega) | omega | (simp <;> omega)))⟩
theorem row_who {r : Rd} (w : World) : Calls Tryd.prog 70 #[(.agg #[.int .i64 r.who, .int .i64 r.whn, .int .i64 r.knd, .int .i64 r.val])] w fun e w' => e = .returned (.int .i64 r.who) ∧ Below w.heap.size w w' := by
  go_enter Tryd.func70, Tryd.ntmps70
  go_wp2_with fail
  go_ret
  exact ⟨rfl, (by repeat' (first | with_reducible exact Below.refl _ _ | with_reducible assumption | with_reducible refine Below.setCell ?_ ?_ _ | with_reducible refine Below.drew ?_ | with_reducible refine below_drewN ?_ _ | with_reducible refine Below.alloc ?_ ?_ _ | (rintro _ ⟨⟩; simp <;> omega) | omega | (simp <;> omega)))⟩
theorem row_when {r : Rd} (w : World) : Calls Tryd.prog 71 #[(.agg #[.int .i64 r.who, .int .i64 r.whn, .int .i64 r.knd, .int .i64 r.val])] w fun e w' => e = .returned (.int .i64 r.whn) ∧ Below w.heap.size w w' := by
  go_enter Tryd.func71, Tryd.ntmps71
  go_wp2_with fail
  go_ret
  exact ⟨rfl, (by repeat' (first | with_reducible exact Below.refl _ _ | with_reducible assumption | with_reducible refine Below.setCell ?_ ?_ _ | with_reducible refine Below.drew ?_ | with_reducible refine below_drewN ?_ _ | with_reducible refine Below.alloc ?_ ?_ _ | (rintro _ ⟨⟩; simp <;> omega) | omega | (simp <;> omega)))⟩
theorem row_kind {r : Rd} (w : World) : Calls Tryd.prog 72 #[(.agg #[.int .i64 r.who, .int .i64 r.whn, .int .i64 r.knd, .int .i64 r.val])] w fun e w' => e = .returned (.int .i64 r.knd) ∧ Below w.heap.size w w' := by
  go_enter Tryd.func72, Tryd.ntmps72
  go_wp2_with fail
  go_ret
  exact ⟨rfl, (by repeat' (first | with_reducible exact Below.refl _ _ | with_reducible assumption | with_reducible refine Below.setCell ?_ ?_ _ | with_reducible refine Below.drew ?_ | with_reducible refine below_drewN ?_ _ | with_reducible refine Below.alloc ?_ ?_ _ | (rintro _ ⟨⟩; simp <;> omega) | omega | (simp <;> omega)))⟩
theorem row_value {r : Rd} (w : World) : Calls Tryd.prog 73 #[(.agg #[.int .i64 r.who, .int .i64 r.whn, .int .i64 r.knd, .int .i64 r.val])] w fun e w' => e = .returned (.int .i64 r.val) ∧ Below w.heap.size w w' := by
  go_enter Tryd.func73, Tryd.ntmps73
  go_wp2_with fail
  go_ret
  exact ⟨rfl, (by repeat' (first | with_reducible exact Below.refl _ _ | with_reducible assumption | with_reducible refine Below.setCell ?_ ?_ _ | with_reducible refine Below.drew ?_ | with_reducible refine below_drewN ?_ _ | with_reducible refine Below.alloc ?_ ?_ _ | (rintro _ ⟨⟩; simp <;> omega) | omega | (simp <;> omega)))⟩
theorem colIx_who (w : World) : (Instr.index 107 (.agg #[.func (.func 70) #[] #[], .func (.func 71) #[] #[], .func (.func 72) #[] #[], .func (.func 73) #[] #[]]) (.int .i64 0)).run Tryd.prog w = .ok (.func (.func 70) #[] #[]) w := by kernel_rfl
theorem colIx_when (w : World) : (Instr.index 107 (.agg #[.func (.func 70) #[] #[], .func (.func 71) #[] #[], .func (.func 72) #[] #[], .func (.func 73) #[] #[]]) (.int .i64 1)).run Tryd.prog w = .ok (.func (.func 71) #[] #[]) w := by kernel_rfl
theorem colIx_kind (w : World) : (Instr.index 107 (.agg #[.func (.func 70) #[] #[], .func (.func 71) #[] #[], .func (.func 72) #[] #[], .func (.func 73) #[] #[]]) (.int .i64 2)).run Tryd.prog w = .ok (.func (.func 72) #[] #[]) w := by kernel_rfl
theorem colIx_value (w : World) : (Instr.index 107 (.agg #[.func (.func 70) #[] #[], .func (.func 71) #[] #[], .func (.func 72) #[] #[], .func (.func 73) #[] #[]]) (.int .i64 3)).run Tryd.prog w = .ok (.func (.func 73) #[] #[]) w := by kernel_rfl
def evCol : List FRow := [(0, ([], (6, []))), (1, ([], (7, [1]))), (2, ([0, 1], (8, [5, 6]))), (3, ([], (9, [2]))), (4, ([2, 3], (10, [7, 8]))), (5, ([4, 4, 0, 1, 2, 3, 4], (5, [9])))]
theorem columnE {r : Rd} {col : Int} (w : World) (h0 : 0 ≤ col) (h3 : col ≤ 3) : Calls Tryd.prog 53 #[(.agg #[.int .i64 r.who, .int .i64 r.whn, .int .i64 r.knd, .int .i64 r.val]), .int .i64 col] w fun e w' => e = .returned (.int .i64 (fldI r col)) ∧ Below w.heap.size w w' := by
  rcases (by omega : col = 0 ∨ col = 1 ∨ col = 2 ∨ col = 3) with rfl | rfl | rfl | rfl
  · clear h0 h3
    go_enter Tryd.func53, Tryd.ntmps53
    go_upto_region 1 with fail
    refine wp_world (F := fun wx => Below w.heap.size w wx ∧ Hid (wx.heap[w.heap.size]? = some (.cells #[.int .i64 r.who, .int .i64 r.whn, .int .i64 r.knd, .int .i64 r.val] 47 (0, 0)))) ⟨(by repeat' (first | with_reducible exact Below.refl _ _ | with_reducible assumption | with_reducible refine Below.setCell ?_ ?_ _ | with_reducible refine Below.drew ?_ | with_reducible refine below_drewN ?_ _ | with_reducible refine Below.alloc ?_ ?_ _ | (rintro _ ⟨⟩; simp <;> omega) | omega | (simp <;> omega))), Lib.hid (heap_alloc_at rfl)⟩ ?_
    rintro wr ⟨bb, gr⟩
    have B0 := Lib.hid bb
    have zr : ∀ W, Below wr.heap.size wr W → _ ∧ _ ∧ _ ∧ _ := fun W hW => row4 (mvQ gr hW)
    have br : Below wr.heap.size wr wr := Below.refl _ _
    have ba : ∀ W o, Below wr.heap.size wr W → Below wr.heap.size wr (W.alloc o) := fun W o h => h.alloc h.size o
    have bc : ∀ W W', Below wr.heap.size wr W → Below W.heap.size W W' → Below wr.heap.size wr W' := fun W W' h k => h.trans (k.mono h.size)
    have ix := colIx_who
    clear bb
    refine wp_region_noPanic ?_
    refine wp_region_held_drew (S := fun X => Below wr.heap.size wr X) (by kernel_rfl) ?_ (fun hHeld => ?_)
    · (first | with_reducible assumption | (with_reducible refine Below.drew ?_; with_reducible assumption) | (with_reducible refine ba _ _ ?_; with_reducible assumption) | (with_reducible refine Below.drew ?_; with_reducible refine ba _ _ ?_; with_reducible assumption) | exact Below.refl _ _ | exact (Below.refl _ _).drew | exact (Below.refl _ _).alloc (Nat.le_refl _) _ | (refine bc _ _ (by assumption) (by assumption)))
    refine RegOk.begin_ (n := 6) (T := evCol) ⟨by kernel_rfl, by kernel_rfl, by kernel_rfl, by kernel_rfl⟩ fun hR => ?_
    refine hR.take (i := 0) (oi := ?ow505_0) (v := ?vw505_0) (m' := 1) ?hw505_0 (by kernel_rfl) (by kernel_rfl) (fun _ _ _ h => h) (Or.inl ⟨?sw505_0, ?yw505_0⟩) (by assumption) ?nw505_0
    case hw505_0 => simp only [List.getElem?_toArray, List.getElem?_cons_succ, List.getElem?_cons_zero]; rfl
    case sw505_0 => rfl
    case yw505_0 => (intro w hSw; (try dsimp only at hSw); go_simp <;> with_reducible rfl)
    try simp only [Act.put, List.setIfInBounds_toArray, List.set_cons_zero, List.set_cons_succ]
    refine hR.take (i := 1) (oi := ?ow506_1) (v := ?vw506_1) (m' := 3) ?hw506_1 (by kernel_rfl) (by kernel_rfl) (fun _ _ _ h => h) (Or.inl ⟨?sw506_1, ?yw506_1⟩) (by assumption) ?nw506_1
    case hw506_1 => simp only [List.getElem?_toArray, List.getElem?_cons_succ, List.getElem?_cons_zero]; rfl
    case sw506_1 => rfl
    case yw506_1 => (intro w hSw; (try dsimp only at hSw); go_simp <;> with_reducible rfl)
    try simp only [Act.put, List.setIfInBounds_toArray, List.set_cons_zero, List.set_cons_succ]
    refine hR.take (i := 2) (oi := ?ow507_2) (v := ?vw507_2) (m' := 7) ?hw507_2 (by kernel_rfl) (by kernel_rfl) (fun _ _ _ h => h) (Or.inl ⟨?sw507_2, ?yw507_2⟩) (by assumption) ?nw507_2
    case hw507_2 => simp only [List.getElem?_toArray, List.getElem?_cons_succ, List.getElem?_cons_zero]; rfl
    case sw507_2 => rfl
    case yw507_2 => (intro w hSw; (try dsimp only at hSw); go_simp <;> with_reducible rfl)
    try simp only [Act.put, List.setIfInBounds_toArray, List.set_cons_zero, List.set_cons_succ]
    refine hR.take (i := 3) (oi := ?ow508_3) (v := ?vw508_3) (m' := 15) ?hw508_3 (by kernel_rfl) (by kernel_rfl) (fun _ _ _ h => h) (Or.inl ⟨?sw508_3, ?yw508_3⟩) (by assumption) ?nw508_3
    case hw508_3 => simp only [List.getElem?_toArray, List.getElem?_cons_succ, List.getElem?_cons_zero]; rfl
    case sw508_3 => rfl
    case yw508_3 => (intro w hSw; (try dsimp only at hSw); go_simp <;> with_reducible rfl)
    try simp only [Act.put, List.setIfInBounds_toArray, List.set_cons_zero, List.set_cons_succ]
    refine hR.come (rs := [4]) (by kernel_rfl) (by simp) ?_
    refine AllReadyH.cons (o := ?o509_4) ?h509_4 (fun K hK => ?kw509_4) AllReadyH.nil
    case h509_4 => simp only [List.getElem?_toArray, List.getElem?_cons_succ, List.getElem?_cons_zero]; rfl
    go_simp
    go_at_call 70; refine (row_who (r := r) _).mono ?_; rintro e w1 ⟨rfl, hb1⟩; have hk := bc _ _ (by (first | with_reducible assumption | (with_reducible refine Below.drew ?_; with_reducible assumption) | (with_reducible refine ba _ _ ?_; with_reducible assumption) | (with_reducible refine Below.drew ?_; with_reducible refine ba _ _ ?_; with_reducible assumption) | exact Below.refl _ _ | exact (Below.refl _ _).drew | exact (Below.refl _ _).alloc (Nat.le_refl _) _ | (refine bc _ _ (by assumption) (by assumption)))) hb1
    refine hK.out _ _ ?_ (fun hHeld => ?_)
    · (first | with_reducible assumption | (with_reducible refine Below.drew ?_; with_reducible assumption) | (with_reducible refine ba _ _ ?_; with_reducible assumption) | (with_reducible refine Below.drew ?_; with_reducible refine ba _ _ ?_; with_reducible assumption) | exact Below.refl _ _ | exact (Below.refl _ _).drew | exact (Below.refl _ _).alloc (Nat.le_refl _) _ | (refine bc _ _ (by assumption) (by assumption)))
    clear hK K
    refine RegOk.put_ (m' := 31) (by kernel_rfl) ?_
    try simp only [Act.put, List.setIfInBounds_toArray, List.set_cons_zero, List.set_cons_succ]
    refine hR.take (i := 5) (oi := ?ow510_5) (v := ?vw510_5) (m' := 63) ?hw510_5 (by kernel_rfl) (by kernel_rfl) (fun _ _ _ h => h) (Or.inl ⟨?sw510_5, ?yw510_5⟩) (by assumption) ?nw510_5
    case hw510_5 => simp only [List.getElem?_toArray, List.getElem?_cons_succ, List.getElem?_cons_zero]; rfl
    case sw510_5 => rfl
    case yw510_5 => (intro w hSw; (try dsimp only at hSw); go_simp <;> with_reducible rfl)
    try simp only [Act.put, List.setIfInBounds_toArray, List.set_cons_zero, List.set_cons_succ]
    refine hR.all (by kernel_rfl) ?_ _
    refine NoPanic.normal ?_
    go_wp2_with fail
    go_ret
    exact ⟨rfl, B0.out.trans (Below.mono (by assumption) B0.out.size)⟩
  · clear h0 h3
    go_enter Tryd.func53, Tryd.ntmps53
    go_upto_region 1 with fail
    refine wp_world (F := fun wx => Below w.heap.size w wx ∧ Hid (wx.heap[w.heap.size]? = some (.cells #[.int .i64 r.who, .int .i64 r.whn, .int .i64 r.knd, .int .i64 r.val] 47 (0, 0)))) ⟨(by repeat' (first | with_reducible exact Below.refl _ _ | with_reducible assumption | with_reducible refine Below.setCell ?_ ?_ _ | with_reducible refine Below.drew ?_ | with_reducible refine below_drewN ?_ _ | with_reducible refine Below.alloc ?_ ?_ _ | (rintro _ ⟨⟩; simp <;> omega) | omega | (simp <;> omega))), Lib.hid (heap_alloc_at rfl)⟩ ?_
    rintro wr ⟨bb, gr⟩
    have B0 := Lib.hid bb
    have zr : ∀ W, Below wr.heap.size wr W → _ ∧ _ ∧ _ ∧ _ := fun W hW => row4 (mvQ gr hW)
    have br : Below wr.heap.size wr wr := Below.refl _ _
    have ba : ∀ W o, Below wr.heap.size wr W → Below wr.heap.size wr (W.alloc o) := fun W o h => h.alloc h.size o
    have bc : ∀ W W', Below wr.heap.size wr W → Below W.heap.size W W' → Below wr.heap.size wr W' := fun W W' h k => h.trans (k.mono h.size)
    have ix := colIx_when
    clear bb
    refine wp_region_noPanic ?_
    refine wp_region_held_drew (S := fun X => Below wr.heap.size wr X) (by kernel_rfl) ?_ (fun hHeld => ?_)
    · (first | with_reducible assumption | (with_reducible refine Below.drew ?_; with_reducible assumption) | (with_reducible refine ba _ _ ?_; with_reducible assumption) | (with_reducible refine Below.drew ?_; with_reducible refine ba _ _ ?_; with_reducible assumption) | exact Below.refl _ _ | exact (Below.refl _ _).drew | exact (Below.refl _ _).alloc (Nat.le_refl _) _ | (refine bc _ _ (by assumption) (by assumption)))
    refine RegOk.begin_ (n := 6) (T := evCol) ⟨by kernel_rfl, by kernel_rfl, by kernel_rfl, by kernel_rfl⟩ fun hR => ?_
    refine hR.take (i := 0) (oi := ?ow511_0) (v := ?vw511_0) (m' := 1) ?hw511_0 (by kernel_rfl) (by kernel_rfl) (fun _ _ _ h => h) (Or.inl ⟨?sw511_0, ?yw511_0⟩) (by assumption) ?nw511_0
    case hw511_0 => simp only [List.getElem?_toArray, List.getElem?_cons_succ, List.getElem?_cons_zero]; rfl
    case sw511_0 => rfl
    case yw511_0 => (intro w hSw; (try dsimp only at hSw); go_simp <;> with_reducible rfl)
    try simp only [Act.put, List.setIfInBounds_toArray, List.set_cons_zero, List.set_cons_succ]
    refine hR.take (i := 1) (oi := ?ow512_1) (v := ?vw512_1) (m' := 3) ?hw512_1 (by kernel_rfl) (by kernel_rfl) (fun _ _ _ h => h) (Or.inl ⟨?sw512_1, ?yw512_1⟩) (by assumption) ?nw512_1
    case hw512_1 => simp only [List.getElem?_toArray, List.getElem?_cons_succ, List.getElem?_cons_zero]; rfl
    case sw512_1 => rfl
    case yw512_1 => (intro w hSw; (try dsimp only at hSw); go_simp <;> with_reducible rfl)
    try simp only [Act.put, List.setIfInBounds_toArray, List.set_cons_zero, List.set_cons_succ]
    refine hR.take (i := 2) (oi := ?ow513_2) (v := ?vw513_2) (m' := 7) ?hw513_2 (by kernel_rfl) (by kernel_rfl) (fun _ _ _ h => h) (Or.inl ⟨?sw513_2, ?yw513_2⟩) (by assumption) ?nw513_2
    case hw513_2 => simp only [List.getElem?_toArray, List.getElem?_cons_succ, List.getElem?_cons_zero]; rfl
    case sw513_2 => rfl
    case yw513_2 => (intro w hSw; (try dsimp only at hSw); go_simp <;> with_reducible rfl)
    try simp only [Act.put, List.setIfInBounds_toArray, List.set_cons_zero, List.set_cons_succ]
    refine hR.take (i := 3) (oi := ?ow514_3) (v := ?vw514_3) (m' := 15) ?hw514_3 (by kernel_rfl) (by kernel_rfl) (fun _ _ _ h => h) (Or.inl ⟨?sw514_3, ?yw514_3⟩) (by assumption) ?nw514_3
    case hw514_3 => simp only [List.getElem?_toArray, List.getElem?_cons_succ, List.getElem?_cons_zero]; rfl
    case sw514_3 => rfl
    case yw514_3 => (intro w hSw; (try dsimp only at hSw); go_simp <;> with_reducible rfl)
    try simp only [Act.put, List.setIfInBounds_toArray, List.set_cons_zero, List.set_cons_succ]
    refine hR.come (rs := [4]) (by kernel_rfl) (by simp) ?_
    refine AllReadyH.cons (o := ?o515_4) ?h515_4 (fun K hK => ?kw515_4) AllReadyH.nil
    case h515_4 => simp only [List.getElem?_toArray, List.getElem?_cons_succ, List.getElem?_cons_zero]; rfl
    go_simp
    go_at_call 71; refine (row_when (r := r) _).mono ?_; rintro e w1 ⟨rfl, hb1⟩; have hk := bc _ _ (by (first | with_reducible assumption | (with_reducible refine Below.drew ?_; with_reducible assumption) | (with_reducible refine ba _ _ ?_; with_reducible assumption) | (with_reducible refine Below.drew ?_; with_reducible refine ba _ _ ?_; with_reducible assumption) | exact Below.refl _ _ | exact (Below.refl _ _).drew | exact (Below.refl _ _).alloc (Nat.le_refl _) _ | (refine bc _ _ (by assumption) (by assumption)))) hb1
    refine hK.out _ _ ?_ (fun hHeld => ?_)
    · (first | with_reducible assumption | (with_reducible refine Below.drew ?_; with_reducible assumption) | (with_reducible refine ba _ _ ?_; with_reducible assumption) | (with_reducible refine Below.drew ?_; with_reducible refine ba _ _ ?_; with_reducible assumption) | exact Below.refl _ _ | exact (Below.refl _ _).drew | exact (Below.refl _ _).alloc (Nat.le_refl _) _ | (refine bc _ _ (by assumption) (by assumption)))
    clear hK K
    refine RegOk.put_ (m' := 31) (by kernel_rfl) ?_
    try simp only [Act.put, List.setIfInBounds_toArray, List.set_cons_zero, List.set_cons_succ]
    refine hR.take (i := 5) (oi := ?ow516_5) (v := ?vw516_5) (m' := 63) ?hw516_5 (by kernel_rfl) (by kernel_rfl) (fun _ _ _ h => h) (Or.inl ⟨?sw516_5, ?yw516_5⟩) (by assumption) ?nw516_5
    case hw516_5 => simp only [List.getElem?_toArray, List.getElem?_cons_succ, List.getElem?_cons_zero]; rfl
    case sw516_5 => rfl
    case yw516_5 => (intro w hSw; (try dsimp only at hSw); go_simp <;> with_reducible rfl)
    try simp only [Act.put, List.setIfInBounds_toArray, List.set_cons_zero, List.set_cons_succ]
    refine hR.all (by kernel_rfl) ?_ _
    refine NoPanic.normal ?_
    go_wp2_with fail
    go_ret
    exact ⟨rfl, B0.out.trans (Below.mono (by assumption) B0.out.size)⟩
  · clear h0 h3
    go_enter Tryd.func53, Tryd.ntmps53
    go_upto_region 1 with fail
    refine wp_world (F := fun wx => Below w.heap.size w wx ∧ Hid (wx.heap[w.heap.size]? = some (.cells #[.int .i64 r.who, .int .i64 r.whn, .int .i64 r.knd, .int .i64 r.val] 47 (0, 0)))) ⟨(by repeat' (first | with_reducible exact Below.refl _ _ | with_reducible assumption | with_reducible refine Below.setCell ?_ ?_ _ | with_reducible refine Below.drew ?_ | with_reducible refine below_drewN ?_ _ | with_reducible refine Below.alloc ?_ ?_ _ | (rintro _ ⟨⟩; simp <;> omega) | omega | (simp <;> omega))), Lib.hid (heap_alloc_at rfl)⟩ ?_
    rintro wr ⟨bb, gr⟩
    have B0 := Lib.hid bb
    have zr : ∀ W, Below wr.heap.size wr W → _ ∧ _ ∧ _ ∧ _ := fun W hW => row4 (mvQ gr hW)
    have br : Below wr.heap.size wr wr := Below.refl _ _
    have ba : ∀ W o, Below wr.heap.size wr W → Below wr.heap.size wr (W.alloc o) := fun W o h => h.alloc h.size o
    have bc : ∀ W W', Below wr.heap.size wr W → Below W.heap.size W W' → Below wr.heap.size wr W' := fun W W' h k => h.trans (k.mono h.size)
    have ix := colIx_kind
    clear bb
    refine wp_region_noPanic ?_
    refine wp_region_held_drew (S := fun X => Below wr.heap.size wr X) (by kernel_rfl) ?_ (fun hHeld => ?_)
    · (first | with_reducible assumption | (with_reducible refine Below.drew ?_; with_reducible assumption) | (with_reducible refine ba _ _ ?_; with_reducible assumption) | (with_reducible refine Below.drew ?_; with_reducible refine ba _ _ ?_; with_reducible assumption) | exact Below.refl _ _ | exact (Below.refl _ _).drew | exact (Below.refl _ _).alloc (Nat.le_refl _) _ | (refine bc _ _ (by assumption) (by assumption)))
    refine RegOk.begin_ (n := 6) (T := evCol) ⟨by kernel_rfl, by kernel_rfl, by kernel_rfl, by kernel_rfl⟩ fun hR => ?_
    refine hR.take (i := 0) (oi := ?ow517_0) (v := ?vw517_0) (m' := 1) ?hw517_0 (by kernel_rfl) (by kernel_rfl) (fun _ _ _ h => h) (Or.inl ⟨?sw517_0, ?yw517_0⟩) (by assumption) ?nw517_0
    case hw517_0 => simp only [List.getElem?_toArray, List.getElem?_cons_succ, List.getElem?_cons_zero]; rfl
    case sw517_0 => rfl
    case yw517_0 => (intro w hSw; (try dsimp only at hSw); go_simp <;> with_reducible rfl)
    try simp only [Act.put, List.setIfInBounds_toArray, List.set_cons_zero, List.set_cons_succ]
    refine hR.take (i := 1) (oi := ?ow518_1) (v := ?vw518_1) (m' := 3) ?hw518_1 (by kernel_rfl) (by kernel_rfl) (fun _ _ _ h => h) (Or.inl ⟨?sw518_1, ?yw518_1⟩) (by assumption) ?nw518_1
    case hw518_1 => simp only [List.getElem?_toArray, List.getElem?_cons_succ, List.getElem?_cons_zero]; rfl
    case sw518_1 => rfl
    case yw518_1 => (intro w hSw; (try dsimp only at hSw); go_simp <;> with_reducible rfl)
    try simp only [Act.put, List.setIfInBounds_toArray, List.set_cons_zero, List.set_cons_succ]
    refine hR.take (i := 2) (oi := ?ow519_2) (v := ?vw519_2) (m' := 7) ?hw519_2 (by kernel_rfl) (by kernel_rfl) (fun _ _ _ h => h) (Or.inl ⟨?sw519_2, ?yw519_2⟩) (by assumption) ?nw519_2
    case hw519_2 => simp only [List.getElem?_toArray, List.getElem?_cons_succ, List.getElem?_cons_zero]; rfl
    case sw519_2 => rfl
    case yw519_2 => (intro w hSw; (try dsimp only at hSw); go_simp <;> with_reducible rfl)
    try simp only [Act.put, List.setIfInBounds_toArray, List.set_cons_zero, List.set_cons_succ]
    refine hR.take (i := 3) (oi := ?ow520_3) (v := ?vw520_3) (m' := 15) ?hw520_3 (by kernel_rfl) (by kernel_rfl) (fun _ _ _ h => h) (Or.inl ⟨?sw520_3, ?yw520_3⟩) (by assumption) ?nw520_3
    case hw520_3 => simp only [List.getElem?_toArray, List.getElem?_cons_succ, List.getElem?_cons_zero]; rfl
    case sw520_3 => rfl
    case yw520_3 => (intro w hSw; (try dsimp only at hSw); go_simp <;> with_reducible rfl)
    try simp only [Act.put, List.setIfInBounds_toArray, List.set_cons_zero, List.set_cons_succ]
    refine hR.come (rs := [4]) (by kernel_rfl) (by simp) ?_
    refine AllReadyH.cons (o := ?o521_4) ?h521_4 (fun K hK => ?kw521_4) AllReadyH.nil
    case h521_4 => simp only [List.getElem?_toArray, List.getElem?_cons_succ, List.getElem?_cons_zero]; rfl
    go_simp
    go_at_call 72; refine (row_kind (r := r) _).mono ?_; rintro e w1 ⟨rfl, hb1⟩; have hk := bc _ _ (by (first | with_reducible assumption | (with_reducible refine Below.drew ?_; with_reducible assumption) | (with_reducible refine ba _ _ ?_; with_reducible assumption) | (with_reducible refine Below.drew ?_; with_reducible refine ba _ _ ?_; with_reducible assumption) | exact Below.refl _ _ | exact (Below.refl _ _).drew | exact (Below.refl _ _).alloc (Nat.le_refl _) _ | (refine bc _ _ (by assumption) (by assumption)))) hb1
    refine hK.out _ _ ?_ (fun hHeld => ?_)
    · (first | with_reducible assumption | (with_reducible refine Below.drew ?_; with_reducible assumption) | (with_reducible refine ba _ _ ?_; with_reducible assumption) | (with_reducible refine Below.drew ?_; with_reducible refine ba _ _ ?_; with_reducible assumption) | exact Below.refl _ _ | exact (Below.refl _ _).drew | exact (Below.refl _ _).alloc (Nat.le_refl _) _ | (refine bc _ _ (by assumption) (by assumption)))
    clear hK K
    refine RegOk.put_ (m' := 31) (by kernel_rfl) ?_
    try simp only [Act.put, List.setIfInBounds_toArray, List.set_cons_zero, List.set_cons_succ]
    refine hR.take (i := 5) (oi := ?ow522_5) (v := ?vw522_5) (m' := 63) ?hw522_5 (by kernel_rfl) (by kernel_rfl) (fun _ _ _ h => h) (Or.inl ⟨?sw522_5, ?yw522_5⟩) (by assumption) ?nw522_5
    case hw522_5 => simp only [List.getElem?_toArray, List.getElem?_cons_succ, List.getElem?_cons_zero]; rfl
    case sw522_5 => rfl
    case yw522_5 => (intro w hSw; (try dsimp only at hSw); go_simp <;> with_reducible rfl)
    try simp only [Act.put, List.setIfInBounds_toArray, List.set_cons_zero, List.set_cons_succ]
    refine hR.all (by kernel_rfl) ?_ _
    refine NoPanic.normal ?_
    go_wp2_with fail
    go_ret
    exact ⟨rfl, B0.out.trans (Below.mono (by assumption) B0.out.size)⟩
  · clear h0 h3
    go_enter Tryd.func53, Tryd.ntmps53
    go_upto_region 1 with fail
    refine wp_world (F := fun wx => Below w.heap.size w wx ∧ Hid (wx.heap[w.heap.size]? = some (.cells #[.int .i64 r.who, .int .i64 r.whn, .int .i64 r.knd, .int .i64 r.val] 47 (0, 0)))) ⟨(by repeat' (first | with_reducible exact Below.refl _ _ | with_reducible assumption | with_reducible refine Below.setCell ?_ ?_ _ | with_reducible refine Below.drew ?_ | with_reducible refine below_drewN ?_ _ | with_reducible refine Below.alloc ?_ ?_ _ | (rintro _ ⟨⟩; simp <;> omega) | omega | (simp <;> omega))), Lib.hid (heap_alloc_at rfl)⟩ ?_
    rintro wr ⟨bb, gr⟩
    have B0 := Lib.hid bb
    have zr : ∀ W, Below wr.heap.size wr W → _ ∧ _ ∧ _ ∧ _ := fun W hW => row4 (mvQ gr hW)
    have br : Below wr.heap.size wr wr := Below.refl _ _
    have ba : ∀ W o, Below wr.heap.size wr W → Below wr.heap.size wr (W.alloc o) := fun W o h => h.alloc h.size o
    have bc : ∀ W W', Below wr.heap.size wr W → Below W.heap.size W W' → Below wr.heap.size wr W' := fun W W' h k => h.trans (k.mono h.size)
    have ix := colIx_value
    clear bb
    refine wp_region_noPanic ?_
    refine wp_region_held_drew (S := fun X => Below wr.heap.size wr X) (by kernel_rfl) ?_ (fun hHeld => ?_)
    · (first | with_reducible assumption | (with_reducible refine Below.drew ?_; with_reducible assumption) | (with_reducible refine ba _ _ ?_; with_reducible assumption) | (with_reducible refine Below.drew ?_; with_reducible refine ba _ _ ?_; with_reducible assumption) | exact Below.refl _ _ | exact (Below.refl _ _).drew | exact (Below.refl _ _).alloc (Nat.le_refl _) _ | (refine bc _ _ (by assumption) (by assumption)))
    refine RegOk.begin_ (n := 6) (T := evCol) ⟨by kernel_rfl, by kernel_rfl, by kernel_rfl, by kernel_rfl⟩ fun hR => ?_
    refine hR.take (i := 0) (oi := ?ow523_0) (v := ?vw523_0) (m' := 1) ?hw523_0 (by kernel_rfl) (by kernel_rfl) (fun _ _ _ h => h) (Or.inl ⟨?sw523_0, ?yw523_0⟩) (by assumption) ?nw523_0
    case hw523_0 => simp only [List.getElem?_toArray, List.getElem?_cons_succ, List.getElem?_cons_zero]; rfl
    case sw523_0 => rfl
    case yw523_0 => (intro w hSw; (try dsimp only at hSw); go_simp <;> with_reducible rfl)
    try simp only [Act.put, List.setIfInBounds_toArray, List.set_cons_zero, List.set_cons_succ]
    refine hR.take (i := 1) (oi := ?ow524_1) (v := ?vw524_1) (m' := 3) ?hw524_1 (by kernel_rfl) (by kernel_rfl) (fun _ _ _ h => h) (Or.inl ⟨?sw524_1, ?yw524_1⟩) (by assumption) ?nw524_1
    case hw524_1 => simp only [List.getElem?_toArray, List.getElem?_cons_succ, List.getElem?_cons_zero]; rfl
    case sw524_1 => rfl
    case yw524_1 => (intro w hSw; (try dsimp only at hSw); go_simp <;> with_reducible rfl)
    try simp only [Act.put, List.setIfInBounds_toArray, List.set_cons_zero, List.set_cons_succ]
    refine hR.take (i := 2) (oi := ?ow525_2) (v := ?vw525_2) (m' := 7) ?hw525_2 (by kernel_rfl) (by kernel_rfl) (fun _ _ _ h => h) (Or.inl ⟨?sw525_2, ?yw525_2⟩) (by assumption) ?nw525_2
    case hw525_2 => simp only [List.getElem?_toArray, List.getElem?_cons_succ, List.getElem?_cons_zero]; rfl
    case sw525_2 => rfl
    case yw525_2 => (intro w hSw; (try dsimp only at hSw); go_simp <;> with_reducible rfl)
    try simp only [Act.put, List.setIfInBounds_toArray, List.set_cons_zero, List.set_cons_succ]
    refine hR.take (i := 3) (oi := ?ow526_3) (v := ?vw526_3) (m' := 15) ?hw526_3 (by kernel_rfl) (by kernel_rfl) (fun _ _ _ h => h) (Or.inl ⟨?sw526_3, ?yw526_3⟩) (by assumption) ?nw526_3
    case hw526_3 => simp only [List.getElem?_toArray, List.getElem?_cons_succ, List.getElem?_cons_zero]; rfl
    case sw526_3 => rfl
    case yw526_3 => (intro w hSw; (try dsimp only at hSw); go_simp <;> with_reducible rfl)
    try simp only [Act.put, List.setIfInBounds_toArray, List.set_cons_zero, List.set_cons_succ]
    refine hR.come (rs := [4]) (by kernel_rfl) (by simp) ?_
    refine AllReadyH.cons (o := ?o527_4) ?h527_4 (fun K hK => ?kw527_4) AllReadyH.nil
    case h527_4 => simp only [List.getElem?_toArray, List.getElem?_cons_succ, List.getElem?_cons_zero]; rfl
    go_simp
    go_at_call 73; refine (row_value (r := r) _).mono ?_; rintro e w1 ⟨rfl, hb1⟩; have hk := bc _ _ (by (first | with_reducible assumption | (with_reducible refine Below.drew ?_; with_reducible assumption) | (with_reducible refine ba _ _ ?_; with_reducible assumption) | (with_reducible refine Below.drew ?_; with_reducible refine ba _ _ ?_; with_reducible assumption) | exact Below.refl _ _ | exact (Below.refl _ _).drew | exact (Below.refl _ _).alloc (Nat.le_refl _) _ | (refine bc _ _ (by assumption) (by assumption)))) hb1
    refine hK.out _ _ ?_ (fun hHeld => ?_)
    · (first | with_reducible assumption | (with_reducible refine Below.drew ?_; with_reducible assumption) | (with_reducible refine ba _ _ ?_; with_reducible assumption) | (with_reducible refine Below.drew ?_; with_reducible refine ba _ _ ?_; with_reducible assumption) | exact Below.refl _ _ | exact (Below.refl _ _).drew | exact (Below.refl _ _).alloc (Nat.le_refl _) _ | (refine bc _ _ (by assumption) (by assumption)))
    clear hK K
    refine RegOk.put_ (m' := 31) (by kernel_rfl) ?_
    try simp only [Act.put, List.setIfInBounds_toArray, List.set_cons_zero, List.set_cons_succ]
    refine hR.take (i := 5) (oi := ?ow528_5) (v := ?vw528_5) (m' := 63) ?hw528_5 (by kernel_rfl) (by kernel_rfl) (fun _ _ _ h => h) (Or.inl ⟨?sw528_5, ?yw528_5⟩) (by assumption) ?nw528_5
    case hw528_5 => simp only [List.getElem?_toArray, List.getElem?_cons_succ, List.getElem?_cons_zero]; rfl
    case sw528_5 => rfl
    case yw528_5 => (intro w hSw; (try dsimp only at hSw); go_simp <;> with_reducible rfl)
    try simp only [Act.put, List.setIfInBounds_toArray, List.set_cons_zero, List.set_cons_succ]
    refine hR.all (by kernel_rfl) ?_ _
    refine NoPanic.normal ?_
    go_wp2_with fail
    go_ret
    exact ⟨rfl, B0.out.trans (Below.mono (by assumption) B0.out.size)⟩
theorem powerE {v : Int} {k : Nat} (w : World) (h0 : 0 ≤ v) (h1 : v ≤ 255) (hk : k ≤ 6) : Calls Tryd.prog 55 #[.int .i64 v, .int .i64 k] w fun e w' => e = .returned (.int .i64 (v ^ k)) ∧ w = w' := by
  go_enter Tryd.func55, Tryd.ntmps55
  go_wp2_with fail
  go_loop [5, 7] (fun p i => ∃ j : Nat, j ≤ k ∧ i = .int .i64 j ∧ p = .int .i64 (v ^ j)) (fun _ i => k - (intOf i).toNat)
  case atStart => exact ⟨0, Nat.zero_le _, rfl, by simp⟩
  case round =>
    obtain ⟨j, hj, rfl, rfl⟩ := hrel
    by_cases hlt : j < k
    · have hj1 : (j : Int) < (k : Int) := by omega
      have hp := pow_le_6 h0 h1 (k := j + 1) (by omega)
      have hw : IntKind.i64.wrap (v ^ j * v) = v ^ (j + 1) := by rw [show v ^ j * v = v ^ (j + 1) from (Int.pow_succ v j).symm]; exact IntWalk.i64_in _ (by omega)
      clear hp
      go_wp2_with fail
      go_round
      case rel => exact ⟨j + 1, by omega, by go_num, by first | rfl | rw [hw]⟩
      case measure => simp [intOf]; omega
    · have hj1 : ¬ (j : Int) < (k : Int) := by omega
      obtain rfl : j = k := by omega
      go_wp2_with fail
      go_ret
      exact ⟨rfl, rfl⟩
end Go.Proofs.YtmkpaolbejlodaaDoor
namespace Go.Proofs.YtmkpaolbejlodaaDoor
open Go.RowKit

/-- All blocks but k stand as they stood; memory may be made. -/
structure Gk (k : Nat) (w w' : World) : Prop where
  g : w.grownBy w' (some k)
section
variable {k : Nat} {w X Y : World}
theorem Gk.refl (k : Nat) (w : World) : Gk k w w := ⟨World.grownBy.refl _ _⟩
theorem Gk.drew (h : Gk k w X) : Gk k w X.drew := ⟨⟨h.g.os, h.g.tape, h.g.output, h.g.size, h.g.block⟩⟩
theorem Gk.drewN (h : Gk k w X) (n : Nat) : Gk k w (X.drewN n) := ⟨⟨h.g.os, h.g.tape, h.g.output, h.g.size, h.g.block⟩⟩
theorem Gk.set (h : Gk k w X) (i : Nat) (u : Value) : Gk k w (X.setCell ⟨k, i, none⟩ u) := ⟨grown_set h.g i u⟩
theorem Gk.call (h : Gk k w X) (hb : Below X.heap.size X Y) : Gk k w Y :=
  ⟨⟨hb.os.trans h.g.os, hb.tape.trans h.g.tape, hb.output.trans h.g.output, Nat.le_trans h.g.size hb.size, fun b hl hn => (hb.block b (Nat.lt_of_lt_of_le hl h.g.size)).trans (h.g.block b hl hn)⟩⟩
theorem Gk.alloc (h : Gk k w X) (o : Obj) : Gk k w (X.alloc o) := h.call ((Below.refl _ _).alloc (Nat.le_refl _) _)
theorem Gk.ofBelow (h : Below w.heap.size w X) : Gk k w X := (Gk.refl k w).call h
theorem Gk.trans {Z : World} (h : Gk k w X) (h' : Gk k X Z) : Gk k w Z :=
  ⟨⟨h'.g.os.trans h.g.os, h'.g.tape.trans h.g.tape, h'.g.output.trans h.g.output, Nat.le_trans h.g.size h'.g.size, fun b hl hn => (h'.g.block b (Nat.lt_of_lt_of_le hl h.g.size) hn).trans (h.g.block b hl hn)⟩⟩
theorem Gk.row {b : Nat} {o : Obj} (h : Gk k w X) (hb : w.heap[b]? = some o) (hne : b ≠ k) : X.heap[b]? = some o := (h.g.block b (heap_lt hb) (by intro e; injection e with e; exact hne e)).trans hb
theorem Gk.below {N : Nat} {w0 : World} (h : Gk k w X) (hb : Below N w0 w) (hk : N ≤ k) (hN : N ≤ w.heap.size) : Below N w0 X := hb.grown h.g hN (fun j hj => by injection hj with hj; omega)
theorem Gk.slKeep {α : Type} {E : Enc α} {S : Nat → Prop} {A : Option Addr} {c : Nat} {xs : List α} (h : Gk k w X) (hs : Sl E S w A c xs) (hS : ¬ S k) : Sl E S X A c xs :=
  hs.keep ((Agree.refl _ _).grown h.g (by rintro _ ⟨⟩; exact hS))
end
end Go.Proofs.YtmkpaolbejlodaaDoor
