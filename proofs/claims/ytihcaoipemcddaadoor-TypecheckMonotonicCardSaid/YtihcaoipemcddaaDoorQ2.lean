/-
  Contracts of the queries (XQ2): filters of the program and of the reference; the program's table of forms.
-/
import Derived.Test.YtihcaoipemcddaaDoorQ1
namespace Go.Proofs.YtihcaoipemcddaaDoor
open Go.RowKit

theorem valid1P (c : Cd) (w : World) : Calls Tryd.prog 43 #[(.agg #[.int .i64 c.col, .int .i64 c.lo, .int .i64 c.hi])] w fun e w' => e = .returned (.bool (!validCdB c)) ∧ Below w.heap.size w w' := by
  go_enter Tryd.func43, Tryd.ntmps43
  go_wp2_with (go_at_call 44; refine (validCondP c _).mono ?_; rintro e w1 ⟨rfl, hb1⟩)
  go_ret
  exact ⟨rfl, ((Below.refl _ _).alloc (Nat.le_refl _) _).trans (hb1.mono (by simp))⟩
/-- A number that is not below 0 just where b holds; memory may be made. -/
def SignB (b : Bool) (w : World) (e : Ending) (w' : World) : Prop := ∃ z : Int, e = .returned (.int .i64 z) ∧ decide (0 ≤ z) = b ∧ Below w.heap.size w w'
def badFlt (l : List Cd) : Bool := l.any fun c => !validCdB c
theorem indexC {l : List Cd} {A : Option Addr} {c : Nat} {S : Nat → Prop} (w : World) (h : Sl cdE S w A c l) :
    Calls Tryd.prog 54 #[.slice A l.length c, .func (.func 43) #[] #[]] w (SignB (badFlt l) w) := by
  have hm := h.max
  have H := Lib.hid h
  clear h
  go_enter Tryd.func54, Tryd.ntmps54
  go_wp2_with fail
  go_loopw [8] (fun i wr => ∃ j : Nat, j ≤ l.length ∧ i = .int .i64 j ∧ badFlt (l.take j) = false ∧ Below w.heap.size w wr) (fun i _ => l.length - (intOf i).toNat)
  case atStart => exact ⟨0, Nat.zero_le _, rfl, rfl, Below.refl _ _⟩
  case round =>
    obtain ⟨j, hj, rfl, hb, bb⟩ := hrel
    have Hb := Lib.hid hb
    have B0 := Lib.hid bb
    clear hb
    by_cases hlt : j < l.length
    · obtain ⟨x, hx⟩ : ∃ x, l[j]? = some x := ⟨_, List.getElem?_eq_getElem hlt⟩
      obtain ⟨b1, o1, rfl, -, hb1, x0, x1, x2⟩ := cd_at (H.out.keep (Below.agree bb)) hx
      have hj0 : (0 : Int) ≤ (j : Int) := by omega
      have hj1 : (j : Int) < (l.length : Int) := by omega
      have hs : badFlt (l.take (j + 1)) = (badFlt (l.take j) || !validCdB x) := by rw [take_snocR hx]; simp [badFlt]
      have Hs := Lib.hid hs
      have Hx := Lib.hid hx
      clear hs hx bb
      cases hok : validCdB x with
      | true =>
        have Hok := Lib.hid hok
        clear hok
        go_wp2_with (go_at_call 43; refine (valid1P x _).mono ?_; rw [Hok.out]; rintro e w2 ⟨rfl, hb2⟩)
        go_roundw
        case rel => exact ⟨j + 1, by omega, by go_num, by rw [Hs.out, Hb.out, Hok.out]; rfl, B0.out.trans (hb2.mono B0.out.size)⟩
        case measure => simp [intOf]; omega
      | false =>
        have Hok := Lib.hid hok
        clear hok
        go_wp2_with (go_at_call 43; refine (valid1P x _).mono ?_; rw [Hok.out]; rintro e w2 ⟨rfl, hb2⟩)
        go_ret
        refine ⟨j, rfl, ?_, B0.out.trans (hb2.mono B0.out.size)⟩
        have : badFlt l = true := List.any_eq_true.2 ⟨x, List.mem_of_getElem? Hx.out, by simp [Hok.out]⟩
        rw [this]; simp
    · have hj1 : ¬ (j : Int) < (l.length : Int) := by omega
      clear bb
      go_wp2_with fail
      go_ret
      refine ⟨-1, rfl, ?_, B0.out⟩
      have := Hb.out
      rw [List.take_of_length_le (by omega)] at this
      rw [this]; rfl
theorem containsC {l : List Cd} {A : Option Addr} {c : Nat} {S : Nat → Prop} (w : World) (h : Sl cdE S w A c l) :
    Calls Tryd.prog 42 #[.slice A l.length c, .func (.func 43) #[] #[]] w fun e w' => e = .returned (.bool (badFlt l)) ∧ Below w.heap.size w w' := by
  have H := Lib.hid h
  clear h
  go_enter Tryd.func42, Tryd.ntmps42
  go_wp2_with (go_at_call 54; refine (indexC _ H.out).mono ?_; rintro e w2 ⟨z, rfl, hz, hb2⟩)
  go_ret
  exact ⟨rfl, hb2⟩
theorem badFlt_valid (l : List Cd) : badFlt l = !(l.all validCdB) := by
  unfold badFlt
  induction l with
  | nil => rfl
  | cons c l ih => simp only [List.any_cons, List.all_cons, ih, Bool.not_and]

end Go.Proofs.YtihcaoipemcddaaDoor
