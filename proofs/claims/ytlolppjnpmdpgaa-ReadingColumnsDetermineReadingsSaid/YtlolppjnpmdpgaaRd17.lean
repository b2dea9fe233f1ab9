/-
  Contracts of the readings (XRd17): what Table asks of its columns.
-/
import Derived.Test.YtlolppjnpmdpgaaRd16
namespace Go.Proofs.Ytlolppjnpmdpgaa
open Go.RowKit

/-- An element of the field. -/
def okB (x : Int) : Bool := decide (x < 18446744069414584321)
def badC (l : List Int) : Bool := l.any fun x => !okB x

theorem fieldValid (x : Int) (w : World) : Calls Try.prog 53 #[.int .u64 x] w fun e w' => e = .returned (.bool (okB x)) ∧ w = w' := by
  go_enter Try.func53, Try.ntmps53
  go_wp2_with fail
  go_ret
  exact ⟨rfl, rfl⟩
theorem refValid (x : Int) (w : World) : Calls Try.prog 41 #[.int .u64 x] w fun e w' => e = .returned (.bool (okB x)) ∧ w = w' := by
  go_enter Try.func41, Try.ntmps41
  go_wp2_with fail
  go_ret
  exact ⟨rfl, rfl⟩
theorem table1 (x : Int) (w : World) : Calls Try.prog 52 #[.int .u64 x] w fun e w' => e = .returned (.bool (!okB x)) ∧ w = w' := by
  go_enter Try.func52, Try.ntmps52
  go_wp2_with (go_at_call 53; refine (fieldValid x _).mono ?_; rintro e w2 ⟨rfl, rfl⟩)
  go_ret
  exact ⟨rfl, rfl⟩

/-- A number that is not below 0 just where b holds. -/
def SignRes (b : Bool) (w : World) (e : Ending) (w' : World) : Prop := ∃ z : Int, e = .returned (.int .i64 z) ∧ decide (0 ≤ z) = b ∧ w = w'
theorem indexU {l : List Int} {A : Option Addr} {c : Nat} {S : Nat → Prop} (w : World) (h : Sl .u64 S w A c l) :
    Calls Try.prog 68 #[.slice A l.length c, .func (.func 52) #[] #[]] w (SignRes (badC l) w) := by
  have hm := h.max
  have H := Lib.hid h
  clear h
  go_enter Try.func68, Try.ntmps68
  go_wp2_with fail
  go_loop [8] (fun i => ∃ j : Nat, j ≤ l.length ∧ i = .int .i64 j ∧ badC (l.take j) = false) (fun i => l.length - (intOf i).toNat)
  case atStart => exact ⟨0, Nat.zero_le _, rfl, rfl⟩
  case round =>
    obtain ⟨j, hj, rfl, hb⟩ := hrel
    have Hb := Lib.hid hb
    clear hb
    by_cases hlt : j < l.length
    · obtain ⟨x, hx⟩ : ∃ x, l[j]? = some x := ⟨_, List.getElem?_eq_getElem hlt⟩
      obtain ⟨b1, o1, rfl, -, hb1, x0⟩ := u64_at H.out hx
      have hj0 : (0 : Int) ≤ (j : Int) := by omega
      have hj1 : (j : Int) < (l.length : Int) := by omega
      have hs : badC (l.take (j + 1)) = (badC (l.take j) || !okB x) := by rw [take_snocR hx]; simp [badC]
      have Hs := Lib.hid hs
      have Hx := Lib.hid hx
      clear hs hx
      cases hok : okB x with
      | true =>
        go_wp2_with (go_at_call 52; refine (table1 x _).mono ?_; rw [hok]; rintro e w2 ⟨rfl, rfl⟩)
        go_round
        case rel => exact ⟨j + 1, by omega, by go_num, by rw [Hs.out, Hb.out, hok]; rfl⟩
        case measure => simp [intOf]; omega
      | false =>
        go_wp2_with (go_at_call 52; refine (table1 x _).mono ?_; rw [hok]; rintro e w2 ⟨rfl, rfl⟩)
        go_ret
        refine ⟨j, rfl, ?_, rfl⟩
        have : badC l = true := List.any_eq_true.2 ⟨x, List.mem_of_getElem? Hx.out, by simp [hok]⟩
        rw [this]; simp
    · have hj1 : ¬ (j : Int) < (l.length : Int) := by omega
      go_wp2_with fail
      go_ret
      refine ⟨-1, rfl, ?_, rfl⟩
      have := Hb.out
      rw [List.take_of_length_le (by omega)] at this
      rw [this]; rfl
theorem containsU {l : List Int} {A : Option Addr} {c : Nat} {S : Nat → Prop} (w : World) (h : Sl .u64 S w A c l) :
    Calls Try.prog 55 #[.slice A l.length c, .func (.func 52) #[] #[]] w fun e w' => e = .returned (.bool (badC l)) ∧ w = w' := by
  have H := Lib.hid h
  clear h
  go_enter Try.func55, Try.ntmps55
  go_wp2_with (go_at_call 68; refine (indexU _ H.out).mono ?_; rintro e w2 ⟨z, rfl, hz, rfl⟩)
  go_ret
  exact ⟨rfl, rfl⟩

/-- A column that Table refuses. -/
def badCol (n : Nat) (l : List Int) : Bool := decide (l.length ≠ n) || badC l
theorem table2 {l : List Int} {A : Option Addr} {c n p q : Nat} {S : Nat → Prop} (w : World) (h : Sl .u64 S w A c l) (hp : w.cell? ⟨p, 0, none⟩ = some (.int .i64 n)) (hq : w.cell? ⟨q, 0, none⟩ = some (.func (.func 52) #[] #[])) :
    Calls Try.prog 54 #[.slice A l.length c, .pointer (some ⟨p, 0, none⟩), .pointer (some ⟨q, 0, none⟩)] w fun e w' => e = .returned (.bool (badCol n l)) ∧ w = w' := by
  have H := Lib.hid h
  clear h
  by_cases hl : l.length = n
  · have h1 : ((l.length : Int) != (n : Int)) = false := by simp [hl]
    have Hl := Lib.hid hl
    clear hl
    go_enter Try.func54, Try.ntmps54
    go_wp2_with (go_at_call 55; refine (containsU _ H.out).mono ?_; rintro e w2 ⟨rfl, rfl⟩)
    go_ret
    exact ⟨ret_bool (by simp [badCol, Hl.out]), rfl⟩
  · have h1 : ((l.length : Int) != (n : Int)) = true := by simp; omega
    have Hl := Lib.hid hl
    clear hl
    go_enter Try.func54, Try.ntmps54
    go_wp2_with fail
    go_ret
    exact ⟨ret_bool (by simp [badCol, Hl.out]), rfl⟩
theorem indexCs {l : List (List Int)} {A : Option Addr} {c n p q : Nat} {S : Nat → Prop} (w : World) (h : Sl Enc.u64.slice S w A c l) (hp : w.cell? ⟨p, 0, none⟩ = some (.int .i64 n)) (hq : w.cell? ⟨q, 0, none⟩ = some (.func (.func 52) #[] #[])) :
    Calls Try.prog 69 #[.slice A l.length c, .func (.func 54) #[] #[.pointer (some ⟨p, 0, none⟩), .pointer (some ⟨q, 0, none⟩)]] w (SignRes (l.any (badCol n)) w) := by
  have hm := h.max
  have H := Lib.hid h
  have HP := Lib.hid hp
  have HQ := Lib.hid hq
  clear h hp hq
  go_enter Try.func69, Try.ntmps69
  go_wp2_with fail
  go_loop [8] (fun i => ∃ j : Nat, j ≤ l.length ∧ i = .int .i64 j ∧ (l.take j).any (badCol n) = false) (fun i => l.length - (intOf i).toNat)
  case atStart => exact ⟨0, Nat.zero_le _, rfl, rfl⟩
  case round =>
    obtain ⟨j, hj, rfl, hb⟩ := hrel
    have Hb := Lib.hid hb
    clear hb
    by_cases hlt : j < l.length
    · obtain ⟨x, hx⟩ : ∃ x, l[j]? = some x := ⟨_, List.getElem?_eq_getElem hlt⟩
      obtain ⟨b1, o1, B1, d1, rfl, -, hb1, x0, hs1⟩ := col_at H.out hx
      have Hs1 := Lib.hid hs1
      have hj0 : (0 : Int) ≤ (j : Int) := by omega
      have hj1 : (j : Int) < (l.length : Int) := by omega
      have hs : (l.take (j + 1)).any (badCol n) = ((l.take j).any (badCol n) || badCol n x) := by rw [take_snocR hx]; simp
      have Hs := Lib.hid hs
      have Hx := Lib.hid hx
      clear hs hx hs1
      cases hok : badCol n x with
      | false =>
        have Hok := Lib.hid hok
        clear hok
        go_wp2_with (go_at_call 54; refine (table2 _ Hs1.out HP.out HQ.out).mono ?_; rw [Hok.out]; rintro e w2 ⟨rfl, rfl⟩)
        go_round
        case rel => exact ⟨j + 1, by omega, by go_num, by rw [Hs.out, Hb.out, Hok.out]; rfl⟩
        case measure => simp [intOf]; omega
      | true =>
        have Hok := Lib.hid hok
        clear hok
        go_wp2_with (go_at_call 54; refine (table2 _ Hs1.out HP.out HQ.out).mono ?_; rw [Hok.out]; rintro e w2 ⟨rfl, rfl⟩)
        go_ret
        refine ⟨j, rfl, ?_, rfl⟩
        have : l.any (badCol n) = true := List.any_eq_true.2 ⟨x, List.mem_of_getElem? Hx.out, Hok.out⟩
        rw [this]; simp
    · have hj1 : ¬ (j : Int) < (l.length : Int) := by omega
      go_wp2_with fail
      go_ret
      refine ⟨-1, rfl, ?_, rfl⟩
      have := Hb.out
      rw [List.take_of_length_le (by omega)] at this
      rw [this]; rfl
theorem containsCs {l : List (List Int)} {A : Option Addr} {c n p q : Nat} {S : Nat → Prop} (w : World) (h : Sl Enc.u64.slice S w A c l) (hp : w.cell? ⟨p, 0, none⟩ = some (.int .i64 n)) (hq : w.cell? ⟨q, 0, none⟩ = some (.func (.func 52) #[] #[])) :
    Calls Try.prog 56 #[.slice A l.length c, .func (.func 54) #[] #[.pointer (some ⟨p, 0, none⟩), .pointer (some ⟨q, 0, none⟩)]] w fun e w' => e = .returned (.bool (l.any (badCol n))) ∧ w = w' := by
  have H := Lib.hid h
  have HP := Lib.hid hp
  have HQ := Lib.hid hq
  clear h hp hq
  go_enter Try.func56, Try.ntmps56
  go_wp2_with (go_at_call 69; refine (indexCs _ H.out HP.out HQ.out).mono ?_; rintro e w2 ⟨z, rfl, hz, rfl⟩)
  go_ret
  exact ⟨rfl, rfl⟩
end Go.Proofs.Ytlolppjnpmdpgaa
