/-
  Texts of this claim, merged: Rd17, Rd18, Rd20, Reg, Fast. Conditions: as each theorem says.
-/
import Derived.WalkKit
import Derived.Deep.RegionHeld3
import Derived.Test.YtpdblgchfkcgpaaV1
import Derived.Test.YtpdblgchfkcgpaaV2
import Derived.Test.YtpdblgchfkcgpaaV3
import Derived.Test.YtpdblgchfkcgpaaV4
import Derived.Test.YtpdblgchfkcgpaaV5
import Derived.Test.YtpdblgchfkcgpaaV6
set_option linter.unusedSimpArgs false
set_option linter.unusedVariables false
namespace Go.Proofs.Ytpdblgchfkcgpaa
open Go.RowKit

/-- An element of the field. -/
def okB (x : Int) : Bool := decide (x < 18446744069414584321)
def badC (l : List Int) : Bool := l.any fun x => !okB x

theorem fieldValid (x : Int) (w : World) : Calls Try.prog 31 #[.int .u64 x] w fun e w' => e = .returned (.bool (okB x)) ∧ w = w' := by
  go_enter Try.func31, Try.ntmps31
  go_wp2_with fail
  go_ret
  exact ⟨rfl, rfl⟩
theorem table1 (x : Int) (w : World) : Calls Try.prog 30 #[.int .u64 x] w fun e w' => e = .returned (.bool (!okB x)) ∧ w = w' := by
  go_enter Try.func30, Try.ntmps30
  go_wp2_with (go_at_call 31; refine (fieldValid x _).mono ?_; rintro e w2 ⟨rfl, rfl⟩)
  go_ret
  exact ⟨rfl, rfl⟩

/-- A number that is not below 0 just where b holds. -/
def SignRes (b : Bool) (w : World) (e : Ending) (w' : World) : Prop := ∃ z : Int, e = .returned (.int .i64 z) ∧ decide (0 ≤ z) = b ∧ w = w'
theorem indexU {l : List Int} {A : Option Addr} {c : Nat} {S : Nat → Prop} (w : World) (h : Sl .u64 S w A c l) :
    Calls Try.prog 52 #[.slice A l.length c, .func (.func 30) #[] #[]] w (SignRes (badC l) w) := by
  have hm := h.max
  have H := Lib.hid h
  clear h
  go_enter Try.func52, Try.ntmps52
  go_wp2_with fail
  go_loop [8] (fun i => ∃ j : Nat, j ≤ l.length ∧ i = .int .i64 j ∧ badC (l.take j) = false) (fun i => l.length - (intOf i).toNat)
  case atStart => exact ⟨0, Nat.zero_le _, rfl, rfl⟩
  case round =>
    obtain ⟨j, hj, rfl, hb⟩ := hrel
    have Hb := Lib.hid hb
    clear hb
    by_cases hlt : j < l.length
    · obtain ⟨x, hx⟩ : ∃ x, l[j]? = some x := ⟨_, List.getElem?_eq_getElem hlt⟩
      obtain ⟨b1, o1, rfl, -, hb1, x0⟩ := u64_at H.out hx
      have hj0 : (0 : Int) ≤ (j : Int) := by omega
      have hj1 : (j : Int) < (l.length : Int) := by omega
      have hs : badC (l.take (j + 1)) = (badC (l.take j) || !okB x) := by rw [take_snocR hx]; simp [badC]
      have Hs := Lib.hid hs
      have Hx := Lib.hid hx
      clear hs hx
      cases hok : okB x with
      | true =>
        go_wp2_with (go_at_call 30; refine (table1 x _).mono ?_; rw [hok]; rintro e w2 ⟨rfl, rfl⟩)
        go_round
        case rel => exact ⟨j + 1, by omega, by go_num, by rw [Hs.out, Hb.out, hok]; rfl⟩
        case measure => simp [intOf]; omega
      | false =>
        go_wp2_with (go_at_call 30; refine (table1 x _).mono ?_; rw [hok]; rintro e w2 ⟨rfl, rfl⟩)
        go_ret
        refine ⟨j, rfl, ?_, rfl⟩
        have : badC l = true := List.any_eq_true.2 ⟨x, List.mem_of_getElem? Hx.out, by simp [hok]⟩
        rw [this]; simp
    · have hj1 : ¬ (j : Int) < (l.length : Int) := by omega
      go_wp2_with fail
      go_ret
      refine ⟨-1, rfl, ?_, rfl⟩
      have := Hb.out
      rw [List.take_of_length_le (by omega)] at this
      rw [this]; rfl
theorem containsU {l : List Int} {A : Option Addr} {c : Nat} {S : Nat → Prop} (w : World) (h : Sl .u64 S w A c l) :
    Calls Try.prog 33 #[.slice A l.length c, .func (.func 30) #[] #[]] w fun e w' => e = .returned (.bool (badC l)) ∧ w = w' := by
  have H := Lib.hid h
  clear h
  go_enter Try.func33, Try.ntmps33
  go_wp2_with (go_at_call 52; refine (indexU _ H.out).mono ?_; rintro e w2 ⟨z, rfl, hz, rfl⟩)
  go_ret
  exact ⟨rfl, rfl⟩

/-- A column that Table refuses. -/
def badCol (n : Nat) (l : List Int) : Bool := decide (l.length ≠ n) || badC l
theorem table2 {l : List Int} {A : Option Addr} {c n p q : Nat} {S : Nat → Prop} (w : World) (h : Sl .u64 S w A c l) (hp : w.cell? ⟨p, 0, none⟩ = some (.int .i64 n)) (hq : w.cell? ⟨q, 0, none⟩ = some (.func (.func 30) #[] #[])) :
    Calls Try.prog 32 #[.slice A l.length c, .pointer (some ⟨p, 0, none⟩), .pointer (some ⟨q, 0, none⟩)] w fun e w' => e = .returned (.bool (badCol n l)) ∧ w = w' := by
  have H := Lib.hid h
  clear h
  by_cases hl : l.length = n
  · have h1 : ((l.length : Int) != (n : Int)) = false := by simp [hl]
    have Hl := Lib.hid hl
    clear hl
    go_enter Try.func32, Try.ntmps32
    go_wp2_with (go_at_call 33; refine (containsU _ H.out).mono ?_; rintro e w2 ⟨rfl, rfl⟩)
    go_ret
    exact ⟨ret_bool (by simp [badCol, Hl.out]), rfl⟩
  · have h1 : ((l.length : Int) != (n : Int)) = true := by simp; omega
    have Hl := Lib.hid hl
    clear hl
    go_enter Try.func32, Try.ntmps32
    go_wp2_with fail
    go_ret
    exact ⟨ret_bool (by simp [badCol, Hl.out]), rfl⟩
theorem indexCs {l : List (List Int)} {A : Option Addr} {c n p q : Nat} {S : Nat → Prop} (w : World) (h : Sl Enc.u64.slice S w A c l) (hp : w.cell? ⟨p, 0, none⟩ = some (.int .i64 n)) (hq : w.cell? ⟨q, 0, none⟩ = some (.func (.func 30) #[] #[])) :
    Calls Try.prog 53 #[.slice A l.length c, .func (.func 32) #[] #[.pointer (some ⟨p, 0, none⟩), .pointer (some ⟨q, 0, none⟩)]] w (SignRes (l.any (badCol n)) w) := by
  have hm := h.max
  have H := Lib.hid h
  have HP := Lib.hid hp
  have HQ := Lib.hid hq
  clear h hp hq
  go_enter Try.func53, Try.ntmps53
  go_wp2_with fail
  go_loop [8] (fun i => ∃ j : Nat, j ≤ l.length ∧ i = .int .i64 j ∧ (l.take j).any (badCol n) = false) (fun i => l.length - (intOf i).toNat)
  case atStart => exact ⟨0, Nat.zero_le _, rfl, rfl⟩
  case round =>
    obtain ⟨j, hj, rfl, hb⟩ := hrel
    have Hb := Lib.hid hb
    clear hb
    by_cases hlt : j < l.length
    · obtain ⟨x, hx⟩ : ∃ x, l[j]? = some x := ⟨_, List.getElem?_eq_getElem hlt⟩
      obtain ⟨b1, o1, B1, d1, rfl, -, hb1, x0, hs1⟩ := col_at H.out hx
      have Hs1 := Lib.hid hs1
      have hj0 : (0 : Int) ≤ (j : Int) := by omega
      have hj1 : (j : Int) < (l.length : Int) := by omega
      have hs : (l.take (j + 1)).any (badCol n) = ((l.take j).any (badCol n) || badCol n x) := by rw [take_snocR hx]; simp
      have Hs := Lib.hid hs
      have Hx := Lib.hid hx
      clear hs hx hs1
      cases hok : badCol n x with
      | false =>
        have Hok := Lib.hid hok
        clear hok
        go_wp2_with (go_at_call 32; refine (table2 _ Hs1.out HP.out HQ.out).mono ?_; rw [Hok.out]; rintro e w2 ⟨rfl, rfl⟩)
        go_round
        case rel => exact ⟨j + 1, by omega, by go_num, by rw [Hs.out, Hb.out, Hok.out]; rfl⟩
        case measure => simp [intOf]; omega
      | true =>
        have Hok := Lib.hid hok
        clear hok
        go_wp2_with (go_at_call 32; refine (table2 _ Hs1.out HP.out HQ.out).mono ?_; rw [Hok.out]; rintro e w2 ⟨rfl, rfl⟩)
        go_ret
        refine ⟨j, rfl, ?_, rfl⟩
        have : l.any (badCol n) = true := List.any_eq_true.2 ⟨x, List.mem_of_getElem? Hx.out, Hok.out⟩
        rw [this]; simp
    · have hj1 : ¬ (j : Int) < (l.length : Int) := by omega
      go_wp2_with fail
      go_ret
      refine ⟨-1, rfl, ?_, rfl⟩
      have := Hb.out
      rw [List.take_of_length_le (by omega)] at this
      rw [this]; rfl
theorem containsCs {l : List (List Int)} {A : Option Addr} {c n p q : Nat} {S : Nat → Prop} (w : World) (h : Sl Enc.u64.slice S w A c l) (hp : w.cell? ⟨p, 0, none⟩ = some (.int .i64 n)) (hq : w.cell? ⟨q, 0, none⟩ = some (.func (.func 30) #[] #[])) :
    Calls Try.prog 34 #[.slice A l.length c, .func (.func 32) #[] #[.pointer (some ⟨p, 0, none⟩), .pointer (some ⟨q, 0, none⟩)]] w fun e w' => e = .returned (.bool (l.any (badCol n))) ∧ w = w' := by
  have H := Lib.hid h
  have HP := Lib.hid hp
  have HQ := Lib.hid hq
  clear h hp hq
  go_enter Try.func34, Try.ntmps34
  go_wp2_with (go_at_call 53; refine (indexCs _ H.out HP.out HQ.out).mono ?_; rintro e w2 ⟨z, rfl, hz, rfl⟩)
  go_ret
  exact ⟨rfl, rfl⟩
end Go.Proofs.Ytpdblgchfkcgpaa
namespace Go.Proofs.Ytpdblgchfkcgpaa
open Go.RowKit

def widF (n : Nat) : Nat := if n ≤ 1 then 1 else if n ≤ 2 then 2 else if n ≤ 4 then 4 else if n ≤ 8 then 8 else if n ≤ 16 then 16 else if n ≤ 32 then 32 else 64
def pow2 (n : Nat) : Bool := decide (n = 1 ∨ n = 2 ∨ n = 4 ∨ n = 8)
def headLen (cols : List (List Int)) : Nat := (cols.getD 0 []).length
def tabOk (cols : List (List Int)) : Bool := decide (1 ≤ cols.length ∧ cols.length ≤ 64) && (pow2 (headLen cols) && !cols.any (badCol (headLen cols)))
/-- The first k elements of column c, written into the table. -/
def fillTo (W c : Nat) (col out : List Int) (k : Nat) : List Int := (List.range k).foldl (fun o i => o.set (c + W * i) (col.getD i 0)) out
theorem fillTo_succ (W c : Nat) (col out : List Int) (k : Nat) : fillTo W c col out (k + 1) = (fillTo W c col out k).set (c + W * k) (col.getD k 0) := by
  simp [fillTo, List.range_succ]
theorem fillTo_len (W c : Nat) (col out : List Int) (k : Nat) : (fillTo W c col out k).length = out.length := by
  induction k with
  | zero => rfl
  | succ k ih => rw [fillTo_succ, List.length_set, ih]
def tabTo (W n : Nat) (cols : List (List Int)) (k : Nat) : List Int := (List.range k).foldl (fun o c => fillTo W c (cols.getD c []) o n) (List.replicate (W * n) 0)
theorem tabTo_succ (W n : Nat) (cols : List (List Int)) (k : Nat) : tabTo W n cols (k + 1) = fillTo W k (cols.getD k []) (tabTo W n cols k) n := by
  simp [tabTo, List.range_succ]
theorem tabTo_len (W n : Nat) (cols : List (List Int)) (k : Nat) : (tabTo W n cols k).length = W * n := by
  induction k with
  | zero => simp [tabTo]
  | succ k ih => rw [tabTo_succ, fillTo_len, ih]
def tableF (cols : List (List Int)) : List Int × Int := if tabOk cols then (tabTo (widF cols.length) (headLen cols) cols cols.length, 0) else ([], 1)
theorem tableF_bad {cols : List (List Int)} (h : tabOk cols = false) : tableF cols = ([], 1) := by unfold tableF; rw [if_neg (by simp [h])]

/-- A slice of numbers and the number of an error. -/
def TabRes (w : World) (p : List Int × Int) (e : Ending) (w' : World) : Prop :=
  ∃ A c, e = .returned (.tuple #[.slice A p.1.length c, .int .i64 p.2]) ∧ Sl .u64 (fun b => w.heap.size ≤ b) w' A c p.1 ∧ Below w.heap.size w w'
theorem TabRes.none {w w' : World} {k : Int} {e : Ending} (he : e = .returned (.tuple #[.slice none 0 0, .int .i64 k])) (hb : Below w.heap.size w w') : TabRes w ([], k) e w' :=
  ⟨_, 0, he, Sl.nil_ _ _ _ _ (Nat.zero_le _), hb⟩

theorem bits_dec (n : Nat) (hn : n ≤ 8) (h1 : 1 ≤ n) : (pow2 n = true → bits BinOp.and IntKind.i64 (n : Int) ((n : Int) - 1) = 0) ∧ (pow2 n = false → (bits BinOp.and IntKind.i64 (n : Int) ((n : Int) - 1) != 0) = true) := by
  have h : ∀ x : Fin 9, 1 ≤ x.1 → (pow2 x.1 = true → bits BinOp.and IntKind.i64 (x.1 : Int) ((x.1 : Int) - 1) = 0) ∧ (pow2 x.1 = false → (bits BinOp.and IntKind.i64 (x.1 : Int) ((x.1 : Int) - 1) != 0) = true) := by decide +kernel
  exact h ⟨n, by omega⟩ h1

set_option maxRecDepth 100000 in
set_option maxHeartbeats 4000000 in
theorem tableP {l : List (List Int)} {A : Option Addr} {c : Nat} {S : Nat → Prop} (w : World) (h : Sl Enc.u64.slice S w A c l) (h8 : headLen l ≤ 8) :
    Calls Try.prog 7 #[.slice A l.length c] w (TabRes w (tableF l)) := by
  have hm := h.max
  by_cases hlen : 1 ≤ l.length ∧ l.length ≤ 64
  · obtain ⟨hl1, hl2⟩ := hlen
    obtain ⟨c0, hc0⟩ : ∃ c0, l[0]? = some c0 := ⟨_, List.getElem?_eq_getElem (by omega)⟩
    have hhd : headLen l = c0.length := by simp [headLen, hc0]
    obtain ⟨b0, o0, B0, d0, rfl, -, hb0, x0, hs0⟩ := col_at h hc0
    obtain ⟨n, hn⟩ : ∃ n, c0.length = n := ⟨_, rfl⟩
    rw [hn] at x0 hhd
    rw [hhd] at h8
    simp only [Nat.add_zero] at x0
    have H := Lib.hid h.old
    have Hhd := Lib.hid hhd
    have k1 : ¬ (l.length : Int) < 1 := by omega
    have k2 : ((64 : Int) < (l.length : Int)) = False := by simp; omega
    have k3 : (0 : Int) < (l.length : Int) := by omega
    clear h hc0 hs0 hn hhd
    by_cases hn0 : n = 0
    · have ht : tableF l = ([], 1) := tableF_bad (by unfold tabOk; rw [Hhd.out, hn0]; simp [pow2])
      rw [ht]
      subst hn0
      clear ht
      go_enter Try.func7, Try.ntmps7
      go_wp2_with fail
      go_ret2
      exact TabRes.none rfl (by repeat' (first | with_reducible exact Below.refl _ _ | with_reducible assumption | with_reducible refine Below.setCell ?_ ?_ _ | with_reducible refine Below.drew ?_ | with_reducible refine below_drewN ?_ _ | with_reducible refine Below.alloc ?_ ?_ _ | (rintro _ ⟨⟩; simp <;> omega) | omega | (simp <;> omega)))
    · have k4 : ¬ (n : Int) < 1 := by omega
      have k5 : ((65536 : Int) < (n : Int)) = False := by simp; omega
      have k6 : (0 : Int) ≤ (n : Int) - 1 := by omega
      have k7 : (n : Int) ≤ 8 := by omega
      obtain ⟨e1, e2⟩ := bits_dec n h8 (by omega)
      cases hp : pow2 n with
      | false =>
        have ht : tableF l = ([], 1) := tableF_bad (by unfold tabOk; rw [Hhd.out, hp]; simp)
        rw [ht]
        have e3 := e2 hp
        clear ht e1 e2 hp
        go_enter Try.func7, Try.ntmps7
        go_wp2_with fail
        go_ret2
        exact TabRes.none rfl (by repeat' (first | with_reducible exact Below.refl _ _ | with_reducible assumption | with_reducible refine Below.setCell ?_ ?_ _ | with_reducible refine Below.drew ?_ | with_reducible refine below_drewN ?_ _ | with_reducible refine Below.alloc ?_ ?_ _ | (rintro _ ⟨⟩; simp <;> omega) | omega | (simp <;> omega)))
      | true =>
        have e3 := e1 hp
        have Hp := Lib.hid hp
        clear e1 e2 hp
        have hcontains := containsCs (n := n) (p := w.heap.size) (q := w.heap.size + 1) ((w.alloc (.cells #[.int .i64 n] 3)).alloc (.cells #[.func (.func 30) #[] #[]] 69)) (H.out.keep (((Agree.refl _ _).alloc _).alloc _)) ((World.cell?_of_block (a := ⟨w.heap.size, 0, none⟩) (Below.heap_alloc _ _ _ (by simp))).trans (cell_of_row _ _ 0 _ _ _ (heap_alloc_at rfl))) (cell_of_row _ _ 0 _ _ _ (heap_alloc_at (by simp)))
        cases hbad : l.any (badCol n) with
        | true =>
          have ht : tableF l = ([], 1) := tableF_bad (by unfold tabOk; rw [Hhd.out, hbad]; simp)
          rw [ht]
          rw [hbad] at hcontains
          have Hc := Lib.hid hcontains
          clear ht hbad hcontains
          go_enter Try.func7, Try.ntmps7
          go_wp2_with (go_at_call 34; go_must (refine Hc.out.mono ?_); rintro e w3 ⟨rfl, rfl⟩)
          go_ret2
          exact TabRes.none rfl (by repeat' (first | with_reducible exact Below.refl _ _ | with_reducible assumption | with_reducible refine Below.setCell ?_ ?_ _ | with_reducible refine Below.drew ?_ | with_reducible refine below_drewN ?_ _ | with_reducible refine Below.alloc ?_ ?_ _ | (rintro _ ⟨⟩; simp <;> omega) | omega | (simp <;> omega)))
        | false =>
          have ht : tabOk l = true := by unfold tabOk; rw [Hhd.out, hbad, Hp.out]; simp; omega
          have ht2 : tableF l = (tabTo (widF l.length) n l l.length, 0) := by unfold tableF; rw [if_pos ht, Hhd.out]
          rw [ht2]
          rw [hbad] at hcontains
          have Hc := Lib.hid hcontains
          have Hbad := Lib.hid hbad
          clear ht ht2 hbad hcontains
          go_enter Try.func7, Try.ntmps7
          go_wp2_with (go_at_call 34; go_must (refine Hc.out.mono ?_); rintro e w3 ⟨rfl, rfl⟩)
          have Hx0 := Lib.hid x0
          clear x0
          go_loop [7] (fun v => ∃ W : Nat, v = .int .i64 W ∧ (W = 1 ∨ W = 2 ∨ W = 4 ∨ W = 8 ∨ W = 16 ∨ W = 32 ∨ W = 64) ∧ (W = 1 ∨ W < 2 * l.length)) (fun v => 128 - (intOf v).toNat)
          case atStart => exact ⟨1, rfl, .inl rfl, .inl rfl⟩
          case round =>
            obtain ⟨W, rfl, hW, hW2⟩ := hrel
            have hW64 : W ≤ 64 := by omega
            have hW0 : (0 : Int) ≤ (W : Int) := by omega
            have hW1 : (W : Int) ≤ 64 := by omega
            by_cases hlt : W < l.length
            · have hj1 : (W : Int) < (l.length : Int) := by omega
              go_wp2_with fail
              go_round
              case rel => exact ⟨2 * W, by go_num, by omega, by omega⟩
              case measure => simp [intOf]; omega
            · have hj1 : ¬ (W : Int) < (l.length : Int) := by omega
              have hwid : widF l.length = W := by unfold widF; (repeat' split) <;> omega
              have Hwid := Lib.hid hwid
              have hWn : W * n ≤ 64 * 8 := Nat.mul_le_mul hW64 h8
              have hWn0 : (0 : Int) ≤ (W : Int) * (n : Int) := by rw [← Int.natCast_mul]; omega
              have hWn1 : (W : Int) * (n : Int) ≤ 512 := by rw [← Int.natCast_mul]; omega
              clear hwid hW hW2
              go_wp2_with (at_make; go_must ((refine wpList_make_u64 _ rfl (.tmp 52) (.tmp 52) rfl (kl := .i64) (kc := .i64) (n := W * n) (show Value.int .i64 ((W : Int) * (n : Int)) = .int .i64 ((W * n : Nat) : Int) by rw [Int.natCast_mul]) (show Value.int .i64 ((W : Int) * (n : Int)) = .int .i64 ((W * n : Nat) : Int) by rw [Int.natCast_mul]) (by omega) ?_; intro w1 hown1 hg1)))
              have hlW : l.length ≤ W := by omega
              have b1 : Below w.heap.size w w1 := Below.grown (((Below.refl _ _).alloc (Nat.le_refl _) _).alloc (by simp) _) hg1 (by simp; omega) (by rintro k ⟨⟩)
              have o1 : Own .u64 (fun _ => False) w1 (w.heap.size + 1 + 1) 38 (.slice (some ⟨w.heap.size + 1 + 1, 0, none⟩) (W * n) (W * n)) (tabTo W n l 0) := by
                have h := hown1
                simp only [World.size_alloc] at h
                exact h
              clear hown1 hg1
              go_loopw [56] (fun i wr => ∃ j : Nat, j ≤ l.length ∧ i = .int .i64 j ∧ Own .u64 (fun _ => False) wr (w.heap.size + 1 + 1) 38 (.slice (some ⟨w.heap.size + 1 + 1, 0, none⟩) (W * n) (W * n)) (tabTo W n l j) ∧ Below w.heap.size w wr) (fun i _ => l.length - (intOf i).toNat)
              case atStart => exact ⟨0, Nat.zero_le _, rfl, o1, b1⟩
              case round =>
                obtain ⟨j, hj, rfl, ho, hb⟩ := hrel
                have Ho := Lib.hid ho
                have Hb := Lib.hid hb
                have hj0 : (0 : Int) ≤ (j : Int) := by omega
                clear ho hb
                by_cases hlt : j < l.length
                · have hj1 : (j : Int) < (l.length : Int) := by omega
                  obtain ⟨col, hcol⟩ : ∃ col, l[j]? = some col := ⟨_, List.getElem?_eq_getElem hlt⟩
                  have hbc : badCol n col = false := by
                    have h1 := Hbad.out
                    rw [List.any_eq_false] at h1
                    simpa using h1 col (List.mem_of_getElem? hcol)
                  have hcn : col.length = n := by
                    simp only [badCol, Bool.or_eq_false_iff, decide_eq_false_iff_not] at hbc
                    omega
                  obtain ⟨b2, o2, B2, d2, hb2e, -, hb2, x2, hs2⟩ := col_at (H.out.keep (Below.agree Hb.out)) hcol
                  cases hb2e
                  rw [hcn] at x2
                  have Hs2 := Lib.hid hs2
                  have hgd : l.getD j [] = col := by simp [hcol]
                  have Hgd := Lib.hid hgd
                  have Hcn := Lib.hid hcn
                  clear hcol hbc hcn hs2 hgd
                  go_wp2_with fail
                  obtain ⟨wo, hwo⟩ : ∃ wo : World, wo = wr := ⟨_, rfl⟩
                  subst hwo
                  go_loopw [63] (fun i wr => ∃ k : Nat, k ≤ n ∧ i = .int .i64 k ∧ Own .u64 (fun _ => False) wr (w.heap.size + 1 + 1) 38 (.slice (some ⟨w.heap.size + 1 + 1, 0, none⟩) (W * n) (W * n)) (fillTo W j col (tabTo W n l j) k) ∧ Below w.heap.size w wr ∧ Agree (fun b => b < w.heap.size) wo wr) (fun i _ => n - (intOf i).toNat)
                  case atStart => exact ⟨0, Nat.zero_le _, rfl, Ho.out, Hb.out, Agree.refl _ _⟩
                  case round =>
                    obtain ⟨k, hk, rfl, ho, hb, ha⟩ := hrel
                    have hlen2 := fillTo_len W j col (tabTo W n l j) k
                    rw [tabTo_len] at hlen2
                    have hk0 : (0 : Int) ≤ (k : Int) := by omega
                    have Ho2 := Lib.hid ho
                    have Hb2 := Lib.hid hb
                    have Ha := Lib.hid ha
                    clear ho hb ha
                    by_cases hlk : k < n
                    · have hk1 : (k : Int) < (n : Int) := by omega
                      obtain ⟨x, hx⟩ : ∃ x, col[k]? = some x := ⟨_, List.getElem?_eq_getElem (by rw [Hcn.out]; exact hlk)⟩
                      have hsub : Sl .u64 (fun b => S b ∧ b < w.heap.size) wo B2 d2 col := Hs2.out
                      obtain ⟨b4, o4, rfl, hS4, hb4, y0⟩ := u64_at (hsub.keep (Ha.out.sub fun b hb => hb.2)) hx
                      have hidx : j + W * k < W * n := by
                        have h1 : W * (k + 1) ≤ W * n := Nat.mul_le_mul_left _ (by omega)
                        rw [Nat.mul_add] at h1
                        omega
                      have hx2 := u64_cell Ho2.out (k := j + W * k) (by rw [hlen2]; exact hidx)
                      have hf2 := Ho2.out.frozen (j + W * k)
                      have m0 : (0 : Int) ≤ (W : Int) * (k : Int) := by rw [← Int.natCast_mul]; omega
                      have m1 : (j : Int) + (W : Int) * (k : Int) < ((W * n : Nat) : Int) := by rw [← Int.natCast_mul]; omega
                      have m2 : ((j : Int) + (W : Int) * (k : Int)).toNat = j + W * k := by rw [← Int.natCast_mul]; omega
                      have m3 : (W : Int) * (k : Int) ≤ 512 := by rw [← Int.natCast_mul]; omega
                      have Hx := Lib.hid hx
                      clear hx hsub
                      go_wp2_with fail
                      go_roundw
                      case rel =>
                        have hxg : col.getD k 0 = x := by simp [Hx.out]
                        exact ⟨k + 1, by omega, by go_num, by rw [fillTo_succ, hxg]; exact u64_store Ho2.out x, Hb2.out.setCell (by show w.heap.size ≤ w.heap.size + 1 + 1; omega) _, Ha.out.set (by show ¬ (w.heap.size + 1 + 1 < w.heap.size); omega) _⟩
                      case measure => simp [intOf]; omega
                    · have hk1 : ¬ (k : Int) < (n : Int) := by omega
                      have hkn : k = n := by omega
                      go_wp2_with fail
                      go_roundw
                      case rel => exact ⟨j + 1, by omega, by go_num, by rw [tabTo_succ, Hgd.out]; exact hkn ▸ Ho2.out, Hb2.out⟩
                      case measure => simp [intOf]; omega
                · have hj1 : ¬ (j : Int) < (l.length : Int) := by omega
                  have hjl : j = l.length := by omega
                  subst hjl
                  go_wp2_with fail
                  go_ret2
                  have hl := tabTo_len W n l l.length
                  have fin := Ho.out
                  rw [Hwid.out]
                  refine ⟨some ⟨w.heap.size + 1 + 1, 0, none⟩, W * n, (show Ending.returned (.tuple #[.slice (some ⟨w.heap.size + 1 + 1, 0, none⟩) (W * n) (W * n), .int .i64 0]) = _ by rw [hl]), ?_, Hb.out⟩
                  exact fin.flatSl u64_flat (fun b hb => by omega)
  · have ht : tableF l = ([], 1) := tableF_bad (by unfold tabOk; simp; intro h1 h2; omega)
    rw [ht]
    clear ht h h8
    by_cases h0 : l.length < 1
    · have k1 : (l.length : Int) < 1 := by omega
      go_enter Try.func7, Try.ntmps7
      go_wp2_with fail
      go_ret2
      exact TabRes.none rfl (by repeat' (first | with_reducible exact Below.refl _ _ | with_reducible assumption | with_reducible refine Below.setCell ?_ ?_ _ | with_reducible refine Below.drew ?_ | with_reducible refine below_drewN ?_ _ | with_reducible refine Below.alloc ?_ ?_ _ | (rintro _ ⟨⟩; simp <;> omega) | omega | (simp <;> omega)))
    · have k1 : ¬ (l.length : Int) < 1 := by omega
      have k2 : (64 : Int) < (l.length : Int) := by omega
      go_enter Try.func7, Try.ntmps7
      go_wp2_with fail
      go_ret2
      exact TabRes.none rfl (by repeat' (first | with_reducible exact Below.refl _ _ | with_reducible assumption | with_reducible refine Below.setCell ?_ ?_ _ | with_reducible refine Below.drew ?_ | with_reducible refine below_drewN ?_ _ | with_reducible refine Below.alloc ?_ ?_ _ | (rintro _ ⟨⟩; simp <;> omega) | omega | (simp <;> omega)))
end Go.Proofs.Ytpdblgchfkcgpaa
namespace Go.Proofs.Ytpdblgchfkcgpaa
open Go.RowKit

theorem takeP_eq {s : Str} {A B : Option Addr} {c d : Nat} {S : Nat → Prop} {p : Str × Int} (r : Rd) (w : World) (h : Sl rdE S w A c s.l) (k : Sl .bool S w B d s.g) (ok : OkStr s) (hl : s.l.length ≤ 1000) (hp : takeF s r = p) :
    Calls Try.prog 16 #[.agg #[.slice A s.l.length c, .slice B s.g.length d], .agg #[.int .i64 r.who, .int .i64 r.whn, .int .i64 r.knd, .int .i64 r.val]] w (StRes S w p) := by
  rw [← hp]; exact takeP_any r w h k ok hl
theorem retractP_eq {s : Str} {A B : Option Addr} {c d : Nat} {i : Int} {S : Nat → Prop} {p : Str × Int} (w : World) (h : Sl rdE S w A c s.l) (k : Sl .bool S w B d s.g) (ok : OkStr s) (hl : s.l.length ≤ 1000) (hp : retractF s i = p) :
    Calls Try.prog 17 #[.agg #[.slice A s.l.length c, .slice B s.g.length d], .int .i64 i] w (StRes S w p) := by
  rw [← hp]; exact retractP_any w h k ok hl
theorem columnsP_eq {s : Str} {A B : Option Addr} {c d : Nat} {log : Int} {S : Nat → Prop} {p : List (List Int)} (w : World) (he : checkF s.l.length log = 0) (h : Sl rdE S w A c s.l) (k : Sl .bool S w B d s.g) (ok : OkStr s) (hp : columnsF s log = p) :
    Calls Try.prog 6 #[.agg #[.slice A s.l.length c, .slice B s.g.length d], .int .i64 log] w (ColRes w (p, 0)) := by
  rw [← hp]; exact columnsP_ok w he h k ok
theorem bitsP_eq {s : Str} {A B : Option Addr} {c d : Nat} {log : Int} {S : Nat → Prop} {p : List (List Int)} (w : World) (he : checkF s.l.length log = 0) (h : Sl rdE S w A c s.l) (ok : OkStr s) (hp : bitsF s log = p) :
    Calls Try.prog 19 #[.agg #[.slice A s.l.length c, .slice B s.g.length d], .int .i64 log] w (ColRes w (p, 0)) := by
  rw [← hp]; exact bitsP_ok w he h ok
theorem columnsP_no {s : Str} {A B : Option Addr} {c d : Nat} {log e : Int} (w : World) (he : checkF s.l.length log = e) (hne : e ≠ 0) :
    Calls Try.prog 6 #[.agg #[.slice A s.l.length c, .slice B s.g.length d], .int .i64 log] w (ColRes w ([], e)) := by
  subst he; exact columnsP_bad w hne
theorem bitsP_no {s : Str} {A B : Option Addr} {c d : Nat} {log e : Int} (w : World) (he : checkF s.l.length log = e) (hne : e ≠ 0) :
    Calls Try.prog 19 #[.agg #[.slice A s.l.length c, .slice B s.g.length d], .int .i64 log] w (ColRes w ([], e)) := by
  subst he; exact bitsP_bad w hne
theorem tableP_eq {l : List (List Int)} {A : Option Addr} {c : Nat} {S : Nat → Prop} {p : List Int × Int} (w : World) (h : Sl Enc.u64.slice S w A c l) (h8 : headLen l ≤ 8) (hp : tableF l = p) :
    Calls Try.prog 7 #[.slice A l.length c] w (TabRes w p) := by
  rw [← hp]; exact tableP w h h8
theorem liveP_eq {s : Str} {A B : Option Addr} {c d : Nat} {S : Nat → Prop} {p : List Rd} (w : World) (h : Sl rdE S w A c s.l) (k : Sl .bool S w B d s.g) (hg : s.g.length = s.l.length) (hm : s.l.length ≤ 1000) (hp : liveF s = p) :
    Calls Try.prog 18 #[.agg #[.slice A s.l.length c, .slice B s.g.length d]] w (RdsRes S w p) := by
  rw [← hp]; exact liveP w h k hg hm

/-- Rows of numbers laid one behind the other, and the slices that hold them. -/
def layW (w : World) : List (List Int) → World
  | [] => w
  | r :: rs => layW (w.alloc (.cells (r.map (Value.int .u64)).toArray 38)) rs
def layV (n : Nat) : List (List Int) → List Value
  | [] => []
  | r :: rs => .slice (some ⟨n, 0, none⟩) r.length r.length :: layV (n + 1) rs
theorem layW_size : ∀ (rs : List (List Int)) (w : World), (layW w rs).heap.size = w.heap.size + rs.length
  | [], w => rfl
  | r :: rs, w => by simp only [layW, layW_size rs, World.size_alloc, List.length_cons]; omega
theorem layW_below : ∀ (rs : List (List Int)) (w : World), Below w.heap.size w (layW w rs)
  | [], w => Below.refl _ _
  | r :: rs, w => ((Below.refl _ _).alloc (Nat.le_refl _) _).trans ((layW_below rs _).mono (by simp))
theorem lay_elems : ∀ (rs : List (List Int)) (w : World) (n : Nat), w.heap.size = n → (∀ r ∈ rs, r.length ≤ 1000) → Elems Enc.u64.slice (fun _ => True) (layW w rs) (layV n rs) rs
  | [], _, _, _, _ => rfl
  | r :: rs, w, n, hn, hl => by
    refine ⟨[_], _, rfl, ⟨_, _, rfl, ?_⟩, lay_elems rs _ (n + 1) (by simp [hn]) (fun x hx => hl x (by simp [hx]))⟩
    exact (Sl.litAt (S := fun _ => True) hn (u64_elems r) (by have := hl r (by simp); unfold maxLen; omega) (fun _ _ _ => trivial) trivial).keep (Below.agree (layW_below rs _))
theorem lay_cols (rs : List (List Int)) (w : World) {n m : Nat} (hn : w.heap.size = n) (hm : n + rs.length = m) (hl : ∀ r ∈ rs, r.length ≤ 1000) (hl2 : rs.length ≤ 1000) :
    Sl Enc.u64.slice (fun _ => True) ((layW w rs).alloc (.cells (layV n rs).toArray 34)) (some ⟨m, 0, none⟩) rs.length rs :=
  Sl.litAt (S := fun _ => True) (by rw [layW_size, hn, hm]) (lay_elems rs w n hn hl) (by unfold maxLen; omega) (fun _ _ _ => trivial) trivial
end Go.Proofs.Ytpdblgchfkcgpaa
namespace Go.Proofs.Ytpdblgchfkcgpaa
open Go.RowKit

theorem hold {W : World} {p : Addr} {v : Value} (h : W.cell? p = some v) : ∀ X, Below W.heap.size W X → X.cell? p = some v := fun _ hX => (hX.cell (World.block_lt_of_cell? W p h)).trans h
theorem wp_world {P : Program} {c : Code} {Q : Exit → Act → World → Prop} {a : Act} {w0 : World} (F : World → Prop) (h0 : F w0) (h : ∀ w, F w → Code.wp P c Q a w) : Code.wp P c Q a w0 := h w0 h0
end Go.Proofs.Ytpdblgchfkcgpaa
namespace Go.Proofs.Ytpdblgchfkcgpaa
open Go.RowKit

/-- A row of the table: the operation's number; on which it waits; d + 1 for what it writes; at which it looks. -/
abbrev FRow := Nat × List Nat × Nat × List Nat
def tabRow (md : Region.Mode) (ops : Array Oper) (i : Nat) : FRow :=
  match ops[i]? with
  | some o => (i, (o.after.toList.filter (Region.binds md)).map (·.on), (match o.dst with | some d => d + 1 | none => 0), o.looksAt ops)
  | none => (i, [], 0, [])
def tabL (md : Region.Mode) (ops : Array Oper) : List FRow := (List.range ops.size).map (tabRow md ops)
def apartR (x y : FRow) : Bool :=
  (Nat.beq x.2.2.1 0 || (y.2.2.2.all fun t => !Nat.beq (t + 1) x.2.2.1) && !Nat.beq y.2.2.1 x.2.2.1) && (Nat.beq y.2.2.1 0 || x.2.2.2.all fun t => !Nat.beq (t + 1) y.2.2.1)
def upM (m i : Nat) : Bool := Nat.beq (Nat.land (Nat.shiftRight m i) 1) 1
def inB (n : Nat) (T : List FRow) : Bool := T.all fun r => r.2.1.all fun j => Nat.blt j n
def readyM (T : List FRow) (m : Nat) : List Nat := (T.filter fun r => !upM m r.1 && r.2.1.all (upM m)).map (·.1)
def freeM (T : List FRow) (m : Nat) (x : FRow) : Bool := T.all fun y => Nat.beq y.1 x.1 || upM m y.1 || y.2.1.any (Nat.beq x.1) || apartR x y
/-- Operation i may be taken first. -/
def takeM (T : List FRow) (m i : Nat) : Bool := match T[i]? with | none => false | some x => Nat.beq x.1 i && !upM m i && x.2.1.all (upM m) && freeM T m x
def bitsA (n m : Nat) : Array Bool := ((List.range n).map (upM m)).toArray

structure RegOk (md : Region.Mode) (ops : Array Oper) (n : Nat) (T : List FRow) : Prop where
  size : ops.size = n
  tab : tabL md ops = T
  inb : inB n T = true
  sel : Region.noSelect ops = true

theorem nbeq (a b : Nat) : Nat.beq a b = decide (a = b) := by rw [Bool.eq_iff_iff]; simp
theorem upM_eq (m i : Nat) : upM m i = m.testBit i := by
  unfold upM Nat.testBit
  rw [nbeq]
  show decide (m >>> i &&& 1 = 1) = (1 &&& m >>> i != 0)
  rw [Nat.and_comm, Nat.one_and_eq_mod_two]
  have := Nat.mod_two_eq_zero_or_one (m >>> i)
  rcases this with h | h <;> simp [h]
theorem upM_or (m i j : Nat) : upM (m ||| 2 ^ i) j = (upM m j || decide (i = j)) := by
  rw [upM_eq, upM_eq, Nat.testBit_or, Nat.testBit_two_pow]
theorem bitsA_size (n m : Nat) : (bitsA n m).size = n := by simp [bitsA]
theorem bitsA_get {n m i : Nat} (h : i < n) (b : Bool) : (bitsA n m).getD i b = upM m i := by
  simp [bitsA, Array.getD_eq_getD_getElem?, h]
theorem bitsA_set (n m i : Nat) : (bitsA n m).setIfInBounds i true = bitsA n (m ||| 2 ^ i) := by
  apply Array.ext_getElem?
  intro j
  rw [Array.getElem?_setIfInBounds, bitsA_size]
  simp only [bitsA, List.getElem?_toArray, List.getElem?_map]
  by_cases hj : j < n
  · rw [List.getElem?_range hj]
    simp only [Option.map_some, upM_or]
    by_cases e : i = j
    · subst e; simp [hj]
    · simp [e]
  · rw [List.getElem?_eq_none (by simp; omega)]
    by_cases e : i = j
    · subst e; simp [hj]
    · simp [e]
theorem bitsA_none (n : Nat) : Array.replicate n false = bitsA n 0 := by
  apply Array.ext_getElem?
  intro j
  simp only [bitsA, List.getElem?_toArray, List.getElem?_map, Array.getElem?_replicate]
  by_cases hj : j < n
  · rw [List.getElem?_range hj, if_pos hj, Option.map_some, upM_eq]; simp
  · rw [List.getElem?_eq_none (by simp; omega), if_neg hj]; rfl

section
variable {P : Program} {md : Region.Mode} {ops : Array Oper} {n : Nat} {T : List FRow} {m : Nat}

theorem RegOk.row (h : RegOk md ops n T) {i : Nat} (hi : i < n) : T[i]? = some (tabRow md ops i) := by
  rw [← h.tab, tabL, List.getElem?_map, List.getElem?_range (by rw [h.size]; exact hi)]; rfl
theorem RegOk.mem (h : RegOk md ops n T) {i : Nat} (hi : i < n) : tabRow md ops i ∈ T := List.mem_of_getElem? (h.row hi)
theorem tabRow_some {i : Nat} {o : Oper} (h : ops[i]? = some o) : tabRow md ops i = (i, (o.after.toList.filter (Region.binds md)).map (·.on), (match o.dst with | some d => d + 1 | none => 0), o.looksAt ops) := by
  unfold tabRow; rw [h]
theorem tabRow_fst (i : Nat) : (tabRow md ops i).1 = i := by unfold tabRow; split <;> rfl
theorem RegOk.on_lt (h : RegOk md ops n T) {i : Nat} {o : Oper} (ho : ops[i]? = some o) {e : Edge} (he : e ∈ o.after) (hb : Region.binds md e = true) : e.on < n := by
  have hi : i < n := by rw [← h.size]; exact (Array.getElem?_eq_some_iff.1 ho).1
  have h1 := h.inb
  unfold inB at h1
  rw [List.all_eq_true] at h1
  have h2 := h1 _ (h.mem hi)
  rw [tabRow_some ho, List.all_eq_true] at h2
  have h3 := h2 e.on (List.mem_map.2 ⟨e, List.mem_filter.2 ⟨by simpa using he, hb⟩, rfl⟩)
  exact Nat.blt_eq.mp h3
/-- Whether all that operation o waits for has come up. -/
theorem RegOk.after_all (h : RegOk md ops n T) {i : Nat} {o : Oper} (ho : ops[i]? = some o) :
    (o.after.all fun e => !Region.binds md e || (bitsA n m).getD e.on false) = ((o.after.toList.filter (Region.binds md)).map (·.on)).all (upM m) := by
  rw [← Array.all_toList, List.all_map, List.all_filter, Bool.eq_iff_iff, List.all_eq_true, List.all_eq_true]
  refine forall_congr' fun e => forall_congr' fun he => ?_
  cases hb : Region.binds md e with
  | false => simp
  | true =>
    have := h.on_lt ho (e := e) (by simpa using he) hb
    simp [bitsA_get this]
theorem RegOk.ready (h : RegOk md ops n T) : Region.ready md ops (bitsA n m) = readyM T m := by
  unfold Region.ready readyM
  rw [← h.tab, tabL, List.filter_map, List.map_map]
  have e : ((fun x : FRow => x.1) ∘ tabRow md ops) = id := funext fun i => tabRow_fst i
  rw [e, List.map_id]
  refine List.filter_congr fun i hi => ?_
  have hlt : i < ops.size := List.mem_range.1 hi
  have hn : i < n := by rw [← h.size]; exact hlt
  have ho : ops[i]? = some ops[i] := Array.getElem?_eq_getElem hlt
  simp only [Function.comp, ho, tabRow_some ho, Option.map_some, Option.getD_some, bitsA_get hn, h.after_all ho]
theorem RegOk.contains (h : RegOk md ops n T) {i : Nat} {o : Oper} (ho : ops[i]? = some o) (h1 : upM m i = false) (h2 : ((o.after.toList.filter (Region.binds md)).map (·.on)).all (upM m) = true) : (Region.ready md ops (bitsA n m)).contains i = true := by
  have hlt : i < ops.size := (Array.getElem?_eq_some_iff.1 ho).1
  have hn : i < n := by rw [← h.size]; exact hlt
  rw [List.contains_iff_mem]
  unfold Region.ready
  refine List.mem_filter.2 ⟨List.mem_range.2 hlt, ?_⟩
  simp only [ho, Option.map_some, Option.getD_some, bitsA_get hn, h.after_all ho, h1, h2]
  rfl
theorem apartR_eq {x y : Oper} {i j : Nat} (hx : ops[i]? = some x) (hy : ops[j]? = some y) (h : apartR (tabRow md ops i) (tabRow md ops j) = true) : x.apart ops y = true := by
  rw [tabRow_some hx, tabRow_some hy] at h
  unfold apartR at h
  unfold Oper.apart
  simp only [nbeq, Bool.and_eq_true, Bool.or_eq_true, decide_eq_true_eq, List.all_eq_true, Bool.not_eq_true', decide_eq_false_iff_not] at h
  obtain ⟨h1, h2⟩ := h
  cases hdx : x.dst with
  | none =>
    cases hdy : y.dst with
    | none => rfl
    | some d =>
      simp only [hdy] at h2
      rcases h2 with h2 | h2
      · omega
      · simp only [Bool.true_and, Bool.not_eq_true', List.contains_eq_mem, decide_eq_false_iff_not]
        intro hm
        exact h2 _ hm rfl
  | some c =>
    simp only [hdx] at h1
    rcases h1 with h1 | ⟨h1, h3⟩
    · omega
    · have hc : c ∉ y.looksAt ops := fun hm => h1 _ hm rfl
      cases hdy : y.dst with
      | none => simp [hc]
      | some d =>
        simp only [hdy, hdx] at h2 h3
        rcases h2 with h2 | h2
        · omega
        · have hd : d ∉ x.looksAt ops := fun hm => h2 _ hm rfl
          have hne : d ≠ c := fun e => h3 (by rw [e])
          simp [hc, hd, hne]
theorem RegOk.free (h : RegOk md ops n T) {i : Nat} {o : Oper} (ho : ops[i]? = some o) (hf : freeM T m (tabRow md ops i) = true) : Region.free md ops (bitsA n m) i = true := by
  unfold Region.free
  simp only [ho, List.all_eq_true, List.mem_range]
  intro j hj
  have hn : j < n := by rw [← h.size]; exact hj
  have hoj : ops[j]? = some ops[j] := Array.getElem?_eq_getElem hj
  unfold freeM at hf
  rw [List.all_eq_true] at hf
  have h1 := hf _ (h.mem hn)
  simp only [hoj, bitsA_get hn, nbeq, tabRow_fst, Bool.or_eq_true, decide_eq_true_eq, beq_iff_eq] at h1 ⊢
  rcases h1 with ((h1 | h1) | h1) | h1
  · exact .inl (.inl h1)
  · exact .inl (.inr h1)
  · refine .inr (.inl ?_)
    rw [tabRow_some hoj, List.any_map, List.any_filter, List.any_eq_true] at h1
    rw [← Array.any_toList, List.any_eq_true]
    obtain ⟨e, he, h2⟩ := h1
    refine ⟨e, he, ?_⟩
    simp only [Function.comp, nbeq, Bool.and_eq_true, decide_eq_true_eq, beq_iff_eq] at h2 ⊢
    exact ⟨h2.1, h2.2.symm⟩
  · exact .inr (.inr (apartR_eq ho hoj h1))

variable {Q : Exit → Act → World → Prop} {S : World → Prop}
theorem RegOk.take (h : RegOk md ops n T) {i : Nat} {oi : Oper} {v : Value} {fuel m' : Nat} {a : Act} {w : World} (hi : ops[i]? = some oi) (hc : takeM T m i = true) (hm : m ||| 2 ^ i = m')
    (hQ : ∀ c a w, Q (.panic c) (a.put oi.dst v) w → Q (.panic c) a w) (hy : YieldsIf P ops S oi v a) (hS : S w)
    (H : wpAnyH P md ops Q S fuel (bitsA n m') (a.put oi.dst v) w) : wpAnyH P md ops Q S (fuel + 1) (bitsA n m) a w := by
  have hlt : i < ops.size := (Array.getElem?_eq_some_iff.1 hi).1
  have hn : i < n := by rw [← h.size]; exact hlt
  unfold takeM at hc
  rw [h.row hn] at hc
  simp only [Bool.and_eq_true, Bool.not_eq_true'] at hc
  obtain ⟨⟨⟨_, h2⟩, h3⟩, h4⟩ := hc
  rw [tabRow_some hi] at h3
  refine wpAnyH_take hi h.sel (h.free hi h4) (h.contains hi h2 h3) hQ hy hS ?_
  rw [bitsA_set, hm]
  exact H
theorem RegOk.come (h : RegOk md ops n T) {rs : List Nat} {fuel : Nat} {a : Act} {w : World} (hr : readyM T m = rs) (hne : rs ≠ []) (H : AllReadyH P md ops Q S fuel (bitsA n m) a w rs) :
    wpAnyH P md ops Q S (fuel + 1) (bitsA n m) a w := wpAnyH_ready (h.ready.trans hr) hne H
theorem RegOk.all (h : RegOk md ops n T) (hr : readyM T m = []) {a : Act} {w : World} (H : Q .normal a w) : ∀ fuel, wpAnyH P md ops Q S fuel (bitsA n m) a w := wpAnyH_done (h.ready.trans hr) H
theorem RegOk.put_ {i m' fuel : Nat} {a : Act} {w : World} (hm : m ||| 2 ^ i = m') (H : wpAnyH P md ops Q S fuel (bitsA n m') a w) : wpAnyH P md ops Q S fuel ((bitsA n m).setIfInBounds i true) a w := by
  rw [bitsA_set, hm]; exact H
theorem RegOk.go (h : RegOk md ops n T) {a : Act} {w : World} (H : wpAnyH P md ops Q S n (bitsA n 0) a w) : wpAnyH P md ops Q S ops.size (Array.replicate ops.size false) a w := by
  rw [h.size, bitsA_none]; exact H
theorem RegOk.begin_ (h : RegOk md ops n T) {a : Act} {w : World} (H : RegOk md ops n T → wpAnyH P md ops Q S n (bitsA n 0) a w) : wpAnyH P md ops Q S ops.size (Array.replicate ops.size false) a w := h.go (H h)
/-- What a guard asks, off the frame. -/
theorem RegOk.want (h : RegOk md ops n T) {o : Oper} {g d : Nat} {b b' : Bool} {a : Act} (hg : o.guard = some (g, b)) (hd : ((T[g]?).map (·.2.2.1)) = some (d + 1)) (ha : a.tmps[d]? = some (.bool b')) : Region.wanted o (yielded ops a.tmps) = (b' == b) := by
  have hgn : g < n := by
    have : g < T.length := by
      rcases hq : T[g]? with _ | r
      · rw [hq] at hd; cases hd
      · exact (List.getElem?_eq_some_iff.1 hq).1
    rw [← h.tab, tabL] at this
    simpa [h.size] using this
  rw [h.row hgn] at hd
  have hlt : g < ops.size := by rw [h.size]; exact hgn
  have ho : ops[g]? = some ops[g] := Array.getElem?_eq_getElem hlt
  rw [tabRow_some ho] at hd
  simp only [Option.map_some, Option.some.injEq] at hd
  unfold Region.wanted yielded
  rw [hg]
  cases hdd : ops[g].dst with
  | none => rw [hdd] at hd; simp at hd
  | some c =>
    rw [hdd] at hd
    simp only [Nat.add_right_cancel_iff] at hd
    subst hd
    simp only [ho, Option.bind_some, hdd, ha]
    cases b <;> cases b' <;> rfl
theorem RegOk.wants (h : RegOk md ops n T) {o : Oper} {g d : Nat} {b : Bool} {a : Act} {p q : Prop} (hg : o.guard = some (g, b)) (hd : ((T[g]?).map (·.2.2.1)) = some (d + 1)) (ha : a.tmps[d]? = some (.bool b)) (hp : p) :
    if Region.wanted o (yielded ops a.tmps) = true then p else q := by
  rw [h.want hg hd ha, beq_self_eq_true, if_pos rfl]; exact hp
end
end Go.Proofs.Ytpdblgchfkcgpaa
