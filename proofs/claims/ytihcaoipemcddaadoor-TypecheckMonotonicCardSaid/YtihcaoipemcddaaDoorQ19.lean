/-
  Contracts of the queries' makers (XQ19): Same of numbers, MadeCond, MadeReading, Value, Match.
-/
import Derived.Test.YtihcaoipemcddaaDoorQ17
namespace Go.Proofs.YtihcaoipemcddaaDoor
open Go.RowKit

/-- 'x & m' lies between 0 and m. -/
theorem and_bd (x : Int) (m : Nat) (hm : m ≤ 65535) : ∃ r : Nat, bits BinOp.and IntKind.i64 x (m : Int) = (r : Int) ∧ r ≤ m := by
  have h2 : (BitVec.ofInt 64 (m : Int)).toNat = m := by
    rw [BitVec.ofInt_natCast, BitVec.toNat_ofNat]; exact Nat.mod_eq_of_lt (by omega)
  obtain ⟨r, hr⟩ : ∃ r, (BitVec.ofInt 64 x &&& BitVec.ofInt 64 (m : Int)).toNat = r := ⟨_, rfl⟩
  have hle : r ≤ m := by rw [← hr, BitVec.toNat_and, h2]; exact Nat.and_le_right
  refine ⟨r, ?_, hle⟩
  show IntKind.i64.wrap ((BitVec.ofInt 64 x &&& BitVec.ofInt 64 (m : Int)).toNat : Int) = _
  rw [hr]
  exact IntWalk.i64_in (r : Int) (by omega)
theorem tmod_bd (a m : Nat) (hm : 0 < m) : ∃ r : Nat, (a : Int).tmod (m : Int) = (r : Int) ∧ r < m := ⟨a % m, rfl, Nat.mod_lt _ hm⟩
set_option maxHeartbeats 2000000 in
theorem same14 {xs ys : List Int} {A B : Option Addr} {c d : Nat} {S T : Nat → Prop} (w : World) (h : Sl .i64 S w A c xs) (k : Sl .i64 T w B d ys) :
    Calls Tryd.prog 14 #[.slice A xs.length c, .slice B ys.length d] w fun e w' => e = .returned (.bool (decide (xs = ys))) ∧ Below w.heap.size w w' := by
  have hmx := h.max
  have hmy := k.max
  have H := Lib.hid h
  have K := Lib.hid k
  clear h k
  by_cases hl : xs.length = ys.length
  · have hlx : ((xs.length : Int) != (ys.length : Int)) = false := by rw [hl]; simp
    have hl0 := Lib.hid hl
    clear hl
    go_enter Tryd.func14, Tryd.ntmps14
    go_wp2_with fail
    go_loopw [5] (fun i wr => ∃ j : Nat, j ≤ xs.length ∧ i = .int .i64 j ∧ Hid (xs.take j = ys.take j) ∧ Below w.heap.size w wr) (fun i _ => xs.length - (intOf i).toNat)
    case atStart => exact ⟨0, Nat.zero_le _, rfl, Lib.hid rfl, Below.refl _ _⟩
    case round =>
      obtain ⟨j, hj, rfl, ht, hb⟩ := hrel
      have B1 := Lib.hid hb
      clear hb
      have hj0 : (0 : Int) ≤ (j : Int) := by omega
      by_cases hlt : j < xs.length
      · obtain ⟨x, hx⟩ : ∃ x, xs[j]? = some x := ⟨_, List.getElem?_eq_getElem hlt⟩
        obtain ⟨y, hy⟩ : ∃ y, ys[j]? = some y := ⟨_, List.getElem?_eq_getElem (by have := hl0.out; omega)⟩
        obtain ⟨b2, o2, rfl, -, hb2, x0⟩ := i64_at (H.out.keep (Below.agree B1.out)) hx
        obtain ⟨b3, o3, rfl, -, hb3, y0⟩ := i64_at (K.out.keep (Below.agree B1.out)) hy
        have hj1 : (j : Int) < (xs.length : Int) := by omega
        have hj2 : (j : Int) < (ys.length : Int) := by have := hl0.out; omega
        have Hx := Lib.hid hx
        have Hy := Lib.hid hy
        clear hx hy
        by_cases hxy : x = y
        · have hn : (x != y) = false := by simp [hxy]
          have Hxy := Lib.hid hxy
          clear hxy
          go_wp2_with fail
          go_quiet (fail)
          go_wp2_with fail
          go_roundw
          case rel => exact ⟨j + 1, by omega, by go_num, Lib.hid (by rw [take_snocR Hx.out, take_snocR Hy.out, ht.out, Hxy.out]), below_drewN B1.out _⟩
          case measure => simp [intOf]; omega
        · have hn : (x != y) = true := by simp [hxy]
          have hf := Lib.hid (show decide (xs = ys) = false from decide_eq_false fun e => hxy (by have h1 := Hx.out; rw [e, Hy.out] at h1; injection h1 with h1; exact h1.symm))
          clear hxy
          go_wp2_with fail
          go_quiet (fail)
          go_wp2_with fail
          go_ret
          exact ⟨ret_b hf.out.symm, below_drewN B1.out _⟩
      · have hj1 : ¬ (j : Int) < (xs.length : Int) := by omega
        have he := Lib.hid (show decide (xs = ys) = true from decide_eq_true (by have h1 := ht.out; rw [List.take_of_length_le (by omega), List.take_of_length_le (by have := hl0.out; omega)] at h1; exact h1))
        go_wp2_with fail
        go_ret
        exact ⟨ret_b he.out.symm, B1.out⟩
  · have hlx : ((xs.length : Int) != (ys.length : Int)) = true := by simp; omega
    have hf : decide (xs = ys) = false := decide_eq_false fun e => hl (by rw [e])
    rw [hf]
    clear hl hf
    go_enter Tryd.func14, Tryd.ntmps14
    go_wp2_with fail
    go_ret
    exact ⟨rfl, Below.refl _ _⟩
set_option maxHeartbeats 2000000 in
theorem madeCdP (c : Cd) (w : World) : Calls Tryd.prog 23 #[(.agg #[.int .i64 c.col, .int .i64 c.lo, .int .i64 c.hi])] w fun e w' => ∃ x : Cd, ValidCd x ∧ e = .returned (.agg #[.int .i64 x.col, .int .i64 x.lo, .int .i64 x.hi]) ∧ Below w.heap.size w w' := by
  obtain ⟨k, hk, hk3⟩ : ∃ r : Nat, bits BinOp.and IntKind.i64 c.col 3 = (r : Int) ∧ r ≤ 3 := and_bd c.col 3 (by omega)
  obtain ⟨a, ha, ha3⟩ : ∃ r : Nat, bits BinOp.and IntKind.i64 c.lo 65535 = (r : Int) ∧ r ≤ 65535 := and_bd c.lo 65535 (by omega)
  obtain ⟨b, hb, hb3⟩ : ∃ r : Nat, bits BinOp.and IntKind.i64 c.hi 65535 = (r : Int) ∧ r ≤ 65535 := and_bd c.hi 65535 (by omega)
  have hM0 := maxC_pos (k : Int)
  obtain ⟨M, hM⟩ : ∃ M : Nat, maxC (k : Int) = M := ⟨(maxC (k : Int)).toNat, by omega⟩
  rw [hM] at hM0
  obtain ⟨r, hr, hrM⟩ := tmod_bd a (M + 1) (by omega)
  obtain ⟨s, hs, hsM⟩ := tmod_bd b (M + 1) (by omega)
  have hr' : (a : Int).tmod ((M : Int) + 1) = (r : Int) := hr
  have hs' : (b : Int).tmod ((M : Int) + 1) = (s : Int) := hs
  have hMM := Lib.hid hM
  clear hM hr hs
  rcases (by omega : s < r ∨ r < s ∨ r = s) with h | h | h
  · have g1 : (s : Int) < (r : Int) := by omega
    have g2 : ¬ (r : Int) < (s : Int) := by omega
    (try subst h)
    go_enter Tryd.func23, Tryd.ntmps23
    go_wp2_with (go_at_call 26; refine (maxRef _ _).mono ?_; rw [hMM.out]; rintro e w2 ⟨rfl, rfl⟩)
    go_quiet (fail)
    go_wp2_with fail
    exact bodyPost_ret (v := .agg #[.int .i64 k, .int .i64 s, .int .i64 r]) (by simp [results, Tryd.results23, go_sem, *]) rfl ⟨⟨k, s, r⟩, ⟨⟨by dsimp only; omega, by dsimp only; omega⟩, by dsimp only; omega, by dsimp only; omega, by dsimp only; rw [hMM.out]; omega⟩, rfl, (by repeat' (first | with_reducible exact Below.refl _ _ | with_reducible assumption | with_reducible refine Below.setCell ?_ ?_ _ | with_reducible refine Below.drew ?_ | with_reducible refine below_drewN ?_ _ | with_reducible refine Below.alloc ?_ ?_ _ | (rintro _ ⟨⟩; simp <;> omega) | omega | (simp <;> omega)))⟩
  · have g1 : (r : Int) < (s : Int) := by omega
    have g2 : ¬ (s : Int) < (r : Int) := by omega
    (try subst h)
    go_enter Tryd.func23, Tryd.ntmps23
    go_wp2_with (go_at_call 26; refine (maxRef _ _).mono ?_; rw [hMM.out]; rintro e w2 ⟨rfl, rfl⟩)
    go_quiet (fail)
    go_wp2_with fail
    exact bodyPost_ret (v := .agg #[.int .i64 k, .int .i64 r, .int .i64 s]) (by simp [results, Tryd.results23, go_sem, *]) rfl ⟨⟨k, r, s⟩, ⟨⟨by dsimp only; omega, by dsimp only; omega⟩, by dsimp only; omega, by dsimp only; omega, by dsimp only; rw [hMM.out]; omega⟩, rfl, (by repeat' (first | with_reducible exact Below.refl _ _ | with_reducible assumption | with_reducible refine Below.setCell ?_ ?_ _ | with_reducible refine Below.drew ?_ | with_reducible refine below_drewN ?_ _ | with_reducible refine Below.alloc ?_ ?_ _ | (rintro _ ⟨⟩; simp <;> omega) | omega | (simp <;> omega)))⟩
  · have g1 : ¬ (r : Int) < (r : Int) := by omega
    have g2 : ¬ (r : Int) < (r : Int) := by omega
    (try subst h)
    go_enter Tryd.func23, Tryd.ntmps23
    go_wp2_with (go_at_call 26; refine (maxRef _ _).mono ?_; rw [hMM.out]; rintro e w2 ⟨rfl, rfl⟩)
    go_quiet (fail)
    go_wp2_with fail
    exact bodyPost_ret (v := .agg #[.int .i64 k, .int .i64 r, .int .i64 r]) (by simp [results, Tryd.results23, go_sem, *]) rfl ⟨⟨k, r, r⟩, ⟨⟨by dsimp only; omega, by dsimp only; omega⟩, by dsimp only; omega, by dsimp only; omega, by dsimp only; rw [hMM.out]; omega⟩, rfl, (by repeat' (first | with_reducible exact Below.refl _ _ | with_reducible assumption | with_reducible refine Below.setCell ?_ ?_ _ | with_reducible refine Below.drew ?_ | with_reducible refine below_drewN ?_ _ | with_reducible refine Below.alloc ?_ ?_ _ | (rintro _ ⟨⟩; simp <;> omega) | omega | (simp <;> omega)))⟩
theorem madeRdP (c : Rd) (w : World) : Calls Tryd.prog 20 #[.agg #[.int .i64 c.who, .int .i64 c.whn, .int .i64 c.knd, .int .i64 c.val]] w fun e w' => ∃ x : Rd, ValidR x ∧ e = .returned (.agg #[.int .i64 x.who, .int .i64 x.whn, .int .i64 x.knd, .int .i64 x.val]) ∧ Below w.heap.size w w' := by
  obtain ⟨k, hk, hk3⟩ : ∃ r : Nat, bits BinOp.and IntKind.i64 c.who 15 = (r : Int) ∧ r ≤ 15 := and_bd c.who 15 (by omega)
  obtain ⟨a, ha, ha3⟩ : ∃ r : Nat, bits BinOp.and IntKind.i64 c.whn 255 = (r : Int) ∧ r ≤ 255 := and_bd c.whn 255 (by omega)
  obtain ⟨b, hb, hb3⟩ : ∃ r : Nat, bits BinOp.and IntKind.i64 c.knd 15 = (r : Int) ∧ r ≤ 15 := and_bd c.knd 15 (by omega)
  obtain ⟨d, hd, hd3⟩ : ∃ r : Nat, bits BinOp.and IntKind.i64 c.val 255 = (r : Int) ∧ r ≤ 255 := and_bd c.val 255 (by omega)
  go_enter Tryd.func20, Tryd.ntmps20
  go_wp2_with fail
  exact bodyPost_ret (v := .agg #[.int .i64 k, .int .i64 a, .int .i64 b, .int .i64 d]) (by simp [results, Tryd.results20, go_sem, *]) rfl ⟨⟨k, a, b, d⟩, (by unfold ValidR; dsimp only; omega), rfl, (by repeat' (first | with_reducible exact Below.refl _ _ | with_reducible assumption | with_reducible refine Below.setCell ?_ ?_ _ | with_reducible refine Below.drew ?_ | with_reducible refine below_drewN ?_ _ | with_reducible refine Below.alloc ?_ ?_ _ | (rintro _ ⟨⟩; simp <;> omega) | omega | (simp <;> omega)))⟩
end Go.Proofs.YtihcaoipemcddaaDoor
