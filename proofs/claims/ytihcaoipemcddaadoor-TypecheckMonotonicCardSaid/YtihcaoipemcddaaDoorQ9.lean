/-
  Contracts of the type checker (XQ9): products of 64 bits, powers below a limit.
-/
import Derived.Test.YtihcaoipemcddaaDoorQ8
namespace Go.Proofs.YtihcaoipemcddaaDoor
open Go.RowKit

set_option maxHeartbeats 2000000 in
theorem mul64P (x y : Nat) (hx : x < 18446744073709551616) (hy : y < 18446744073709551616) (w : World) :
    Calls Tryd.prog 67 #[.int .u64 x, .int .u64 y] w fun e w' => e = .returned (.tuple #[.int .u64 ((x * y / 18446744073709551616 : Nat) : Int), .int .u64 ((x * y % 18446744073709551616 : Nat) : Int)]) ∧ w = w' := by
  obtain ⟨bd, bt, bw, hhi⟩ := Lib.mul64_hi x y hx hy
  have ba := Lib.half_mul_le (a := x / 4294967296) (b := y / 4294967296) (by omega) (by omega)
  have bb := Lib.half_mul_le (a := x / 4294967296) (b := y % 4294967296) (by omega) (by omega)
  have bc := Lib.half_mul_le (a := x % 4294967296) (b := y / 4294967296) (by omega) (by omega)
  have ba' : x / 4294967296 * (y / 4294967296) < 18446744073709551616 := by omega
  have bb' : x / 4294967296 * (y % 4294967296) < 18446744073709551616 := by omega
  have bc' : x % 4294967296 * (y / 4294967296) < 18446744073709551616 := by omega
  have bh1 : x / 4294967296 * (y / 4294967296) + (x / 4294967296 * (y % 4294967296) + x % 4294967296 * (y % 4294967296) / 4294967296) / 4294967296 < 18446744073709551616 := by omega
  have bh : x / 4294967296 * (y / 4294967296) + (x / 4294967296 * (y % 4294967296) + x % 4294967296 * (y % 4294967296) / 4294967296) / 4294967296 + ((x / 4294967296 * (y % 4294967296) + x % 4294967296 * (y % 4294967296) / 4294967296) % 4294967296 + x % 4294967296 * (y / 4294967296)) / 4294967296 < 18446744073709551616 := by omega
  go_enter Tryd.func67, Tryd.ntmps67
  go_wp2
  simp only [Mul64.maskN x hx, Mul64.maskN y hy, Mul64.divN, Mul64.mulN, Mul64.addN, Mul64.wrapN _ bd, Mul64.wrapN _ bb', Mul64.wrapN _ bt, Mul64.maskN _ bt, Mul64.wrapN _ bc', Mul64.wrapN _ bw, Mul64.wrapN _ ba', Mul64.wrapN _ bh1, Mul64.wrapN _ bh, Mul64.wrapM (x * y)]
  rw [hhi]
  go_ret2
  exact ⟨rfl, rfl⟩
theorem mul64_small {x y z : Nat} (hz : x * y = z) (hlt : z < 18446744073709551616) (hx : x < 18446744073709551616) (hy : y < 18446744073709551616) (w : World) :
    Calls Tryd.prog 67 #[.int .u64 x, .int .u64 y] w fun e w' => e = .returned (.tuple #[.int .u64 0, .int .u64 (z : Int)]) ∧ w = w' := by
  have := mul64P x y hx hy w
  rw [hz, Nat.div_eq_of_lt hlt, Nat.mod_eq_of_lt hlt] at this
  exact this

/-- The two boxes of a multiplier: the product so far, and whether all were below the limit. -/
structure MulAt (g1 g2 : Nat) (p : Nat) (o : Bool) (w : World) : Prop where
  one : w.heap[g1]? = some (.cells #[.int .u64 p] 97 (0, 0))
  two : w.heap[g2]? = some (.cells #[.bool o] 4 (0, 0))
  ne : g1 ≠ g2
theorem MulAt.keep {g1 g2 p : Nat} {o : Bool} {w w' : World} (h : MulAt g1 g2 p o w) (hb : Below w.heap.size w w') : MulAt g1 g2 p o w' := ⟨(hb.block _ (heap_lt h.one)).trans h.one, (hb.block _ (heap_lt h.two)).trans h.two, h.ne⟩
theorem MulAt.drew {g1 g2 p : Nat} {o : Bool} {w : World} (h : MulAt g1 g2 p o w) : MulAt g1 g2 p o w.drew := ⟨h.one, h.two, h.ne⟩
def under62 (n : Nat) : Bool := decide (n < 4611686018427387904)
/-- What a multiplication leaves. -/
def MulRes (g1 g2 N z : Nat) (o : Bool) (w : World) (e : Ending) (w' : World) : Prop :=
  e = .returned (.tuple #[.int .i64 (wrap64 (z : Int)), .bool o]) ∧ MulAt g1 g2 z o w' ∧ Below N w w'
set_option maxHeartbeats 2000000 in
theorem mult1P {g1 g2 N p f z : Nat} {o : Bool} (w : World) (h : MulAt g1 g2 p o w) (h1 : N ≤ g1) (h2 : N ≤ g2) (hz : p * f = z) (hlt : z < 18446744073709551616) (hp : p < 18446744073709551616) (hf : f ≤ 255) :
    Calls Tryd.prog 66 #[.int .i64 f, .pointer (some ⟨g1, 0, none⟩), .pointer (some ⟨g2, 0, none⟩)] w (MulRes g1 g2 N z (o && under62 z) w) := by
  obtain ⟨e1, e2, hne⟩ := h
  have y1 := cell_of_row w g1 0 _ _ _ e1
  have y2 := cell_of_row w g2 0 _ _ _ e2
  have f1 : w.frozen? ⟨g1, 0, none⟩ = false := by simp [World.frozen?, e1]
  have f2 : w.frozen? ⟨g2, 0, none⟩ = false := by simp [World.frozen?, e2]
  have hne' : g2 ≠ g1 := fun e => hne e.symm
  simp only [List.getElem?_toArray, List.getElem?_cons_zero] at y1 y2
  have E1 := Lib.hid e1
  have E2 := Lib.hid e2
  have HZ := Lib.hid hz
  have hwf : IntKind.u64.wrap (f : Int) = (f : Int) := IntWalk.u64_in _ (by omega)
  clear e1 e2 hz
  have fin : ∀ o' : Bool, MulAt g1 g2 z o' ((w.setCell ⟨g2, 0, none⟩ (.bool o')).setCell ⟨g1, 0, none⟩ (.int .u64 (z : Int))) ∧ Below N w ((w.setCell ⟨g2, 0, none⟩ (.bool o')).setCell ⟨g1, 0, none⟩ (.int .u64 (z : Int))) := fun o' =>
    ⟨⟨heap_set (i := 0) ((Below.heap_setCell _ _ _ _ hne).trans E1.out), (Below.heap_setCell _ _ _ _ hne').trans (heap_set (i := 0) E2.out), hne⟩, ((Below.refl _ _).setCell h2 _).setCell h1 _⟩
  have Fin := Lib.hid fin
  clear fin
  cases o with
  | true =>
    by_cases hu : z < 4611686018427387904
    · have hu' : decide ((z : Int) < 4611686018427387904) = true := by simp; omega
      have hr : (true && under62 z) = true := decide_eq_true hu
      rw [hr]
      clear hr
      go_enter Tryd.func66, Tryd.ntmps66
      go_wp2_with (go_at_call 67; refine (mul64_small HZ.out hlt hp (by omega) _).mono ?_; rintro e w1 ⟨rfl, rfl⟩)
      go_region
      all_goals go_wp2_with fail
      all_goals go_ret2
      all_goals exact ⟨by rw [IntWalk.wrap64_in (z : Int) (by omega)]; rfl, (Fin.out true).1.drew, (Fin.out true).2.drew⟩
    · have hu' : decide ((z : Int) < 4611686018427387904) = false := by simp; omega
      have hr : (true && under62 z) = false := decide_eq_false hu
      rw [hr]
      clear hr
      go_enter Tryd.func66, Tryd.ntmps66
      go_wp2_with (go_at_call 67; refine (mul64_small HZ.out hlt hp (by omega) _).mono ?_; rintro e w1 ⟨rfl, rfl⟩)
      go_region
      all_goals go_wp2_with fail
      all_goals go_ret2
      all_goals exact ⟨rfl, (Fin.out false).1.drew, (Fin.out false).2.drew⟩
  | false =>
    rw [Bool.false_and]
    go_enter Tryd.func66, Tryd.ntmps66
    go_wp2_with (go_at_call 67; refine (mul64_small HZ.out hlt hp (by omega) _).mono ?_; rintro e w1 ⟨rfl, rfl⟩)
    go_region
    all_goals go_wp2_with fail
    all_goals go_ret2
    all_goals exact ⟨rfl, (Fin.out false).1.drew, (Fin.out false).2.drew⟩
theorem multiplierP (n : Nat) (w : World) (hn : n ≤ 65536) :
    Calls Tryd.prog 63 #[.int .i64 n] w fun e w' => e = .returned (.func (.func 66) #[] #[.pointer (some ⟨w.heap.size, 0, none⟩), .pointer (some ⟨w.heap.size + 1, 0, none⟩)]) ∧ MulAt w.heap.size (w.heap.size + 1) n true w' ∧ Below w.heap.size w w' := by
  have hwf : IntKind.u64.wrap (n : Int) = (n : Int) := IntWalk.u64_in _ (by omega)
  go_enter Tryd.func63, Tryd.ntmps63
  go_wp2_with fail
  go_ret
  exact ⟨rfl, ⟨(Below.heap_alloc _ _ _ (by simp)).trans (heap_alloc_at rfl), heap_alloc_at (by simp), by omega⟩, (by repeat' (first | with_reducible exact Below.refl _ _ | with_reducible assumption | with_reducible refine Below.setCell ?_ ?_ _ | with_reducible refine Below.drew ?_ | with_reducible refine below_drewN ?_ _ | with_reducible refine Below.alloc ?_ ?_ _ | (rintro _ ⟨⟩; simp <;> omega) | omega | (simp <;> omega)))⟩

theorem pow_fits {n m k : Nat} (hn : n ≤ 65536) (hm : m ≤ 255) (hk : k ≤ 6) : n * m ^ k < 18446744073709551616 := by
  have h1 : m ^ k ≤ 255 ^ 6 := Nat.le_trans (Nat.pow_le_pow_left hm k) (Nat.pow_le_pow_right (by omega) hk)
  have h2 : n * m ^ k ≤ 65536 * 255 ^ 6 := Nat.mul_le_mul hn h1
  exact Nat.lt_of_le_of_lt h2 (by decide)
/-- All powers up to k are below the limit just where the k-th is. -/
theorem under_all {n m k : Nat} (hn : n ≤ 65536) : (∀ j, j ≤ k → under62 (n * m ^ j) = true) ↔ under62 (n * m ^ k) = true := by
  refine ⟨fun h => h k (Nat.le_refl _), fun h j hj => ?_⟩
  unfold under62 at h ⊢
  simp only [decide_eq_true_eq] at h ⊢
  rcases Nat.eq_zero_or_pos m with rfl | hm
  · rcases Nat.eq_zero_or_pos j with rfl | hj0
    · simp; omega
    · rw [Nat.zero_pow hj0]; omega
  · exact Nat.lt_of_le_of_lt (Nat.mul_le_mul_left n (Nat.pow_le_pow_right hm hj)) h
def okTo (n m : Nat) : Nat → Bool
  | 0 => under62 n
  | k + 1 => okTo n m k && under62 (n * m ^ (k + 1))
theorem okTo_eq {n m : Nat} (hn : n ≤ 65536) : ∀ k, okTo n m k = under62 (n * m ^ k)
  | 0 => by simp [okTo]
  | k + 1 => by
    rw [okTo, okTo_eq hn k, Bool.eq_iff_iff, Bool.and_eq_true]
    exact ⟨fun h => h.2, fun h => ⟨(under_all hn).2 h k (by omega), h⟩⟩
set_option maxHeartbeats 2000000 in
theorem powerP {n m k P : Nat} (w : World) (hn : n ≤ 65536) (hm : m ≤ 255) (hk : k ≤ 6) (hP : n * m ^ k = P) :
    Calls Tryd.prog 58 #[.int .i64 n, .int .i64 m, .int .i64 k] w fun e w' => e = .returned (.tuple #[.int .i64 (wrap64 (P : Int)), .bool (under62 P)]) ∧ Below w.heap.size w w' := by
  have HO := Lib.hid (okTo_eq (m := m) hn k)
  have HP := Lib.hid hP
  clear hP
  go_enter Tryd.func58, Tryd.ntmps58
  go_wp2_with (first
    | (go_at_call 63; refine (multiplierP n _ hn).mono ?_; rintro e w1 ⟨rfl, hM1, hb1⟩; have HM1 := Lib.hid hM1; have HB1 := Lib.hid hb1; clear hM1 hb1)
    | (go_at_call 66; refine (mult1P (f := 1) (z := n) (N := w.heap.size) _ HM1.out (Nat.le_refl _) (by omega) (Nat.mul_one _) (by omega) (by omega) (by omega)).mono ?_; rintro e w2 ⟨rfl, hM2, hb2⟩; have HM2 := Lib.hid hM2; have HB2 := Lib.hid (HB1.out.trans hb2); clear hM2 hb2))
  go_loopw [9, 10, 19] (fun v b i wx => ∃ (j p : Nat) (o : Bool), j ≤ k ∧ i = .int .i64 j ∧ n * m ^ j = p ∧ okTo n m j = o ∧ v = .int .i64 (wrap64 (p : Int)) ∧ b = .bool o ∧ MulAt w.heap.size (w.heap.size + 1) p o wx ∧ Below w.heap.size w wx) (fun _ _ i _ => k - (intOf i).toNat)
  case atStart =>
    exact ⟨0, n, under62 n, Nat.zero_le _, rfl, by simp, rfl, rfl, rfl, HM2.out, HB2.out⟩
  case round =>
    obtain ⟨j, p, o, hj, rfl, hp, ho, rfl, rfl, hM, hb⟩ := hrel
    have HM := Lib.hid hM
    have HB := Lib.hid hb
    have Hp := Lib.hid hp
    have Ho := Lib.hid ho
    have hj0 : (0 : Int) ≤ (j : Int) := by omega
    have p1 := pow_fits hn hm (k := j) (by omega)
    rw [hp] at p1
    clear hM hb hp ho
    by_cases hlt : j < k
    · have hj1 : (j : Int) < (k : Int) := by omega
      obtain ⟨z, hz⟩ : ∃ z, n * m ^ (j + 1) = z := ⟨_, rfl⟩
      have p2 := pow_fits hn hm (k := j + 1) (by omega)
      rw [hz] at p2
      have hz' : p * m = z := by rw [← Hp.out, ← hz, Nat.pow_succ, Nat.mul_assoc]
      have hok : okTo n m (j + 1) = (o && under62 z) := by rw [← Ho.out, ← hz]; rfl
      have HZ := Lib.hid hz
      have HZ' := Lib.hid hz'
      have HK := Lib.hid hok
      clear hz hz' hok
      go_wp2_with (go_at_call 66; refine (mult1P (f := m) (z := z) (N := w.heap.size) _ HM.out (Nat.le_refl _) (by omega) HZ'.out p2 p1 hm).mono ?_; rintro e w3 ⟨rfl, hM3, hb3⟩)
      go_roundw
      case rel => exact ⟨j + 1, z, o && under62 z, by omega, by go_num, HZ.out, HK.out, rfl, rfl, hM3, HB.out.trans hb3⟩
      case measure => simp [intOf]; omega
    · have hj1 : ¬ (j : Int) < (k : Int) := by omega
      obtain rfl : j = k := by omega
      obtain rfl : p = P := Hp.out.symm.trans HP.out
      obtain rfl : o = under62 p := by rw [← Ho.out, HO.out, Hp.out]
      go_wp2_with fail
      go_ret2
      exact ⟨rfl, HB.out⟩
end Go.Proofs.YtihcaoipemcddaaDoor
