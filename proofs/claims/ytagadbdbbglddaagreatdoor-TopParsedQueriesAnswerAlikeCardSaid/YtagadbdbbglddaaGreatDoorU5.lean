/-
  Texts of this claim, merged: Q9, Q10, Q11. Conditions: as each theorem says.
-/
import Derived.Test.YtagadbdbbglddaaGreatDoorU1
import Derived.Test.YtagadbdbbglddaaGreatDoorU2
import Derived.Test.YtagadbdbbglddaaGreatDoorU3
import Derived.Test.YtagadbdbbglddaaGreatDoorU4
set_option linter.unusedSimpArgs false
set_option linter.unusedVariables false
namespace Go.Proofs.YtagadbdbbglddaaGreatDoor
open Go.RowKit

set_option maxHeartbeats 2000000 in
theorem mul64P (x y : Nat) (hx : x < 18446744073709551616) (hy : y < 18446744073709551616) (w : World) :
    Calls Tryz.prog 118 #[.int .u64 x, .int .u64 y] w fun e w' => e = .returned (.tuple #[.int .u64 ((x * y / 18446744073709551616 : Nat) : Int), .int .u64 ((x * y % 18446744073709551616 : Nat) : Int)]) ∧ w = w' := by
  obtain ⟨bd, bt, bw, hhi⟩ := Lib.mul64_hi x y hx hy
  have ba := Lib.half_mul_le (a := x / 4294967296) (b := y / 4294967296) (by omega) (by omega)
  have bb := Lib.half_mul_le (a := x / 4294967296) (b := y % 4294967296) (by omega) (by omega)
  have bc := Lib.half_mul_le (a := x % 4294967296) (b := y / 4294967296) (by omega) (by omega)
  have ba' : x / 4294967296 * (y / 4294967296) < 18446744073709551616 := by omega
  have bb' : x / 4294967296 * (y % 4294967296) < 18446744073709551616 := by omega
  have bc' : x % 4294967296 * (y / 4294967296) < 18446744073709551616 := by omega
  have bh1 : x / 4294967296 * (y / 4294967296) + (x / 4294967296 * (y % 4294967296) + x % 4294967296 * (y % 4294967296) / 4294967296) / 4294967296 < 18446744073709551616 := by omega
  have bh : x / 4294967296 * (y / 4294967296) + (x / 4294967296 * (y % 4294967296) + x % 4294967296 * (y % 4294967296) / 4294967296) / 4294967296 + ((x / 4294967296 * (y % 4294967296) + x % 4294967296 * (y % 4294967296) / 4294967296) % 4294967296 + x % 4294967296 * (y / 4294967296)) / 4294967296 < 18446744073709551616 := by omega
  go_enter Tryz.func118, Tryz.ntmps118
  go_wp2
  simp only [Mul64.maskN x hx, Mul64.maskN y hy, Mul64.divN, Mul64.mulN, Mul64.addN, Mul64.wrapN _ bd, Mul64.wrapN _ bb', Mul64.wrapN _ bt, Mul64.maskN _ bt, Mul64.wrapN _ bc', Mul64.wrapN _ bw, Mul64.wrapN _ ba', Mul64.wrapN _ bh1, Mul64.wrapN _ bh, Mul64.wrapM (x * y)]
  rw [hhi]
  go_ret2
  exact ⟨rfl, rfl⟩
theorem mul64_small {x y z : Nat} (hz : x * y = z) (hlt : z < 18446744073709551616) (hx : x < 18446744073709551616) (hy : y < 18446744073709551616) (w : World) :
    Calls Tryz.prog 118 #[.int .u64 x, .int .u64 y] w fun e w' => e = .returned (.tuple #[.int .u64 0, .int .u64 (z : Int)]) ∧ w = w' := by
  have := mul64P x y hx hy w
  rw [hz, Nat.div_eq_of_lt hlt, Nat.mod_eq_of_lt hlt] at this
  exact this

/-- The two boxes of a multiplier: the product so far, and whether all were below the limit. -/
structure MulAt (g1 g2 : Nat) (p : Nat) (o : Bool) (w : World) : Prop where
  one : w.heap[g1]? = some (.cells #[.int .u64 p] 151 (0, 0))
  two : w.heap[g2]? = some (.cells #[.bool o] 4 (0, 0))
  ne : g1 ≠ g2
theorem MulAt.keep {g1 g2 p : Nat} {o : Bool} {w w' : World} (h : MulAt g1 g2 p o w) (hb : Below w.heap.size w w') : MulAt g1 g2 p o w' := ⟨(hb.block _ (heap_lt h.one)).trans h.one, (hb.block _ (heap_lt h.two)).trans h.two, h.ne⟩
theorem MulAt.drew {g1 g2 p : Nat} {o : Bool} {w : World} (h : MulAt g1 g2 p o w) : MulAt g1 g2 p o w.drew := ⟨h.one, h.two, h.ne⟩
def under62 (n : Nat) : Bool := decide (n < 4611686018427387904)
/-- What a multiplication leaves. -/
def MulRes (g1 g2 N z : Nat) (o : Bool) (w : World) (e : Ending) (w' : World) : Prop :=
  e = .returned (.tuple #[.int .i64 (wrap64 (z : Int)), .bool o]) ∧ MulAt g1 g2 z o w' ∧ Below N w w'
set_option maxHeartbeats 2000000 in
theorem mult1P {g1 g2 N p f z : Nat} {o : Bool} (w : World) (h : MulAt g1 g2 p o w) (h1 : N ≤ g1) (h2 : N ≤ g2) (hz : p * f = z) (hlt : z < 18446744073709551616) (hp : p < 18446744073709551616) (hf : f ≤ 255) :
    Calls Tryz.prog 117 #[.int .i64 f, .pointer (some ⟨g1, 0, none⟩), .pointer (some ⟨g2, 0, none⟩)] w (MulRes g1 g2 N z (o && under62 z) w) := by
  obtain ⟨e1, e2, hne⟩ := h
  have y1 := cell_of_row w g1 0 _ _ _ e1
  have y2 := cell_of_row w g2 0 _ _ _ e2
  have f1 : w.frozen? ⟨g1, 0, none⟩ = false := by simp [World.frozen?, e1]
  have f2 : w.frozen? ⟨g2, 0, none⟩ = false := by simp [World.frozen?, e2]
  have hne' : g2 ≠ g1 := fun e => hne e.symm
  simp only [List.getElem?_toArray, List.getElem?_cons_zero] at y1 y2
  have E1 := Lib.hid e1
  have E2 := Lib.hid e2
  have HZ := Lib.hid hz
  have hwf : IntKind.u64.wrap (f : Int) = (f : Int) := IntWalk.u64_in _ (by omega)
  clear e1 e2 hz
  have fin : ∀ o' : Bool, MulAt g1 g2 z o' ((w.setCell ⟨g2, 0, none⟩ (.bool o')).setCell ⟨g1, 0, none⟩ (.int .u64 (z : Int))) ∧ Below N w ((w.setCell ⟨g2, 0, none⟩ (.bool o')).setCell ⟨g1, 0, none⟩ (.int .u64 (z : Int))) := fun o' =>
    ⟨⟨heap_set (i := 0) ((Below.heap_setCell _ _ _ _ hne).trans E1.out), (Below.heap_setCell _ _ _ _ hne').trans (heap_set (i := 0) E2.out), hne⟩, ((Below.refl _ _).setCell h2 _).setCell h1 _⟩
  have Fin := Lib.hid fin
  clear fin
  cases o with
  | true =>
    by_cases hu : z < 4611686018427387904
    · have hu' : decide ((z : Int) < 4611686018427387904) = true := by simp; omega
      have hr : (true && under62 z) = true := decide_eq_true hu
      rw [hr]
      clear hr
      go_enter Tryz.func117, Tryz.ntmps117
      go_wp2_with (go_at_call 118; refine (mul64_small HZ.out hlt hp (by omega) _).mono ?_; rintro e w1 ⟨rfl, rfl⟩)
      go_region
      all_goals go_wp2_with fail
      all_goals go_ret2
      all_goals exact ⟨by rw [IntWalk.wrap64_in (z : Int) (by omega)]; rfl, (Fin.out true).1.drew, (Fin.out true).2.drew⟩
    · have hu' : decide ((z : Int) < 4611686018427387904) = false := by simp; omega
      have hr : (true && under62 z) = false := decide_eq_false hu
      rw [hr]
      clear hr
      go_enter Tryz.func117, Tryz.ntmps117
      go_wp2_with (go_at_call 118; refine (mul64_small HZ.out hlt hp (by omega) _).mono ?_; rintro e w1 ⟨rfl, rfl⟩)
      go_region
      all_goals go_wp2_with fail
      all_goals go_ret2
      all_goals exact ⟨rfl, (Fin.out false).1.drew, (Fin.out false).2.drew⟩
  | false =>
    rw [Bool.false_and]
    go_enter Tryz.func117, Tryz.ntmps117
    go_wp2_with (go_at_call 118; refine (mul64_small HZ.out hlt hp (by omega) _).mono ?_; rintro e w1 ⟨rfl, rfl⟩)
    go_region
    all_goals go_wp2_with fail
    all_goals go_ret2
    all_goals exact ⟨rfl, (Fin.out false).1.drew, (Fin.out false).2.drew⟩
theorem multiplierP (n : Nat) (w : World) (hn : n ≤ 65536) :
    Calls Tryz.prog 105 #[.int .i64 n] w fun e w' => e = .returned (.func (.func 117) #[] #[.pointer (some ⟨w.heap.size, 0, none⟩), .pointer (some ⟨w.heap.size + 1, 0, none⟩)]) ∧ MulAt w.heap.size (w.heap.size + 1) n true w' ∧ Below w.heap.size w w' := by
  have hwf : IntKind.u64.wrap (n : Int) = (n : Int) := IntWalk.u64_in _ (by omega)
  go_enter Tryz.func105, Tryz.ntmps105
  go_wp2_with fail
  go_ret
  exact ⟨rfl, ⟨(Below.heap_alloc _ _ _ (by simp)).trans (heap_alloc_at rfl), heap_alloc_at (by simp), by omega⟩, (by repeat' (first | with_reducible exact Below.refl _ _ | with_reducible assumption | with_reducible refine Below.setCell ?_ ?_ _ | with_reducible refine Below.drew ?_ | with_reducible refine below_drewN ?_ _ | with_reducible refine Below.alloc ?_ ?_ _ | (rintro _ ⟨⟩; simp <;> omega) | omega | (simp <;> omega)))⟩

theorem pow_fits {n m k : Nat} (hn : n ≤ 65536) (hm : m ≤ 255) (hk : k ≤ 6) : n * m ^ k < 18446744073709551616 := by
  have h1 : m ^ k ≤ 255 ^ 6 := Nat.le_trans (Nat.pow_le_pow_left hm k) (Nat.pow_le_pow_right (by omega) hk)
  have h2 : n * m ^ k ≤ 65536 * 255 ^ 6 := Nat.mul_le_mul hn h1
  exact Nat.lt_of_le_of_lt h2 (by decide)
/-- All powers up to k are below the limit just where the k-th is. -/
theorem under_all {n m k : Nat} (hn : n ≤ 65536) : (∀ j, j ≤ k → under62 (n * m ^ j) = true) ↔ under62 (n * m ^ k) = true := by
  refine ⟨fun h => h k (Nat.le_refl _), fun h j hj => ?_⟩
  unfold under62 at h ⊢
  simp only [decide_eq_true_eq] at h ⊢
  rcases Nat.eq_zero_or_pos m with rfl | hm
  · rcases Nat.eq_zero_or_pos j with rfl | hj0
    · simp; omega
    · rw [Nat.zero_pow hj0]; omega
  · exact Nat.lt_of_le_of_lt (Nat.mul_le_mul_left n (Nat.pow_le_pow_right hm hj)) h
def okTo (n m : Nat) : Nat → Bool
  | 0 => under62 n
  | k + 1 => okTo n m k && under62 (n * m ^ (k + 1))
theorem okTo_eq {n m : Nat} (hn : n ≤ 65536) : ∀ k, okTo n m k = under62 (n * m ^ k)
  | 0 => by simp [okTo]
  | k + 1 => by
    rw [okTo, okTo_eq hn k, Bool.eq_iff_iff, Bool.and_eq_true]
    exact ⟨fun h => h.2, fun h => ⟨(under_all hn).2 h k (by omega), h⟩⟩
set_option maxHeartbeats 2000000 in
theorem powerP {n m k P : Nat} (w : World) (hn : n ≤ 65536) (hm : m ≤ 255) (hk : k ≤ 6) (hP : n * m ^ k = P) :
    Calls Tryz.prog 88 #[.int .i64 n, .int .i64 m, .int .i64 k] w fun e w' => e = .returned (.tuple #[.int .i64 (wrap64 (P : Int)), .bool (under62 P)]) ∧ Below w.heap.size w w' := by
  have HO := Lib.hid (okTo_eq (m := m) hn k)
  have HP := Lib.hid hP
  clear hP
  go_enter Tryz.func88, Tryz.ntmps88
  go_wp2_with (first
    | (go_at_call 105; refine (multiplierP n _ hn).mono ?_; rintro e w1 ⟨rfl, hM1, hb1⟩; have HM1 := Lib.hid hM1; have HB1 := Lib.hid hb1; clear hM1 hb1)
    | (go_at_call 117; refine (mult1P (f := 1) (z := n) (N := w.heap.size) _ HM1.out (Nat.le_refl _) (by omega) (Nat.mul_one _) (by omega) (by omega) (by omega)).mono ?_; rintro e w2 ⟨rfl, hM2, hb2⟩; have HM2 := Lib.hid hM2; have HB2 := Lib.hid (HB1.out.trans hb2); clear hM2 hb2))
  go_loopw [9, 10, 19] (fun v b i wx => ∃ (j p : Nat) (o : Bool), j ≤ k ∧ i = .int .i64 j ∧ n * m ^ j = p ∧ okTo n m j = o ∧ v = .int .i64 (wrap64 (p : Int)) ∧ b = .bool o ∧ MulAt w.heap.size (w.heap.size + 1) p o wx ∧ Below w.heap.size w wx) (fun _ _ i _ => k - (intOf i).toNat)
  case atStart =>
    exact ⟨0, n, under62 n, Nat.zero_le _, rfl, by simp, rfl, rfl, rfl, HM2.out, HB2.out⟩
  case round =>
    obtain ⟨j, p, o, hj, rfl, hp, ho, rfl, rfl, hM, hb⟩ := hrel
    have HM := Lib.hid hM
    have HB := Lib.hid hb
    have Hp := Lib.hid hp
    have Ho := Lib.hid ho
    have hj0 : (0 : Int) ≤ (j : Int) := by omega
    have p1 := pow_fits hn hm (k := j) (by omega)
    rw [hp] at p1
    clear hM hb hp ho
    by_cases hlt : j < k
    · have hj1 : (j : Int) < (k : Int) := by omega
      obtain ⟨z, hz⟩ : ∃ z, n * m ^ (j + 1) = z := ⟨_, rfl⟩
      have p2 := pow_fits hn hm (k := j + 1) (by omega)
      rw [hz] at p2
      have hz' : p * m = z := by rw [← Hp.out, ← hz, Nat.pow_succ, Nat.mul_assoc]
      have hok : okTo n m (j + 1) = (o && under62 z) := by rw [← Ho.out, ← hz]; rfl
      have HZ := Lib.hid hz
      have HZ' := Lib.hid hz'
      have HK := Lib.hid hok
      clear hz hz' hok
      go_wp2_with (go_at_call 117; refine (mult1P (f := m) (z := z) (N := w.heap.size) _ HM.out (Nat.le_refl _) (by omega) HZ'.out p2 p1 hm).mono ?_; rintro e w3 ⟨rfl, hM3, hb3⟩)
      go_roundw
      case rel => exact ⟨j + 1, z, o && under62 z, by omega, by go_num, HZ.out, HK.out, rfl, rfl, hM3, HB.out.trans hb3⟩
      case measure => simp [intOf]; omega
    · have hj1 : ¬ (j : Int) < (k : Int) := by omega
      obtain rfl : j = k := by omega
      obtain rfl : p = P := Hp.out.symm.trans HP.out
      obtain rfl : o = under62 p := by rw [← Ho.out, HO.out, Hp.out]
      go_wp2_with fail
      go_ret2
      exact ⟨rfl, HB.out⟩
end Go.Proofs.YtagadbdbbglddaaGreatDoor
namespace Go.Proofs.YtagadbdbbglddaaGreatDoor
open Go.RowKit

def WidB (N : Nat) (w : World) : Prop := ∃ b es clock, w.cell? ⟨0, 0, none⟩ = some (.map (some b)) ∧ 0 < N ∧ b < N ∧ b < w.heap.size ∧ w.heap[b]? = some (.map es clock) ∧
  ∀ W : World, W.heap[b]? = some (.map es clock) → ∀ k : Int, -9223372036854775808 ≤ k → k ≤ 9223372036854775807 → (Instr.lookup 106 (.map (some b)) (.int .i64 k) false).run Tryz.prog W = .ok (.int .i64 (bitsC k)) W
theorem WidOk.toB {w : World} {N : Nat} (h : WidOk w) (hN : w.heap.size ≤ N) : WidB N w := by
  obtain ⟨b, es, clock, h1, h2, h3⟩ := h
  have := World.block_lt_of_cell? w _ h1
  have := heap_lt h2
  exact ⟨b, es, clock, h1, by simp only at *; omega, by omega, by omega, h2, h3⟩
theorem WidB.ok {w : World} {N : Nat} (h : WidB N w) : WidOk w := by
  obtain ⟨b, es, clock, h1, _, _, _, h2, h3⟩ := h
  exact ⟨b, es, clock, h1, h2, h3⟩
theorem WidB.keep {w w' : World} {N : Nat} (h : WidB N w) (hb : Below N w w') : WidB N w' := by
  obtain ⟨b, es, clock, h1, h2, h3, h4, h5, h6⟩ := h
  exact ⟨b, es, clock, (hb.cell (p := ⟨0, 0, none⟩) h2).trans h1, h2, h3, Nat.lt_of_lt_of_le h4 hb.size, (hb.block b h3).trans h5, h6⟩
theorem i64sT : SlT Tryz.prog 33 2 Enc.i64 8 := ⟨Tryz.underlying33, by kernel_rfl, by decide⟩
def bucketS (s : Int × Int) (l : List Cd) (rows : Int) (v : Nat) : Int := if inB_ s v && satB l then rows else 0
def bucketsS (s : Int × Int) (l : List Cd) (rows : Int) : List Int := (List.range 16).map (bucketS s l rows)
/-- What buckets' closure keeps: the range, the filter, the row that it lengthens. -/
structure Bk (w0 : World) (N base g1 g2 g3 : Nat) (s : Int × Int) (l : List Cd) (A : Option Addr) (c : Nat) (v : Value) (ys : List Int) (wx : World) : Prop where
  own : Own Enc.i64 (fun _ => False) wx base 2 v ys
  ap : ∀ k, v.ownBlock = some k → k ≠ g1 ∧ k ≠ g2 ∧ k ≠ g3
  b1 : wx.heap[g1]? = some (.cells #[.int .i64 s.1, .int .i64 s.2] 135 (0, 0))
  b2 : wx.heap[g2]? = some (.cells #[.slice A l.length c] 55 (0, 0))
  b3 : wx.heap[g3]? = some (.cells #[v] 33 (0, 0))
  bel : Below N w0 wx
  wid : WidB N wx
  flt : Sl cdE (fun b => b < N) wx A c l
section
variable {w0 wx w' : World} {N base g1 g2 g3 : Nat} {s : Int × Int} {l : List Cd} {A : Option Addr} {c : Nat} {v v' : Value} {ys zs : List Int}
theorem Bk.call (h : Bk w0 N base g1 g2 g3 s l A c v ys wx) (hN : N ≤ wx.heap.size) (hb : Below wx.heap.size wx w') : Bk w0 N base g1 g2 g3 s l A c v ys w' :=
  ⟨h.own.call hb, h.ap, (hb.block _ (heap_lt h.b1)).trans h.b1, (hb.block _ (heap_lt h.b2)).trans h.b2, (hb.block _ (heap_lt h.b3)).trans h.b3, h.bel.trans (hb.mono hN), h.wid.keep (hb.mono hN), h.flt.keep (Below.agree hb)⟩
/-- One number appended, and the longer row laid back. -/
theorem Bk.app {o : Obj} (h : Bk w0 N base g1 g2 g3 s l A c v ys wx) (hN : N ≤ wx.heap.size) (hNb : N ≤ base) (hN3 : N ≤ g3) (h13 : g1 ≠ g3) (h23 : g2 ≠ g3) (ho : Own Enc.i64 (fun b => b = wx.heap.size) w' base 2 v' zs) (hg : (wx.alloc o).grownBy w' v.ownBlock)
    (hor : ∀ g, v'.ownBlock = some g → v.ownBlock = some g ∨ (wx.alloc o).heap.size = g) : Bk w0 N base g1 g2 g3 s l A c v' zs (w'.setCell ⟨g3, 0, none⟩ v') := by
  have hz := hg.size
  simp at hz
  have l1 := heap_lt h.b1
  have l2 := heap_lt h.b2
  have l3 := heap_lt h.b3
  have ap' : ∀ k, v'.ownBlock = some k → k ≠ g1 ∧ k ≠ g2 ∧ k ≠ g3 := by
    intro k hk
    rcases hor k hk with e | e
    · exact h.ap k e
    · simp at e; omega
  have blk : ∀ b, b < wx.heap.size → (∀ k, v.ownBlock = some k → k ≠ b) → w'.heap[b]? = wx.heap[b]? := fun b hb hne =>
    (hg.block b (by simp; omega) (fun e => hne b e.symm rfl)).trans (Below.heap_alloc _ _ _ hb)
  have hB : Below N wx w' := ((Below.refl N wx).alloc hN _).grown hg (by simp; omega) (fun k hk => by have := (h.own.lt k hk).1; omega)
  refine ⟨(ho.flat i64_flat).set (fun e => (ap' g3 e).2.2 rfl) (fun h => h) _, ap', ?_, ?_, ?_, ?_, ?_, ?_⟩
  · exact (Below.heap_setCell _ _ _ _ h13).trans ((blk g1 l1 (fun k hk => (h.ap k hk).1)).trans h.b1)
  · exact (Below.heap_setCell _ _ _ _ h23).trans ((blk g2 l2 (fun k hk => (h.ap k hk).2.1)).trans h.b2)
  · exact heap_set (i := 0) ((blk g3 l3 (fun k hk => (h.ap k hk).2.2)).trans h.b3)
  · exact (h.bel.trans hB).setCell hN3 _
  · exact h.wid.keep (hB.setCell hN3 _)
  · exact h.flt.keep ((Agree.refl _ _).below (hB.setCell (p := ⟨g3, 0, none⟩) hN3 v') (fun _ h _ => h))
theorem g3cell {o : Obj} (h : Bk w0 N base g1 g2 g3 s l A c v ys wx) (hN : N ≤ wx.heap.size) (hg : (wx.alloc o).grownBy w' v.ownBlock) : w'.cell? ⟨g3, 0, none⟩ = some v ∧ w'.frozen? ⟨g3, 0, none⟩ = false := by
  have l3 := heap_lt h.b3
  have e : w'.heap[g3]? = some (.cells #[v] 33 (0, 0)) := (hg.block g3 (by simp; omega) (fun e => (h.ap g3 e.symm).2.2 rfl)).trans ((Below.heap_alloc _ _ _ l3).trans h.b3)
  exact ⟨cell_of_row _ _ 0 _ _ _ e, by simp [World.frozen?, e]⟩
end
/-- What the closure leaves. -/
def BkRes (w0 : World) (N base g1 g2 g3 : Nat) (s : Int × Int) (l : List Cd) (A : Option Addr) (c : Nat) (zs : List Int) (e : Ending) (w' : World) : Prop :=
  ∃ B n d, e = .returned (.slice B n d) ∧ n = zs.length ∧ Bk w0 N base g1 g2 g3 s l A c (.slice B n d) zs w'
set_option maxRecDepth 100000 in
set_option maxHeartbeats 4000000 in
theorem buckets1P {w0 : World} {N base g1 g2 g3 : Nat} {s : Int × Int} {l : List Cd} {A : Option Addr} {c : Nat} {v : Value} {xs : List Int} (rows : Int) (w : World) (h : Bk w0 N base g1 g2 g3 s l A c v xs w)
    (hN : N ≤ w.heap.size) (hNb : N ≤ base) (hbw : base ≤ w.heap.size) (hN3 : N ≤ g3) (h13 : g1 ≠ g3) (h23 : g2 ≠ g3) (hx : xs.length ≤ 100) :
    Calls Tryz.prog 106 #[.int .i64 rows, .pointer (some ⟨g1, 0, none⟩), .pointer (some ⟨g2, 0, none⟩), .pointer (some ⟨g3, 0, none⟩)] w (BkRes w0 N base g1 g2 g3 s l A c (xs ++ bucketsS s l rows)) := by
  have HB := Lib.hid h
  clear h
  go_enter Tryz.func106, Tryz.ntmps106
  go_wp2_with fail
  go_loopw [8] (fun i wr => ∃ (j : Nat) (v : Value) (ys : List Int), j ≤ 16 ∧ i = .int .i64 j ∧ ys = xs ++ (bucketsS s l rows).take j ∧ N ≤ wr.heap.size ∧ base ≤ wr.heap.size ∧ Bk w0 N base g1 g2 g3 s l A c v ys wr) (fun i _ => 16 - (intOf i).toNat)
  case atStart => exact ⟨0, v, xs, Nat.zero_le _, rfl, by simp, hN, hbw, HB.out⟩
  case round =>
    obtain ⟨j, v, ys, hj, rfl, hys, hNW, hbW, hB⟩ := hrel
    have Hys := Lib.hid hys
    have HK := Lib.hid hB
    obtain ⟨A1, c1, e1, -⟩ := hB.own.form
    subst e1
    have lo := hB.own.lt
    have x0 := cell_of_row wr g1 0 _ _ _ hB.b1
    have x1 := cell_of_row wr g1 1 _ _ _ hB.b1
    have y0 := cell_of_row wr g2 0 _ _ _ hB.b2
    have z0 := cell_of_row wr g3 0 _ _ _ hB.b3
    simp only [List.getElem?_toArray, List.getElem?_cons_zero, List.getElem?_cons_succ] at x0 x1 y0 z0
    have l3 := heap_lt hB.b3
    have hlen : ys.length ≤ 116 := by rw [hys, List.length_append, List.length_take]; omega
    have hj0 : (0 : Int) ≤ (j : Int) := by omega
    clear hys hB
    by_cases hlt : j < 16
    · have hj1 : (j : Int) < 16 := by omega
      have hb16 : (bucketsS s l rows)[j]? = some (bucketS s l rows j) := by unfold bucketsS; rw [List.getElem?_map, List.getElem?_range hlt]; rfl
      have hS := Lib.hid (take_snocR hb16)
      clear hb16
      by_cases k1 : s.1 ≤ (j : Int)
      · by_cases k2 : (j : Int) ≤ s.2
        · cases hsat : satB l with
          | true =>
            have HV := Lib.hid (show bucketS s l rows j = rows by unfold bucketS inB_; rw [decide_eq_true ⟨k1, k2⟩, hsat]; rfl)
            go_wp2_with (first
              | (go_at_call 87; refine (satP _ HK.out.wid.ok HK.out.flt).mono ?_; rw [hsat]; rintro e w5 ⟨rfl, hb5⟩; have HK5 := Lib.hid (HK.out.call hNW hb5); obtain ⟨hc5, hf5⟩ := bcell hb5; have hz5 := hb5.size)
              | (at_builtin; go_must ((refine wpList_append_E (S := fun b => b = w5.heap.size) rfl (.tmp 26) (.tmp 28) rfl i64sT (base := base) (v := .slice A1 ys.length c1) (xs := ys) (ys := [rows]) (by rfl) (by rfl) rfl (nz := ys.length + 1) (by simp) ((HK5.out.own.flat i64_flat).alloc _) (Sl.litAt (S := fun b => b = w5.heap.size) rfl (.single rfl) (by unfold maxLen; simp) (fun _ h _ => h) rfl) (by unfold maxLen; simp; omega) (by simp; omega) (by simp; omega) (fun g hg (hs : g = w5.heap.size) => absurd (lo g hg).2 (by omega)) ?_; intro A6 c6 w6 hown6 hg6 hor6; have fin := Lib.hid (HK5.out.app (by omega) hNb hN3 h13 h23 hown6 hg6 hor6); have hz6 := hg6.size; simp at hz6; have hz6' : N ≤ w6.heap.size := (by omega); have hz6'' : base ≤ w6.heap.size := (by omega); obtain ⟨y3', f3'⟩ := g3cell HK5.out (by omega) hg6; have l3' : g3 < w6.heap.size := (by omega)))))
            go_roundw
            case rel => exact ⟨j + 1, _, ys ++ [rows], by omega, by go_num, by rw [hS.out, Hys.out, HV.out, List.append_assoc], by simpa [World.setCell] using hz6', by simpa [World.setCell] using hz6'', by simpa using fin.out⟩
            case measure => simp [intOf]; omega
          | false =>
            have HV := Lib.hid (show bucketS s l rows j = 0 by unfold bucketS; rw [hsat, Bool.and_false]; rfl)
            go_wp2_with (first
              | (go_at_call 87; refine (satP _ HK.out.wid.ok HK.out.flt).mono ?_; rw [hsat]; rintro e w5 ⟨rfl, hb5⟩; have HK5 := Lib.hid (HK.out.call hNW hb5); obtain ⟨hc5, hf5⟩ := bcell hb5; have hz5 := hb5.size)
              | (at_builtin; go_must ((refine wpList_append_E (S := fun b => b = w5.heap.size) rfl (.tmp 26) (.tmp 28) rfl i64sT (base := base) (v := .slice A1 ys.length c1) (xs := ys) (ys := [0]) (by rfl) (by rfl) rfl (nz := ys.length + 1) (by simp) ((HK5.out.own.flat i64_flat).alloc _) (Sl.litAt (S := fun b => b = w5.heap.size) rfl (.single rfl) (by unfold maxLen; simp) (fun _ h _ => h) rfl) (by unfold maxLen; simp; omega) (by simp; omega) (by simp; omega) (fun g hg (hs : g = w5.heap.size) => absurd (lo g hg).2 (by omega)) ?_; intro A6 c6 w6 hown6 hg6 hor6; have fin := Lib.hid (HK5.out.app (by omega) hNb hN3 h13 h23 hown6 hg6 hor6); have hz6 := hg6.size; simp at hz6; have hz6' : N ≤ w6.heap.size := (by omega); have hz6'' : base ≤ w6.heap.size := (by omega); obtain ⟨y3', f3'⟩ := g3cell HK5.out (by omega) hg6; have l3' : g3 < w6.heap.size := (by omega)))))
            go_roundw
            case rel => exact ⟨j + 1, _, ys ++ [0], by omega, by go_num, by rw [hS.out, Hys.out, HV.out, List.append_assoc], by simpa [World.setCell] using hz6', by simpa [World.setCell] using hz6'', by simpa using fin.out⟩
            case measure => simp [intOf]; omega
        · have HV := Lib.hid (show bucketS s l rows j = 0 by unfold bucketS inB_; rw [decide_eq_false (fun h => k2 h.2)]; rfl)
          have k2' : decide ((j : Int) ≤ s.2) = false := decide_eq_false k2
          go_wp2_with (first
            | (at_builtin; go_must ((refine wpList_append_E (S := fun b => b = wr.heap.size) rfl (.tmp 26) (.tmp 28) rfl i64sT (base := base) (v := .slice A1 ys.length c1) (xs := ys) (ys := [0]) (by rfl) (by rfl) rfl (nz := ys.length + 1) (by simp) ((HK.out.own.flat i64_flat).alloc _) (Sl.litAt (S := fun b => b = wr.heap.size) rfl (.single rfl) (by unfold maxLen; simp) (fun _ h _ => h) rfl) (by unfold maxLen; simp; omega) (by simp; omega) (by simp; omega) (fun g hg (hs : g = wr.heap.size) => absurd (lo g hg).2 (by omega)) ?_; intro A6 c6 w6 hown6 hg6 hor6; have fin := Lib.hid (HK.out.app (by omega) hNb hN3 h13 h23 hown6 hg6 hor6); have hz6 := hg6.size; simp at hz6; have hz6' : N ≤ w6.heap.size := (by omega); have hz6'' : base ≤ w6.heap.size := (by omega); obtain ⟨y3', f3'⟩ := g3cell HK.out (by omega) hg6; have l3' : g3 < w6.heap.size := (by omega)))))
          go_roundw
          case rel => exact ⟨j + 1, _, ys ++ [0], by omega, by go_num, by rw [hS.out, Hys.out, HV.out, List.append_assoc], by simpa [World.setCell] using hz6', by simpa [World.setCell] using hz6'', by simpa using fin.out⟩
          case measure => simp [intOf]; omega
      · have HV := Lib.hid (show bucketS s l rows j = 0 by unfold bucketS inB_; rw [decide_eq_false (fun h => k1 h.1)]; rfl)
        have k1' : decide (s.1 ≤ (j : Int)) = false := decide_eq_false k1
        go_wp2_with (first
          | (at_builtin; go_must ((refine wpList_append_E (S := fun b => b = wr.heap.size) rfl (.tmp 26) (.tmp 28) rfl i64sT (base := base) (v := .slice A1 ys.length c1) (xs := ys) (ys := [0]) (by rfl) (by rfl) rfl (nz := ys.length + 1) (by simp) ((HK.out.own.flat i64_flat).alloc _) (Sl.litAt (S := fun b => b = wr.heap.size) rfl (.single rfl) (by unfold maxLen; simp) (fun _ h _ => h) rfl) (by unfold maxLen; simp; omega) (by simp; omega) (by simp; omega) (fun g hg (hs : g = wr.heap.size) => absurd (lo g hg).2 (by omega)) ?_; intro A6 c6 w6 hown6 hg6 hor6; have fin := Lib.hid (HK.out.app (by omega) hNb hN3 h13 h23 hown6 hg6 hor6); have hz6 := hg6.size; simp at hz6; have hz6' : N ≤ w6.heap.size := (by omega); have hz6'' : base ≤ w6.heap.size := (by omega); obtain ⟨y3', f3'⟩ := g3cell HK.out (by omega) hg6; have l3' : g3 < w6.heap.size := (by omega)))))
        go_roundw
        case rel => exact ⟨j + 1, _, ys ++ [0], by omega, by go_num, by rw [hS.out, Hys.out, HV.out, List.append_assoc], by simpa [World.setCell] using hz6', by simpa [World.setCell] using hz6'', by simpa using fin.out⟩
        case measure => simp [intOf]; omega
    · have hj1 : ¬ (j : Int) < 16 := by omega
      obtain rfl : j = 16 := by omega
      go_wp2_with fail
      go_ret
      have e16 : ys = xs ++ bucketsS s l rows := by rw [Hys.out, List.take_of_length_le (by simp [bucketsS])]
      exact ⟨_, _, _, rfl, by rw [e16], by rw [← e16]; exact HK.out⟩
end Go.Proofs.YtagadbdbbglddaaGreatDoor
namespace Go.Proofs.YtagadbdbbglddaaGreatDoor
open Go.RowKit

set_option maxRecDepth 100000 in
theorem bucketsP {w0 : World} {N base : Nat} {s : Int × Int} {l : List Cd} {A B : Option Addr} {c n d : Nat} {ys : List Int} (w : World) (h : Own Enc.i64 (fun _ => False) w base 2 (.slice B n d) ys) (hl : Sl cdE (fun b => b < N) w A c l) (hw : WidB N w) (hb : Below N w0 w) (hN : N ≤ w.heap.size) :
    Calls Tryz.prog 90 #[.slice B n d, .slice A l.length c, .agg #[.int .i64 s.1, .int .i64 s.2]] w fun e w' =>
      e = .returned (.func (.func 106) #[] #[.pointer (some ⟨w.heap.size + 2, 0, none⟩), .pointer (some ⟨w.heap.size + 1, 0, none⟩), .pointer (some ⟨w.heap.size, 0, none⟩)]) ∧
      Bk w0 N base (w.heap.size + 2) (w.heap.size + 1) w.heap.size s l A c (.slice B n d) ys w' ∧ Below w.heap.size w w' := by
  have H := Lib.hid h
  have HL := Lib.hid hl
  have HW := Lib.hid hw
  have HB := Lib.hid hb
  have lo := h.lt
  clear h hl hw hb
  go_enter Tryz.func90, Tryz.ntmps90
  go_wp2_with fail
  go_ret
  have hbel : Below w.heap.size w (((w.alloc (.cells #[.slice B n d] 33)).alloc (.cells #[.slice A l.length c] 55)).alloc (.cells #[.int .i64 s.1, .int .i64 s.2] 135)) := (by repeat' (first | with_reducible exact Below.refl _ _ | with_reducible assumption | with_reducible refine Below.setCell ?_ ?_ _ | with_reducible refine Below.drew ?_ | with_reducible refine below_drewN ?_ _ | with_reducible refine Below.alloc ?_ ?_ _ | (rintro _ ⟨⟩; simp <;> omega) | omega | (simp <;> omega)))
  refine ⟨rfl, ⟨H.out.call hbel, fun k hk => by have := lo k hk; omega, ?_, ?_, ?_, HB.out.trans (hbel.mono hN), HW.out.keep (hbel.mono hN), HL.out.keep (Below.agree hbel)⟩, hbel⟩
  · with_reducible refine heap_alloc_at ?_
    simp
  · refine (Below.heap_alloc _ _ _ (by simp)).trans ?_
    with_reducible refine heap_alloc_at ?_
    simp
  · refine (Below.heap_alloc _ _ _ (by simp; omega)).trans ((Below.heap_alloc _ _ _ (by simp)).trans ?_)
    with_reducible refine heap_alloc_at ?_
    rfl
/-- Bounds, and whether they are below the limit. -/
def BoundRes (w : World) (p : List Int × Bool) (e : Ending) (w' : World) : Prop :=
  ∃ B d xs, e = .returned (.tuple #[.slice B xs.length d, .bool p.2]) ∧ (p.2 = true → xs = p.1) ∧ Sl .i64 (fun b => w.heap.size ≤ b) w' B d xs ∧ Below w.heap.size w w'
def q11A : List FRow := [(0, ([], (7, [2]))), (1, ([0], (8, [6]))), (2, ([1], (9, [7]))), (3, ([2], (10, [8]))), (4, ([], (11, [2]))), (5, ([4], (12, [10]))), (6, ([5], (13, [11]))), (7, ([6], (14, [12]))), (8, ([], (15, [2]))), (9, ([8], (16, [14]))), (10, ([7, 9], (17, [13, 15]))), (11, ([3, 10, 10], (18, [9, 16]))), (12, ([], (19, [1]))), (13, ([11, 12, 11], (20, [17, 18]))), (14, ([13, 13, 0, 1, 2, 3, 4, 5, 6, 7, 8, 9, 10, 11, 12, 13], (5, [19]))), (15, ([14, 0, 1, 2, 3, 4, 5, 6, 7, 8, 9, 10, 11, 12, 13, 14], (6, [])))]
set_option maxRecDepth 100000 in
set_option maxHeartbeats 2000000 in
theorem countersP {q : Qy} {A : Option Addr} {c : Nat} {S : Nat → Prop} (rows : Int) (w : World) (hw : WidOk w) (h : Sl cdE.slice S w A c q.fs) (h0 : 0 < q.fs.length) (hc0 : 0 ≤ q.col) (hc3 : q.col ≤ 3) :
    Calls Tryz.prog 56 #[(.agg #[.int .i64 q.kind, .int .i64 q.col, .int .i64 q.k, .slice A q.fs.length c]), .int .i64 rows] w (BoundRes w (bucketsF (fl q 0) q.col rows, true)) := by
  have hm := h.max
  have H := Lib.hid h.old
  have HW := Lib.hid hw
  clear h hw
  go_enter Tryz.func56, Tryz.ntmps56
  go_upto_region 1 with fail
  refine wp_world (F := fun wx => Below w.heap.size w wx ∧ Hid (wx.heap[w.heap.size]? = some (.cells #[.int .i64 q.kind, .int .i64 q.col, .int .i64 q.k, .slice A q.fs.length c] 24 (0, 0)))) ⟨(Below.refl _ _).alloc (Nat.le_refl _) _, Lib.hid (heap_alloc_at rfl)⟩ ?_
  rintro wr ⟨bb, gq⟩
  have b0 := Lib.hid bb
  have H1 := Lib.hid (H.out.keep (Below.agree bb))
  have HW1 := mvW HW bb
  have hl : q.fs[0]? = some (fl q 0) := by unfold fl; rw [List.getD_eq_getElem?_getD, List.getElem?_eq_getElem h0]; rfl
  obtain ⟨b1, o1, B1, d1, rfl, -, l1, x1, hs1⟩ := flt_at H1.out hl
  simp only [Nat.add_zero] at x1
  have z1 := hold x1
  have hlb : Sl cdE (fun b => b < wr.heap.size) wr B1 d1 (fl q 0) := hs1.sub fun b h _ => Nat.lt_of_lt_of_le h.2 bb.size
  have HL := Lib.hid hlb
  have zq : ∀ W, Below wr.heap.size wr W → _ ∧ _ ∧ _ ∧ _ := fun W hW => row4 (mvQ gq hW)
  have br : Below wr.heap.size wr wr := Below.refl _ _
  have ba : ∀ W o, Below wr.heap.size wr W → Below wr.heap.size wr (W.alloc o) := fun W o h => h.alloc h.size o
  have bc : ∀ W W', Below wr.heap.size wr W → Below W.heap.size W W' → Below wr.heap.size wr W' := fun W W' h k => h.trans (k.mono h.size)
  have hi0 : (0 : Int) < (q.fs.length : Int) := by omega
  clear bb hl hs1 hlb x1 l1
  generalize fl q 0 = l at *
  refine wp_region_noPanic ?_
  refine wp_region_held_drew (S := fun X => Below wr.heap.size wr X) (by kernel_rfl) ?_ (fun hHeld => ?_)
  · (first | with_reducible assumption | (with_reducible refine Below.drew ?_; with_reducible assumption) | (with_reducible refine ba _ _ ?_; with_reducible assumption) | (with_reducible refine Below.drew ?_; with_reducible refine ba _ _ ?_; with_reducible assumption) | exact Below.refl _ _ | exact (Below.refl _ _).drew | exact (Below.refl _ _).alloc (Nat.le_refl _) _ | (refine bc _ _ (by assumption) (by assumption)))
  refine RegOk.begin_ (n := 16) (T := q11A) ⟨by kernel_rfl, by kernel_rfl, by kernel_rfl, by kernel_rfl⟩ fun hR => ?_
  refine hR.take (i := 0) (oi := ?ow97_0) (v := ?vw97_0) (m' := 1) ?hw97_0 (by kernel_rfl) (by kernel_rfl) (fun _ _ _ h => h) (Or.inl ⟨?sw97_0, ?yw97_0⟩) (by assumption) ?nw97_0
  case hw97_0 => simp only [List.getElem?_toArray, List.getElem?_cons_succ, List.getElem?_cons_zero]; rfl
  case sw97_0 => rfl
  case yw97_0 => (intro w hSw; (try dsimp only at hSw); go_simp <;> with_reducible rfl)
  try simp only [Act.put, List.setIfInBounds_toArray, List.set_cons_zero, List.set_cons_succ]
  refine hR.take (i := 1) (oi := ?ow98_1) (v := ?vw98_1) (m' := 3) ?hw98_1 (by kernel_rfl) (by kernel_rfl) (fun _ _ _ h => h) (Or.inl ⟨?sw98_1, ?yw98_1⟩) (by assumption) ?nw98_1
  case hw98_1 => simp only [List.getElem?_toArray, List.getElem?_cons_succ, List.getElem?_cons_zero]; rfl
  case sw98_1 => rfl
  case yw98_1 => (intro w hSw; (try dsimp only at hSw); go_simp <;> with_reducible rfl)
  try simp only [Act.put, List.setIfInBounds_toArray, List.set_cons_zero, List.set_cons_succ]
  refine hR.take (i := 2) (oi := ?ow99_2) (v := ?vw99_2) (m' := 7) ?hw99_2 (by kernel_rfl) (by kernel_rfl) (fun _ _ _ h => h) (Or.inl ⟨?sw99_2, ?yw99_2⟩) (by assumption) ?nw99_2
  case hw99_2 => simp only [List.getElem?_toArray, List.getElem?_cons_succ, List.getElem?_cons_zero]; rfl
  case sw99_2 => rfl
  case yw99_2 => (intro w hSw; (try dsimp only at hSw); go_simp <;> with_reducible rfl)
  try simp only [Act.put, List.setIfInBounds_toArray, List.set_cons_zero, List.set_cons_succ]
  refine hR.take (i := 3) (oi := ?ow100_3) (v := ?vw100_3) (m' := 15) ?hw100_3 (by kernel_rfl) (by kernel_rfl) (fun _ _ _ h => h) (Or.inl ⟨?sw100_3, ?yw100_3⟩) (by assumption) ?nw100_3
  case hw100_3 => simp only [List.getElem?_toArray, List.getElem?_cons_succ, List.getElem?_cons_zero]; rfl
  case sw100_3 => rfl
  case yw100_3 => (intro w hSw; (try dsimp only at hSw); go_simp <;> with_reducible rfl)
  try simp only [Act.put, List.setIfInBounds_toArray, List.set_cons_zero, List.set_cons_succ]
  refine hR.take (i := 4) (oi := ?ow101_4) (v := ?vw101_4) (m' := 31) ?hw101_4 (by kernel_rfl) (by kernel_rfl) (fun _ _ _ h => h) (Or.inl ⟨?sw101_4, ?yw101_4⟩) (by assumption) ?nw101_4
  case hw101_4 => simp only [List.getElem?_toArray, List.getElem?_cons_succ, List.getElem?_cons_zero]; rfl
  case sw101_4 => rfl
  case yw101_4 => (intro w hSw; (try dsimp only at hSw); go_simp <;> with_reducible rfl)
  try simp only [Act.put, List.setIfInBounds_toArray, List.set_cons_zero, List.set_cons_succ]
  refine hR.take (i := 5) (oi := ?ow102_5) (v := ?vw102_5) (m' := 63) ?hw102_5 (by kernel_rfl) (by kernel_rfl) (fun _ _ _ h => h) (Or.inl ⟨?sw102_5, ?yw102_5⟩) (by assumption) ?nw102_5
  case hw102_5 => simp only [List.getElem?_toArray, List.getElem?_cons_succ, List.getElem?_cons_zero]; rfl
  case sw102_5 => rfl
  case yw102_5 => (intro w hSw; (try dsimp only at hSw); go_simp <;> with_reducible rfl)
  try simp only [Act.put, List.setIfInBounds_toArray, List.set_cons_zero, List.set_cons_succ]
  refine hR.take (i := 6) (oi := ?ow103_6) (v := ?vw103_6) (m' := 127) ?hw103_6 (by kernel_rfl) (by kernel_rfl) (fun _ _ _ h => h) (Or.inl ⟨?sw103_6, ?yw103_6⟩) (by assumption) ?nw103_6
  case hw103_6 => simp only [List.getElem?_toArray, List.getElem?_cons_succ, List.getElem?_cons_zero]; rfl
  case sw103_6 => rfl
  case yw103_6 => (intro w hSw; (try dsimp only at hSw); go_simp <;> with_reducible rfl)
  try simp only [Act.put, List.setIfInBounds_toArray, List.set_cons_zero, List.set_cons_succ]
  refine hR.take (i := 7) (oi := ?ow104_7) (v := ?vw104_7) (m' := 255) ?hw104_7 (by kernel_rfl) (by kernel_rfl) (fun _ _ _ h => h) (Or.inl ⟨?sw104_7, ?yw104_7⟩) (by assumption) ?nw104_7
  case hw104_7 => simp only [List.getElem?_toArray, List.getElem?_cons_succ, List.getElem?_cons_zero]; rfl
  case sw104_7 => rfl
  case yw104_7 => (intro w hSw; (try dsimp only at hSw); go_simp <;> with_reducible rfl)
  try simp only [Act.put, List.setIfInBounds_toArray, List.set_cons_zero, List.set_cons_succ]
  refine hR.take (i := 8) (oi := ?ow105_8) (v := ?vw105_8) (m' := 511) ?hw105_8 (by kernel_rfl) (by kernel_rfl) (fun _ _ _ h => h) (Or.inl ⟨?sw105_8, ?yw105_8⟩) (by assumption) ?nw105_8
  case hw105_8 => simp only [List.getElem?_toArray, List.getElem?_cons_succ, List.getElem?_cons_zero]; rfl
  case sw105_8 => rfl
  case yw105_8 => (intro w hSw; (try dsimp only at hSw); go_simp <;> with_reducible rfl)
  try simp only [Act.put, List.setIfInBounds_toArray, List.set_cons_zero, List.set_cons_succ]
  refine hR.take (i := 9) (oi := ?ow106_9) (v := ?vw106_9) (m' := 1023) ?hw106_9 (by kernel_rfl) (by kernel_rfl) (fun _ _ _ h => h) (Or.inl ⟨?sw106_9, ?yw106_9⟩) (by assumption) ?nw106_9
  case hw106_9 => simp only [List.getElem?_toArray, List.getElem?_cons_succ, List.getElem?_cons_zero]; rfl
  case sw106_9 => rfl
  case yw106_9 => (intro w hSw; (try dsimp only at hSw); go_simp <;> with_reducible rfl)
  try simp only [Act.put, List.setIfInBounds_toArray, List.set_cons_zero, List.set_cons_succ]
  refine hR.take (i := 12) (oi := ?ow107_12) (v := ?vw107_12) (m' := 5119) ?hw107_12 (by kernel_rfl) (by kernel_rfl) (fun _ _ _ h => h) (Or.inl ⟨?sw107_12, ?yw107_12⟩) (by assumption) ?nw107_12
  case hw107_12 => simp only [List.getElem?_toArray, List.getElem?_cons_succ, List.getElem?_cons_zero]; rfl
  case sw107_12 => rfl
  case yw107_12 => (intro w hSw; (try dsimp only at hSw); go_simp <;> with_reducible rfl)
  try simp only [Act.put, List.setIfInBounds_toArray, List.set_cons_zero, List.set_cons_succ]
  refine hR.come (rs := [10]) (by kernel_rfl) (by simp) ?_
  refine AllReadyH.cons (o := ?o108_10) ?h108_10 (fun K hK => ?kw108_10) AllReadyH.nil
  case h108_10 => simp only [List.getElem?_toArray, List.getElem?_cons_succ, List.getElem?_cons_zero]; rfl
  go_simp
  go_at_call 89; refine (underP (l := l) q.col _ (HW1.out.keep (by (first | with_reducible assumption | (with_reducible refine Below.drew ?_; with_reducible assumption) | (with_reducible refine ba _ _ ?_; with_reducible assumption) | (with_reducible refine Below.drew ?_; with_reducible refine ba _ _ ?_; with_reducible assumption) | exact Below.refl _ _ | exact (Below.refl _ _).drew | exact (Below.refl _ _).alloc (Nat.le_refl _) _ | (refine bc _ _ (by assumption) (by assumption))))) (HL.out.keep (Below.agree (by (first | with_reducible assumption | (with_reducible refine Below.drew ?_; with_reducible assumption) | (with_reducible refine ba _ _ ?_; with_reducible assumption) | (with_reducible refine Below.drew ?_; with_reducible refine ba _ _ ?_; with_reducible assumption) | exact Below.refl _ _ | exact (Below.refl _ _).drew | exact (Below.refl _ _).alloc (Nat.le_refl _) _ | (refine bc _ _ (by assumption) (by assumption)))))) (by omega) (by omega)).mono ?_; rintro e w1 ⟨rfl, hb1⟩; have hk1 := bc _ _ (by (first | with_reducible assumption | (with_reducible refine Below.drew ?_; with_reducible assumption) | (with_reducible refine ba _ _ ?_; with_reducible assumption) | (with_reducible refine Below.drew ?_; with_reducible refine ba _ _ ?_; with_reducible assumption) | exact Below.refl _ _ | exact (Below.refl _ _).drew | exact (Below.refl _ _).alloc (Nat.le_refl _) _ | (refine bc _ _ (by assumption) (by assumption)))) hb1
  refine hK.out _ _ ?_ (fun hHeld => ?_)
  · (first | with_reducible assumption | (with_reducible refine Below.drew ?_; with_reducible assumption) | (with_reducible refine ba _ _ ?_; with_reducible assumption) | (with_reducible refine Below.drew ?_; with_reducible refine ba _ _ ?_; with_reducible assumption) | exact Below.refl _ _ | exact (Below.refl _ _).drew | exact (Below.refl _ _).alloc (Nat.le_refl _) _ | (refine bc _ _ (by assumption) (by assumption)))
  clear hK K
  refine RegOk.put_ (m' := 6143) (by kernel_rfl) ?_
  try simp only [Act.put, List.setIfInBounds_toArray, List.set_cons_zero, List.set_cons_succ]
  refine hR.come (rs := [11]) (by kernel_rfl) (by simp) ?_
  refine AllReadyH.cons (o := ?o109_11) ?h109_11 (fun K hK => ?kw109_11) AllReadyH.nil
  case h109_11 => simp only [List.getElem?_toArray, List.getElem?_cons_succ, List.getElem?_cons_zero]; rfl
  go_simp
  go_at_call 90; refine (bucketsP (w0 := wr) (N := wr.heap.size) (base := w1.heap.size) (ys := []) _ (Own.nil_ _ _ _ _ _) (HL.out.keep (Below.agree hk1)) ((HW1.out.toB (Nat.le_refl _)).keep hk1) hk1 hk1.size).mono ?_; rintro e w2 ⟨rfl, hBk, hb2⟩; have hk2 := bc _ _ hk1 hb2; have hz2 := hb2.size
  refine hK.out _ _ ?_ (fun hHeld => ?_)
  · (first | with_reducible assumption | (with_reducible refine Below.drew ?_; with_reducible assumption) | (with_reducible refine ba _ _ ?_; with_reducible assumption) | (with_reducible refine Below.drew ?_; with_reducible refine ba _ _ ?_; with_reducible assumption) | exact Below.refl _ _ | exact (Below.refl _ _).drew | exact (Below.refl _ _).alloc (Nat.le_refl _) _ | (refine bc _ _ (by assumption) (by assumption)))
  clear hK K
  refine RegOk.put_ (m' := 8191) (by kernel_rfl) ?_
  try simp only [Act.put, List.setIfInBounds_toArray, List.set_cons_zero, List.set_cons_succ]
  refine hR.come (rs := [13]) (by kernel_rfl) (by simp) ?_
  refine AllReadyH.cons (o := ?o110_13) ?h110_13 (fun K hK => ?kw110_13) AllReadyH.nil
  case h110_13 => simp only [List.getElem?_toArray, List.getElem?_cons_succ, List.getElem?_cons_zero]; rfl
  go_simp
  go_at_call 106; refine (buckets1P rows _ hBk hk2.size hk1.size hz2 hk1.size (by omega) (by omega) (by simp)).mono ?_; rintro e w3 ⟨B3, n3, d3, rfl, hn3, hBk3⟩; have hk3 := hBk3.bel
  refine hK.out _ _ ?_ (fun hHeld => ?_)
  · (first | with_reducible assumption | (with_reducible refine Below.drew ?_; with_reducible assumption) | (with_reducible refine ba _ _ ?_; with_reducible assumption) | (with_reducible refine Below.drew ?_; with_reducible refine ba _ _ ?_; with_reducible assumption) | exact Below.refl _ _ | exact (Below.refl _ _).drew | exact (Below.refl _ _).alloc (Nat.le_refl _) _ | (refine bc _ _ (by assumption) (by assumption)))
  clear hK K
  refine RegOk.put_ (m' := 16383) (by kernel_rfl) ?_
  try simp only [Act.put, List.setIfInBounds_toArray, List.set_cons_zero, List.set_cons_succ]
  refine hR.take (i := 14) (oi := ?ow111_14) (v := ?vw111_14) (m' := 32767) ?hw111_14 (by kernel_rfl) (by kernel_rfl) (fun _ _ _ h => h) (Or.inl ⟨?sw111_14, ?yw111_14⟩) (by assumption) ?nw111_14
  case hw111_14 => simp only [List.getElem?_toArray, List.getElem?_cons_succ, List.getElem?_cons_zero]; rfl
  case sw111_14 => rfl
  case yw111_14 => (intro w hSw; (try dsimp only at hSw); go_simp <;> with_reducible rfl)
  try simp only [Act.put, List.setIfInBounds_toArray, List.set_cons_zero, List.set_cons_succ]
  refine hR.take (i := 15) (oi := ?ow112_15) (v := ?vw112_15) (m' := 65535) ?hw112_15 (by kernel_rfl) (by kernel_rfl) (fun _ _ _ h => h) (Or.inl ⟨?sw112_15, ?yw112_15⟩) (by assumption) ?nw112_15
  case hw112_15 => simp only [List.getElem?_toArray, List.getElem?_cons_succ, List.getElem?_cons_zero]; rfl
  case sw112_15 => rfl
  case yw112_15 => (intro w hSw; (try dsimp only at hSw); go_simp <;> with_reducible rfl)
  try simp only [Act.put, List.setIfInBounds_toArray, List.set_cons_zero, List.set_cons_succ]
  refine hR.all (by kernel_rfl) ?_ _
  refine NoPanic.normal ?_
  go_wp2_with fail
  have hq3 := hBk3.own
  rw [List.nil_append] at hq3 hn3
  go_ret2
  refine ⟨B3, d3, bucketsF l q.col rows, by rw [hn3]; rfl, fun _ => rfl, ?_, ?_⟩
  · exact (hq3.toSl (T := fun b => w.heap.size ≤ b) (fun _ h _ => h.elim) (fun b hb _ _ => by have := b0.out.size; have := hk1.size; omega)).drew
  · exact b0.out.trans (hk3.mono b0.out.size)
/-- What pairs has gathered: the bounds of the first j filters. -/
def pairT (q : Qy) (rows : Int) (j : Nat) : List Int := (q.fs.take j).flatMap fun l => bucketsF l 0 rows
theorem pairT_snoc {q : Qy} {rows : Int} {j : Nat} {l : List Cd} (h : q.fs[j]? = some l) : pairT q rows (j + 1) = pairT q rows j ++ bucketsF l 0 rows := by
  unfold pairT
  rw [take_snocR h, List.flatMap_append]
  simp
theorem pairT_len (q : Qy) (rows : Int) (j : Nat) : (pairT q rows j).length ≤ 16 * j := by
  unfold pairT
  rw [List.length_flatMap]
  have h : ∀ l : List (List Cd), (l.map fun x => (bucketsF x 0 rows).length).sum = 16 * l.length := by
    intro l
    induction l with
    | nil => rfl
    | cons x l ih => simp only [List.map_cons, List.sum_cons, ih, List.length_cons]; simp [bucketsF]; omega
  rw [h, List.length_take]
  omega
set_option maxRecDepth 100000 in
set_option maxHeartbeats 4000000 in
theorem pairsP {q : Qy} {A : Option Addr} {c : Nat} {S : Nat → Prop} (rows : Int) (w : World) (hw : WidOk w) (h : Sl cdE.slice S w A c q.fs) (h2 : q.fs.length ≤ 2) :
    Calls Tryz.prog 57 #[(.agg #[.int .i64 q.kind, .int .i64 q.col, .int .i64 q.k, .slice A q.fs.length c]), .int .i64 rows] w (BoundRes w (pairT q rows q.fs.length, true)) := by
  have hm := h.max
  have H := Lib.hid h.old
  have HW := Lib.hid hw
  clear h hw
  go_enter Tryz.func57, Tryz.ntmps57
  go_upto_region 1 with fail
  refine wp_world (F := fun wx => Below w.heap.size w wx ∧ Hid (wx.heap[w.heap.size]? = some (.cells #[.int .i64 q.kind, .int .i64 q.col, .int .i64 q.k, .slice A q.fs.length c] 24 (0, 0)))) ⟨(Below.refl _ _).alloc (Nat.le_refl _) _, Lib.hid (heap_alloc_at rfl)⟩ ?_
  rintro w1 ⟨bb, gq⟩
  have b0 := Lib.hid bb
  have hw1 := bb.size
  have H1 := Lib.hid (H.out.keep (Below.agree bb))
  have HW1 := mvW HW bb
  obtain ⟨x0, x1, x2, x3⟩ := row4 gq
  clear bb
  go_wp2_with fail
  go_loopw [6, 12] (fun v i wr => ∃ (j : Nat) (B : Option Addr) (d : Nat) (ys : List Int), j ≤ q.fs.length ∧ i = .int .i64 j ∧ ys = pairT q rows j ∧ v = .slice B ys.length d ∧ Own Enc.i64 (fun _ => False) wr w1.heap.size 2 (.slice B ys.length d) ys ∧ Below w1.heap.size w1 wr) (fun _ i _ => q.fs.length - (intOf i).toNat)
  case atStart => exact ⟨0, none, 0, [], Nat.zero_le _, rfl, rfl, rfl, Own.nil_ _ _ _ _ _, Below.refl _ _⟩
  case round =>
    obtain ⟨j, B, d, ys, hj, rfl, hys, rfl, ho, hb⟩ := hrel
    have Hys := Lib.hid hys
    have HO := Lib.hid ho
    have HB := Lib.hid hb
    have hl16 : ys.length ≤ 32 := by have := pairT_len q rows j; rw [hys]; omega
    have hzr := hb.size
    have H2 := Lib.hid ((H1.out.keep (Below.agree hb)).sub (T := fun b => b < w1.heap.size) fun b h _ => Nat.lt_of_lt_of_le h.2 hw1)
    have hj0 : (0 : Int) ≤ (j : Int) := by omega
    clear hys ho hb
    by_cases hlt : j < q.fs.length
    · have hj1 : (j : Int) < (q.fs.length : Int) := by omega
      obtain ⟨l, hl⟩ : ∃ l, q.fs[j]? = some l := ⟨_, List.getElem?_eq_getElem hlt⟩
      obtain ⟨b5, o5, B5, d5, rfl, -, l5, z5, hs5⟩ := flt_at H2.out hl
      have Hs5 := Lib.hid hs5
      have hS := Lib.hid (pairT_snoc (rows := rows) hl)
      have HW2 := mvW HW1 HB.out
      clear hl hs5
      go_wp2_with (first
        | (go_at_call 89; refine (underP (l := l) 0 _ HW2.out Hs5.out (by omega) (by omega)).mono ?_; rintro e w4 ⟨rfl, hb4⟩; have hk4 := HB.out.trans (hb4.mono hzr); have hz4 := hb4.size)
        | (go_at_call 90; refine (bucketsP (w0 := w1) (N := w1.heap.size) (base := w1.heap.size) (s := underF l 0) (l := l) (ys := ys) _ (HO.out.call hb4) (Hs5.out.keep (Below.agree hb4)) ((HW1.out.toB (Nat.le_refl _)).keep hk4) hk4 hk4.size).mono ?_; rintro e w5 ⟨rfl, hBk, hb5⟩; have hz5 := hb5.size; have hk5 := hk4.trans (hb5.mono hk4.size))
        | (go_at_call 106; refine (buckets1P rows _ hBk hk5.size (Nat.le_refl _) hk5.size hk4.size (by omega) (by omega) (by omega)).mono ?_; rintro e w6 ⟨B6, n6, d6, rfl, hn6, hBk6⟩))
      go_roundw
      case rel =>
        have hq := hBk6.own
        exact ⟨j + 1, B6, d6, ys ++ bucketsF l 0 rows, by omega, by go_num, by rw [hS.out, Hys.out], by rw [List.length_append]; rfl, by rw [hn6] at hq; rw [List.length_append] at hq ⊢; exact hq, hBk6.bel⟩
      case measure => simp [intOf]; omega
    · have hj1 : ¬ (j : Int) < (q.fs.length : Int) := by omega
      have hjl : j = q.fs.length := by omega
      go_wp2_with fail
      go_ret2
      refine ⟨B, d, ys, rfl, fun _ => by rw [Hys.out, hjl], ?_, b0.out.trans (HB.out.mono hw1)⟩
      exact HO.out.toSl (fun _ h _ => h.elim) (fun b hb _ _ => by omega)
end Go.Proofs.YtagadbdbbglddaaGreatDoor
