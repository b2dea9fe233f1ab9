/-
  Texts of this claim, merged: Pa6, Pa7, Pa8. Conditions: as each theorem says.
-/
import Derived.Test.YtagadbdbbglddaaGreatDoorU1
import Derived.Test.YtagadbdbbglddaaGreatDoorU2
import Derived.Test.YtagadbdbbglddaaGreatDoorU3
import Derived.Test.YtagadbdbbglddaaGreatDoorU4
import Derived.Test.YtagadbdbbglddaaGreatDoorShelf
import Derived.Test.YtagadbdbbglddaaGreatDoorU22
import Derived.Test.YtagadbdbbglddaaGreatDoorU23
import Derived.Test.YtagadbdbbglddaaGreatDoorU5
import Derived.Test.YtagadbdbbglddaaGreatDoorU6
import Derived.Test.YtagadbdbbglddaaGreatDoorU7
import Derived.Test.YtagadbdbbglddaaGreatDoorU8
import Derived.Test.YtagadbdbbglddaaGreatDoorU9
import Derived.Test.YtagadbdbbglddaaGreatDoorU10
import Derived.Test.YtagadbdbbglddaaGreatDoorU11
import Derived.Test.YtagadbdbbglddaaGreatDoorU12
import Derived.Test.YtagadbdbbglddaaGreatDoorU13
set_option linter.unusedSimpArgs false
set_option linter.unusedVariables false
namespace Go.Proofs.YtagadbdbbglddaaGreatDoor
open Go.RowKit

/-- The next token is (k, t); behind it l' is left. -/
def Nx (k : Int) (t l l' : List UInt8) : Prop := tokF (skipW l) = (k, t) ∧ (skipW l).drop t.length = l'
theorem Nx.skip {k : Int} {t l l' : List UInt8} (h : Nx k t l l') : Nx k t (skipW l) l' := by
  unfold Nx; rw [skipW_idem]; exact h
/-- A number, as it is read. -/
def Num (t : List UInt8) (n : Int) : Prop := t.length ≤ 18 ∧ Go.Lib.atoi t = some n
theorem acceptNx {bs l l' t : List UInt8} {k : Int} {g : Nat} (w : World) (hp : PAt bs g l w) (hl : bs.length ≤ 1000) (h : Nx k t l l') :
    Calls Tryz.prog 67 #[.pointer (some ⟨g, 0, none⟩), .agg #[.int .i64 k, .string ⟨t.toArray⟩]] w fun e w' => e = .returned (.bool true) ∧ PAt bs g l' w' ∧ Gk g w w' :=
  (acceptY (u := []) (k' := 0) w hp hl h.1 trivial).mono fun e w' ⟨h1, h2, h3⟩ => ⟨h1, by have h4 := h.2; unfold accF at h2; rw [if_pos rfl, h4] at h2; exact h2, h3⟩
theorem expectNx {bs l l' t : List UInt8} {k : Int} {g : Nat} (w : World) (hp : PAt bs g l w) (hl : bs.length ≤ 1000) (h : Nx k t l l') :
    Calls Tryz.prog 71 #[.pointer (some ⟨g, 0, none⟩), .agg #[.int .i64 k, .string ⟨t.toArray⟩]] w fun e w' => e = .returned (.tuple #[]) ∧ PAt bs g l' w' ∧ Gk g w w' :=
  (expectP w hp hl h.1).mono fun e w' ⟨h1, h2, h3⟩ => ⟨h1, by rw [h.2] at h2; exact h2, h3⟩
theorem numberNx {bs l l' t : List UInt8} {n lo hi : Int} {g : Nat} (w : World) (hp : PAt bs g l w) (hl : bs.length ≤ 1000) (h : Nx 2 t l l') (hn : Num t n) (hr : lo ≤ n ∧ n ≤ hi) (hmx : n ≤ 1073741824) :
    Calls Tryz.prog 69 #[.pointer (some ⟨g, 0, none⟩), .int .i64 lo, .int .i64 hi] w fun e w' => e = .returned (.int .i64 n) ∧ PAt bs g l' w' ∧ Gk g w w' :=
  (numberP w hp hl h.1 hn.1 hn.2 hr hmx).mono fun e w' ⟨h1, h2, h3⟩ => ⟨h1, by rw [h.2] at h2; exact h2, h3⟩
theorem columnNx {bs l l' : List UInt8} {c : Nat} {g : Nat} (w : World) (hp : PAt bs g l w) (hl : bs.length ≤ 1000) (h : Nx 1 (nmF c) l l') (hc : c < 4) :
    Calls Tryz.prog 68 #[.pointer (some ⟨g, 0, none⟩)] w fun e w' => e = .returned (.int .i64 (c : Int)) ∧ PAt bs g l' w' ∧ Gk g w w' :=
  (columnP w hp hl h.1 hc).mono fun e w' ⟨h1, h2, h3⟩ => ⟨h1, by rw [h.2] at h2; exact h2, h3⟩
structure CSt (w1 : World) (g gc r : Nat) (bs l : List UInt8) (c lo hi : Int) (wx : World) : Prop where
  row : wx.heap[gc]? = some (.cells #[.int .i64 c, .int .i64 lo, .int .i64 hi] 90 (0, 0))
  res : wx.heap[r]? = some (.cells #[.int .i64 0, .int .i64 0, .int .i64 0] 90 (0, 0))
  p : PAt bs g l wx
  gk : Gk g w1 wx
  hgc : w1.heap.size ≤ gc
  hr : r < w1.heap.size
  hrg : r ≠ g
  hgg : gc ≠ g
theorem row3P {W : World} {g : Nat} {u v x : Value} {t : TypeId} (h : Hid (W.heap[g]? = some (.cells #[u, v, x] t (0, 0)))) :
    W.cell? ⟨g, 0, none⟩ = some u ∧ W.cell? ⟨g, 1, none⟩ = some v ∧ W.cell? ⟨g, 2, none⟩ = some x :=
  ⟨cell_of_row _ _ 0 _ _ _ h.out, cell_of_row _ _ 1 _ _ _ h.out, cell_of_row _ _ 2 _ _ _ h.out⟩
section
variable {w1 wx w' : World} {g gc r : Nat} {bs l l' : List UInt8} {c lo hi : Int}
theorem CSt.call (h : CSt w1 g gc r bs l c lo hi wx) (hp : PAt bs g l' w') (hG : Gk g wx w') : CSt w1 g gc r bs l' c lo hi w' :=
  ⟨hG.row h.row h.hgg, hG.row h.res h.hrg, hp, h.gk.trans hG, h.hgc, h.hr, h.hrg, h.hgg⟩
theorem CSt.set (h : CSt w1 g gc r bs l c lo hi wx) {i : Nat} {u : Value} {lo' hi' : Int} (hrow : (wx.setCell ⟨gc, i, none⟩ u).heap[gc]? = some (.cells #[.int .i64 c, .int .i64 lo', .int .i64 hi'] 90 (0, 0))) : CSt w1 g gc r bs l c lo' hi' (wx.setCell ⟨gc, i, none⟩ u) := by
  have h1 := h.hgc
  have h2 := h.hr
  refine ⟨hrow, (Below.heap_setCell _ _ _ _ (by dsimp only; omega)).trans h.res, ?_, h.gk.belowR ((Below.refl _ _).setCell (by dsimp only; omega) _), h.hgc, h.hr, h.hrg, h.hgg⟩
  obtain ⟨i, a, b, d⟩ := h.p
  exact ⟨i, a, b, (Below.heap_setCell _ _ _ _ (by have := h.hgg; dsimp only; omega)).trans d⟩
end
/-- A condition in the canonical form. -/
structure CdTx (c : Nat) (lo hi : Int) (tl th l l1 l2 l3 l4 l5 : List UInt8) : Prop where
  n1 : Nx 1 (nmF c) l l1
  n2 : Nx 1 [105, 110] l1 l2
  n3 : Nx 2 tl l2 l3
  n4 : Nx 3 [46, 46] l3 l4
  n5 : Nx 2 th l4 l5
  m1 : Num tl lo
  m2 : Num th hi
  hc : c < 4
  h0 : 0 ≤ lo
  h1 : lo ≤ hi
  h2 : hi ≤ maxC c
theorem maxC_le (c : Int) : maxC c ≤ 255 := by unfold maxC; split <;> decide
set_option maxRecDepth 100000 in
set_option maxHeartbeats 4000000 in
theorem condP {bs tl th l l1 l2 l3 l4 l5 : List UInt8} {c : Nat} {lo hi : Int} {g : Nat} (w : World) (hp : PAt bs g l w) (hl : bs.length ≤ 1000) (h : CdTx c lo hi tl th l l1 l2 l3 l4 l5) :
    Calls Tryz.prog 97 #[.pointer (some ⟨g, 0, none⟩)] w fun e w' => e = .returned (.agg #[.int .i64 (c : Int), .int .i64 lo, .int .i64 hi]) ∧ PAt bs g l5 w' ∧ Gk g w w' := by
  have HX := Lib.hid h
  have HP := Lib.hid hp
  have lg := hp.lt
  clear h hp
  go_enter Tryz.func97, Tryz.ntmps97
  go_upto_region 1 with fail
  refine wp_world (F := fun wx => Below w.heap.size w wx ∧ Hid (wx.heap[w.heap.size]? = some (.cells #[.int .i64 0, .int .i64 0, .int .i64 0] 90 (0, 0)))) ⟨(by repeat' (first | with_reducible exact Below.refl _ _ | with_reducible assumption | with_reducible refine Below.setCell ?_ ?_ _ | with_reducible refine Below.drew ?_ | with_reducible refine below_drewN ?_ _ | with_reducible refine Below.alloc ?_ ?_ _ | (rintro _ ⟨⟩; simp <;> omega) | omega | (simp <;> omega))), Lib.hid (heap_alloc_at rfl)⟩ ?_
  rintro w1 ⟨bb, gr⟩
  have B1 := Lib.hid bb
  have P1 := Lib.hid (HP.out.below bb)
  have l1' := heap_lt gr.out
  clear bb HP
  go_cut [3] (fun p wx => ∃ gc, p = .pointer (some ⟨gc, 0, none⟩) ∧ CSt w1 g gc w.heap.size bs l1 c 0 0 wx)
  case first =>
    go_wp2_with (go_at_call 68; refine (columnNx _ P1.out hl HX.out.n1 HX.out.hc).mono ?_; rintro e w2 ⟨rfl, hP2, hG2⟩; have HP2 := Lib.hid hP2; have HG2 := Lib.hid hG2; clear hP2 hG2)
    go_meet
    case rel =>
      have h1 := HP2.out.lt
      have h2 := HG2.out.g.size
      exact ⟨_, rfl, heap_alloc_at rfl, (Below.heap_alloc _ _ _ (by omega)).trans (HG2.out.row gr.out (by omega)), HP2.out.below ((Below.refl _ _).alloc (Nat.le_refl _) _), HG2.out.alloc _, h2, l1', by omega, by omega⟩
  obtain ⟨gc, rfl, hst⟩ := hcut
  obtain ⟨w2, hwv⟩ : ∃ x, x = wc := ⟨_, rfl⟩
  subst hwv
  have S2 := Lib.hid hst
  obtain ⟨mx, hmx⟩ : ∃ m, maxC (c : Int) = m := ⟨_, rfl⟩
  have HMX := Lib.hid hmx
  have hmx255 : mx ≤ 255 := by rw [← hmx]; exact maxC_le _
  obtain ⟨v0, v1, v2⟩ := row3P (Lib.hid hst.row)
  clear hst hmx
  go_upto_region 3 with (go_at_call 85; refine (columnMaxP _ _).mono ?_; rw [HMX.out]; rintro e w3 ⟨rfl, rfl⟩)
  go_cut [13] (fun v wx => v = .bool false ∧ CSt w1 g gc w.heap.size bs (skipW l1) c 0 0 wx)
  case first =>
    go_wp2_with (go_at_call 67; refine (acceptK (k := 1) (k' := 3) (t := [105, 110]) (u := [61]) _ S2.out.p hl HX.out.n2.1 (by decide)).mono ?_; rintro e w4 ⟨rfl, hP4, hG4⟩; have HP4 := Lib.hid hP4; have HG4 := Lib.hid hG4; clear hP4 hG4)
    go_meet
    case rel => exact ⟨rfl, S2.out.call HP4.out HG4.out⟩
  obtain ⟨rfl, hst⟩ := hcut
  obtain ⟨w3, hwv⟩ : ∃ x, x = wc := ⟨_, rfl⟩
  subst hwv
  have S3 := Lib.hid hst
  clear hst
  clear v0 v1 v2
  go_upto_region 7 with fail
  go_cut [3] (fun p wx => p = .pointer (some ⟨gc, 0, none⟩) ∧ CSt w1 g gc w.heap.size bs l2 c 0 0 wx)
  case first =>
    go_wp2_with (go_at_call 71; refine (expectNx _ S3.out.p hl HX.out.n2.skip).mono ?_; rintro e w4 ⟨rfl, hP4, hG4⟩; have HP4 := Lib.hid hP4; have HG4 := Lib.hid hG4; clear hP4 hG4)
    go_meet
    case rel => exact ⟨rfl, S3.out.call HP4.out HG4.out⟩
  obtain ⟨rfl, hst⟩ := hcut
  obtain ⟨w4, hwv⟩ : ∃ x, x = wc := ⟨_, rfl⟩
  subst hwv
  have S4 := Lib.hid hst
  clear hst
  obtain ⟨v0, v1, v2⟩ := row3P (Lib.hid S4.out.row)
  go_upto_region 8 with fail
  go_cut [3] (fun p wx => p = .pointer (some ⟨gc, 0, none⟩) ∧ CSt w1 g gc w.heap.size bs l3 c lo 0 wx)
  case first =>
    go_wp2_with (go_at_call 69; refine (numberNx (n := lo) _ S4.out.p hl HX.out.n3 HX.out.m1 (by have := HX.out.h0; have := HX.out.h1; have h5 := HX.out.h2; rw [HMX.out] at h5; omega) (by have := HX.out.h1; have h5 := HX.out.h2; rw [HMX.out] at h5; omega)).mono ?_; rintro e w4 ⟨rfl, hP4, hG4⟩; have HC4 := Lib.hid (S4.out.call hP4 hG4); obtain ⟨a0, a1, a2⟩ := row3P (Lib.hid HC4.out.row); have fa := frzP (Lib.hid HC4.out.row); have la := heap_lt HC4.out.row; clear hP4 hG4)
    go_meet
    case rel => exact ⟨rfl, HC4.out.set (heap_set (i := 1) HC4.out.row)⟩
  obtain ⟨rfl, hst⟩ := hcut
  obtain ⟨w5, hwv⟩ : ∃ x, x = wc := ⟨_, rfl⟩
  subst hwv
  have S5 := Lib.hid hst
  clear hst
  clear v0 v1 v2
  go_upto_region 9 with fail
  go_cut [3] (fun p wx => p = .pointer (some ⟨gc, 0, none⟩) ∧ CSt w1 g gc w.heap.size bs l4 c lo 0 wx)
  case first =>
    go_wp2_with (go_at_call 71; refine (expectNx _ S5.out.p hl HX.out.n4).mono ?_; rintro e w4 ⟨rfl, hP4, hG4⟩; have HP4 := Lib.hid hP4; have HG4 := Lib.hid hG4; clear hP4 hG4)
    go_meet
    case rel => exact ⟨rfl, S5.out.call HP4.out HG4.out⟩
  obtain ⟨rfl, hst⟩ := hcut
  obtain ⟨w6, hwv⟩ : ∃ x, x = wc := ⟨_, rfl⟩
  subst hwv
  have S6 := Lib.hid hst
  clear hst
  obtain ⟨v0, v1, v2⟩ := row3P (Lib.hid S6.out.row)
  go_upto_region 10 with fail
  go_cut [3] (fun p wx => p = .pointer (some ⟨gc, 0, none⟩) ∧ CSt w1 g gc w.heap.size bs l5 c lo hi wx)
  case first =>
    go_wp2_with (go_at_call 69; refine (numberNx (n := hi) _ S6.out.p hl HX.out.n5 HX.out.m2 (by have := HX.out.h0; have := HX.out.h1; have h5 := HX.out.h2; rw [HMX.out] at h5; omega) (by have := HX.out.h1; have h5 := HX.out.h2; rw [HMX.out] at h5; omega)).mono ?_; rintro e w4 ⟨rfl, hP4, hG4⟩; have HC4 := Lib.hid (S6.out.call hP4 hG4); obtain ⟨a0, a1, a2⟩ := row3P (Lib.hid HC4.out.row); have fa := frzP (Lib.hid HC4.out.row); have la := heap_lt HC4.out.row; clear hP4 hG4)
    go_meet
    case rel => exact ⟨rfl, HC4.out.set (heap_set (i := 2) HC4.out.row)⟩
  obtain ⟨rfl, hst⟩ := hcut
  obtain ⟨w7, hwv⟩ : ∃ x, x = wc := ⟨_, rfl⟩
  subst hwv
  have S7 := Lib.hid hst
  clear hst
  clear v0 v1 v2
  obtain ⟨v0, v1, v2⟩ := row3P (Lib.hid S7.out.row)
  obtain ⟨r0, r1, r2⟩ := row3P (Lib.hid S7.out.res)
  have fr := frzP (Lib.hid S7.out.res)
  have lr := heap_lt S7.out.res
  have lv := heap_lt S7.out.row
  have hne : gc ≠ w.heap.size := by have := S7.out.hgc; omega
  go_wp2_with fail
  have hset : (((w7.setCell ⟨w.heap.size, 0, none⟩ (.int .i64 (c : Int))).setCell ⟨w.heap.size, 1, none⟩ (.int .i64 lo)).setCell ⟨w.heap.size, 2, none⟩ (.int .i64 hi)).heap[w.heap.size]? = some (.cells #[.int .i64 (c : Int), .int .i64 lo, .int .i64 hi] 90 (0, 0)) := heap_set (i := 2) (heap_set (i := 1) (heap_set (i := 0) S7.out.res))
  obtain ⟨t0, t1, t2⟩ := row3P (Lib.hid hset)
  have hwg : g ≠ w.heap.size := by omega
  refine bodyPost_ret (v := .agg #[.int .i64 (c : Int), .int .i64 lo, .int .i64 hi]) (by simp [results, Tryz.results97, go_sem, *]) rfl ⟨rfl, ?_, ?_⟩
  · obtain ⟨j, a, b, d⟩ := S7.out.p
    exact ⟨j, a, b, (((Below.heap_setCell _ _ _ _ hwg).trans (Below.heap_setCell _ _ _ _ hwg)).trans (Below.heap_setCell _ _ _ _ hwg)).trans d⟩
  · exact ((Gk.ofBelow B1.out).trans S7.out.gk).belowR (Below.setCell (p := ⟨w.heap.size, 2, none⟩) (Below.setCell (p := ⟨w.heap.size, 1, none⟩) (Below.setCell (p := ⟨w.heap.size, 0, none⟩) (Below.refl w.heap.size w7) (Nat.le_refl _) _) (Nat.le_refl _) _) (Nat.le_refl _) _)
end Go.Proofs.YtagadbdbbglddaaGreatDoor
namespace Go.Proofs.YtagadbdbbglddaaGreatDoor
open Go.RowKit

/-- A condition with one value. -/
structure CdEq (c : Nat) (n : Int) (t l l1 l2 l3 : List UInt8) : Prop where
  n1 : Nx 1 (nmF c) l l1
  n2 : Nx 3 [61] l1 l2
  n3 : Nx 2 t l2 l3
  m1 : Num t n
  hc : c < 4
  h0 : 0 ≤ n
  h2 : n ≤ maxC c
set_option maxRecDepth 100000 in
set_option maxHeartbeats 4000000 in
theorem condEqP {bs t l l1 l2 l3 : List UInt8} {c : Nat} {n : Int} {g : Nat} (w : World) (hp : PAt bs g l w) (hl : bs.length ≤ 1000) (h : CdEq c n t l l1 l2 l3) :
    Calls Tryz.prog 97 #[.pointer (some ⟨g, 0, none⟩)] w fun e w' => e = .returned (.agg #[.int .i64 (c : Int), .int .i64 n, .int .i64 n]) ∧ PAt bs g l3 w' ∧ Gk g w w' := by
  have HX := Lib.hid h
  have HP := Lib.hid hp
  have lg := hp.lt
  clear h hp
  go_enter Tryz.func97, Tryz.ntmps97
  go_upto_region 1 with fail
  refine wp_world (F := fun wx => Below w.heap.size w wx ∧ Hid (wx.heap[w.heap.size]? = some (.cells #[.int .i64 0, .int .i64 0, .int .i64 0] 90 (0, 0)))) ⟨(by repeat' (first | with_reducible exact Below.refl _ _ | with_reducible assumption | with_reducible refine Below.setCell ?_ ?_ _ | with_reducible refine Below.drew ?_ | with_reducible refine below_drewN ?_ _ | with_reducible refine Below.alloc ?_ ?_ _ | (rintro _ ⟨⟩; simp <;> omega) | omega | (simp <;> omega))), Lib.hid (heap_alloc_at rfl)⟩ ?_
  rintro w1 ⟨bb, gr⟩
  have B1 := Lib.hid bb
  have P1 := Lib.hid (HP.out.below bb)
  have l1' := heap_lt gr.out
  clear bb HP
  go_cut [3] (fun p wx => ∃ gc, p = .pointer (some ⟨gc, 0, none⟩) ∧ CSt w1 g gc w.heap.size bs l1 c 0 0 wx)
  case first =>
    go_wp2_with (go_at_call 68; refine (columnNx _ P1.out hl HX.out.n1 HX.out.hc).mono ?_; rintro e w2 ⟨rfl, hP2, hG2⟩; have HP2 := Lib.hid hP2; have HG2 := Lib.hid hG2; clear hP2 hG2)
    go_meet
    case rel =>
      have h1 := HP2.out.lt
      have h2 := HG2.out.g.size
      exact ⟨_, rfl, heap_alloc_at rfl, (Below.heap_alloc _ _ _ (by omega)).trans (HG2.out.row gr.out (by omega)), HP2.out.below ((Below.refl _ _).alloc (Nat.le_refl _) _), HG2.out.alloc _, h2, l1', by omega, by omega⟩
  obtain ⟨gc, rfl, hst⟩ := hcut
  obtain ⟨w2, hwv⟩ : ∃ x, x = wc := ⟨_, rfl⟩
  subst hwv
  have S2 := Lib.hid hst
  obtain ⟨mx, hmx⟩ : ∃ m, maxC (c : Int) = m := ⟨_, rfl⟩
  have HMX := Lib.hid hmx
  have hmx255 : mx ≤ 255 := by rw [← hmx]; exact maxC_le _
  obtain ⟨v0, v1, v2⟩ := row3P (Lib.hid hst.row)
  clear hst hmx
  go_upto_region 3 with (go_at_call 85; refine (columnMaxP _ _).mono ?_; rw [HMX.out]; rintro e w3 ⟨rfl, rfl⟩)
  go_cut [13] (fun v wx => v = .bool true ∧ CSt w1 g gc w.heap.size bs l2 c 0 0 wx)
  case first =>
    go_wp2_with (go_at_call 67; refine (acceptNx _ S2.out.p hl HX.out.n2).mono ?_; rintro e w4 ⟨rfl, hP4, hG4⟩; have HP4 := Lib.hid hP4; have HG4 := Lib.hid hG4; clear hP4 hG4)
    go_meet
    case rel => exact ⟨rfl, S2.out.call HP4.out HG4.out⟩
  obtain ⟨rfl, hst⟩ := hcut
  obtain ⟨w3, hwv⟩ : ∃ x, x = wc := ⟨_, rfl⟩
  subst hwv
  have S3 := Lib.hid hst
  clear hst v0 v1 v2
  obtain ⟨v0, v1, v2⟩ := row3P (Lib.hid S3.out.row)
  go_upto_region 4 with fail
  go_cut [3] (fun p wx => p = .pointer (some ⟨gc, 0, none⟩) ∧ CSt w1 g gc w.heap.size bs l3 c n 0 wx)
  case first =>
    go_wp2_with (go_at_call 69; refine (numberNx (n := n) _ S3.out.p hl HX.out.n3 HX.out.m1 (by have := HX.out.h0; have h5 := HX.out.h2; rw [HMX.out] at h5; omega) (by have h5 := HX.out.h2; rw [HMX.out] at h5; omega)).mono ?_; rintro e w4 ⟨rfl, hP4, hG4⟩; have HC4 := Lib.hid (S3.out.call hP4 hG4); obtain ⟨a0, a1, a2⟩ := row3P (Lib.hid HC4.out.row); have fa := frzP (Lib.hid HC4.out.row); have la := heap_lt HC4.out.row; clear hP4 hG4)
    go_meet
    case rel => exact ⟨rfl, HC4.out.set (heap_set (i := 1) HC4.out.row)⟩
  obtain ⟨rfl, hst⟩ := hcut
  obtain ⟨w6, hwv⟩ : ∃ x, x = wc := ⟨_, rfl⟩
  subst hwv
  have S6 := Lib.hid hst
  clear hst v0 v1 v2
  obtain ⟨v0, v1, v2⟩ := row3P (Lib.hid S6.out.row)
  have fv := frzP (Lib.hid S6.out.row)
  have lv6 := heap_lt S6.out.row
  go_upto_region 5 with fail
  go_cut [3] (fun p wx => p = .pointer (some ⟨gc, 0, none⟩) ∧ CSt w1 g gc w.heap.size bs l3 c n n wx)
  case first =>
    go_wp2_with fail
    go_meet
    case rel => exact ⟨rfl, S6.out.set (heap_set (i := 2) S6.out.row)⟩
  obtain ⟨rfl, hst⟩ := hcut
  obtain ⟨w7, hwv⟩ : ∃ x, x = wc := ⟨_, rfl⟩
  subst hwv
  have S7 := Lib.hid hst
  clear hst v0 v1 v2 fv lv6
  obtain ⟨v0, v1, v2⟩ := row3P (Lib.hid S7.out.row)
  obtain ⟨r0, r1, r2⟩ := row3P (Lib.hid S7.out.res)
  have fr := frzP (Lib.hid S7.out.res)
  have lr := heap_lt S7.out.res
  have lv := heap_lt S7.out.row
  have hne : gc ≠ w.heap.size := by have := S7.out.hgc; omega
  go_wp2_with fail
  have hset : (((w7.setCell ⟨w.heap.size, 0, none⟩ (.int .i64 (c : Int))).setCell ⟨w.heap.size, 1, none⟩ (.int .i64 n)).setCell ⟨w.heap.size, 2, none⟩ (.int .i64 n)).heap[w.heap.size]? = some (.cells #[.int .i64 (c : Int), .int .i64 n, .int .i64 n] 90 (0, 0)) := heap_set (i := 2) (heap_set (i := 1) (heap_set (i := 0) S7.out.res))
  obtain ⟨t0, t1, t2⟩ := row3P (Lib.hid hset)
  have hwg : g ≠ w.heap.size := by omega
  refine bodyPost_ret (v := .agg #[.int .i64 (c : Int), .int .i64 n, .int .i64 n]) (by simp [results, Tryz.results97, go_sem, *]) rfl ⟨rfl, ?_, ?_⟩
  · obtain ⟨j, a, b, d⟩ := S7.out.p
    exact ⟨j, a, b, (((Below.heap_setCell _ _ _ _ hwg).trans (Below.heap_setCell _ _ _ _ hwg)).trans (Below.heap_setCell _ _ _ _ hwg)).trans d⟩
  · exact ((Gk.ofBelow B1.out).trans S7.out.gk).belowR (Below.setCell (p := ⟨w.heap.size, 2, none⟩) (Below.setCell (p := ⟨w.heap.size, 1, none⟩) (Below.setCell (p := ⟨w.heap.size, 0, none⟩) (Below.refl w.heap.size w7) (Nat.le_refl _) _) (Nat.le_refl _) _) (Nat.le_refl _) _)
end Go.Proofs.YtagadbdbbglddaaGreatDoor
namespace Go.Proofs.YtagadbdbbglddaaGreatDoor
open Go.RowKit

def whereJ : List UInt8 := [119, 104, 101, 114, 101]
def andJ : List UInt8 := [97, 110, 100]
/-- The text of a condition. -/
def CondTx (x : Cd) (l l' : List UInt8) : Prop :=
  (∃ (n : Nat) (tl th l1 l2 l3 l4 : List UInt8), x.col = n ∧ CdTx n x.lo x.hi tl th l l1 l2 l3 l4 l') ∨ ∃ (n : Nat) (t l1 l2 : List UInt8), x.col = n ∧ x.lo = x.hi ∧ CdEq n x.lo t l l1 l2 l'
theorem condAny {bs l l' : List UInt8} {x : Cd} {g : Nat} (w : World) (hp : PAt bs g l w) (hl : bs.length ≤ 1000) (h : CondTx x l l') :
    Calls Tryz.prog 97 #[.pointer (some ⟨g, 0, none⟩)] w fun e w' => e = .returned (.agg #[.int .i64 x.col, .int .i64 x.lo, .int .i64 x.hi]) ∧ PAt bs g l' w' ∧ Gk g w w' := by
  rcases h with ⟨n, tl, th, l1, l2, l3, l4, hc, h⟩ | ⟨n, t, l1, l2, hc, he, h⟩
  · rw [hc]; exact condP w hp hl h
  · rw [hc, ← he]; exact condEqP w hp hl h
def NoTx (jt l : List UInt8) : Prop := ∃ k t, tokF (skipW l) = (k, t) ∧ (k = 1 → t ≠ jt)
theorem acceptNo {bs l jt : List UInt8} {g : Nat} (w : World) (hp : PAt bs g l w) (hl : bs.length ≤ 1000) (h : NoTx jt l) :
    Calls Tryz.prog 67 #[.pointer (some ⟨g, 0, none⟩), .agg #[.int .i64 1, .string ⟨jt.toArray⟩]] w fun e w' => e = .returned (.bool false) ∧ PAt bs g (skipW l) w' ∧ Gk g w w' := by
  obtain ⟨k, t, h1, h2⟩ := h
  by_cases hk : k = 1
  · subst hk
    exact acceptT (k' := 0) w hp hl h1 (h2 rfl)
  · exact acceptK w hp hl h1 hk
/-- The text of a filter's conditions behind n of them; jt: the word ahead of the next. -/
def FTx (jt : List UInt8) : List Cd → Nat → List UInt8 → List UInt8 → Prop
  | [], n, l, l' => (n < 3 → NoTx jt l) ∧ skipW l' = skipW l
  | x :: cs, n, l, l' => n < 3 ∧ ∃ l1 l2, Nx 1 jt l l1 ∧ CondTx x l1 l2 ∧ FTx andJ cs (n + 1) l2 l'
theorem Own.grownNeP {α : Type} {E : Enc α} {w w' : World} {base : Nat} {e : TypeId} {v : Value} {xs : List α} {row : Option Nat} (h : Own E (fun _ => False) w base e v xs) (hg : w.grownBy w' row) (hne : ∀ k, v.ownBlock = some k → row ≠ some k) : Own E (fun _ => False) w' base e v xs := by
  refine h.grown hg ?_ (fun _ _ h => h)
  cases hv : v.ownBlock with
  | none => exact .inl rfl
  | some k => exact .inr (fun e => hne k hv e.symm)
def slLen (v : Value) : Nat := match v with | .slice _ k _ => k | _ => 0
theorem slLen_slice (A : Option Addr) (k c : Nat) : slLen (.slice A k c) = k := rfl
theorem Gk.grownOwn {g : Nat} {w X Y : World} {row : Option Nat} (h : Gk g w X) (hg : X.grownBy Y row) (hr : ∀ k, row = some k → w.heap.size ≤ k) : Gk g w Y :=
  ⟨⟨hg.os.trans h.g.os, hg.tape.trans h.g.tape, hg.output.trans h.g.output, Nat.le_trans h.g.size hg.size, fun b hl hn => (hg.block b (Nat.lt_of_lt_of_le hl h.g.size) (fun e => by have := hr b e.symm; omega)).trans (h.g.block b hl hn)⟩⟩
theorem PAt.grown {bs : List UInt8} {g : Nat} {l : List UInt8} {X Y : World} {row : Option Nat} (h : PAt bs g l X) (hg : X.grownBy Y row) (hr : ∀ k, row = some k → g ≠ k) : PAt bs g l Y := by
  obtain ⟨i, a, b, d⟩ := h
  exact ⟨i, a, b, (hg.block g (heap_lt d) (fun e => hr g e.symm rfl)).trans d⟩
/-- How the filter stands ahead of a round. -/
def FSt (bs : List UInt8) (g : Nat) (n : Nat) (rest : List Cd) (l' : List UInt8) (wr : World) : Prop :=
  match rest with
  | [] => ∃ lf, skipW lf = skipW l' ∧ PAt bs g lf wr
  | x :: cs => ∃ la lb, CondTx x la lb ∧ FTx andJ cs (n + 1) lb l' ∧ PAt bs g la wr
set_option maxRecDepth 100000 in
set_option maxHeartbeats 4000000 in
theorem filterP {bs l l' : List UInt8} {cs : List Cd} {g : Nat} (w : World) (hp : PAt bs g l w) (hl : bs.length ≤ 1000) (h : FTx whereJ cs 0 l l') :
    Calls Tryz.prog 70 #[.pointer (some ⟨g, 0, none⟩)] w fun e w' => ∃ A c, e = .returned (.slice A cs.length c) ∧ Sl cdE (fun b => w.heap.size ≤ b) w' A c cs ∧ (∃ lf, skipW lf = skipW l' ∧ PAt bs g lf w') ∧ Gk g w w' := by
  have HP := Lib.hid hp
  have lg := hp.lt
  have HX := Lib.hid h
  clear hp h
  go_enter Tryz.func70, Tryz.ntmps70
  go_upto_region 3 with fail
  go_cut [5] (fun v wx => v = .bool (!cs.isEmpty) ∧ FSt bs g 0 cs l' wx ∧ Gk g (w.alloc (.cells #[] 90)) wx)
  case first =>
    have HP1 := Lib.hid (HP.out.below ((Below.refl w.heap.size w).alloc (Nat.le_refl _) (.cells #[] 90)))
    cases cs with
    | nil =>
      go_wp2_with (go_at_call 67; refine (acceptNo (jt := whereJ) _ HP1.out hl (HX.out.1 (by decide))).mono ?_; rintro e w4 ⟨rfl, hP4, hG4⟩; have HP4 := Lib.hid hP4; have HG4 := Lib.hid hG4; clear hP4 hG4)
      go_meet
      case rel => exact ⟨rfl, ⟨_, by rw [skipW_idem]; exact HX.out.2.symm, HP4.out⟩, HG4.out⟩
    | cons x r =>
      obtain ⟨-, la, lb, h1, h2, h3⟩ := HX.out
      have H1 := Lib.hid h1
      have H2 := Lib.hid h2
      have H3 := Lib.hid h3
      clear h1 h2 h3
      go_wp2_with (go_at_call 67; refine (acceptNx (t := whereJ) _ HP1.out hl H1.out).mono ?_; rintro e w4 ⟨rfl, hP4, hG4⟩; have HP4 := Lib.hid hP4; have HG4 := Lib.hid hG4; clear hP4 hG4)
      go_meet
      case rel => exact ⟨rfl, ⟨la, lb, H2.out, H3.out, HP4.out⟩, HG4.out⟩
  obtain ⟨rfl, hst, hG⟩ := hcut
  obtain ⟨w2, hwv⟩ : ∃ x, x = wc := ⟨_, rfl⟩
  subst hwv
  have S2 := Lib.hid hst
  have HG2 := Lib.hid (((Gk.refl g w).alloc _).trans hG)
  have HO2 := Lib.hid (show Own cdE (fun _ => False) w2 w.heap.size 90 (.slice (some ⟨w.heap.size, 0, none⟩) 0 0) [] from Own.grownNeP (w := w.alloc (.cells #[] 90)) (Own.litAt _ _ _ _ rfl (Nat.le_refl _)) hG.g (fun k hk e => by have h1 : some w.heap.size = some k := hk; injection h1 with h1; injection e with e; omega))
  clear hst hG
  have lw2 : w.heap.size ≤ w2.heap.size := HG2.out.g.size
  go_wp2_with fail
  go_loopw [3, 5] (fun v m wr => ∃ (done rest : List Cd) (A : Option Addr) (k c : Nat), Hid (cs = done ++ rest) ∧ v = .slice A k c ∧ Hid (done.length = k) ∧ k ≤ 3 ∧ Hid (Own cdE (fun _ => False) wr w.heap.size 90 (.slice A k c) done) ∧ m = .bool (!rest.isEmpty) ∧ Hid (rest ≠ [] → k < 3) ∧ Hid (FSt bs g k rest l' wr) ∧ Hid (Gk g w wr)) (fun v _ _ => 4 - slLen v)
  case atStart => exact ⟨[], cs, _, 0, 0, Lib.hid rfl, rfl, Lib.hid rfl, by omega, HO2, rfl, Lib.hid (fun _ => by omega), S2, HG2⟩
  case round =>
    obtain ⟨done, rest, A, k, c, HC, rfl, HK, hk3, HO, rfl, HK3, HS, HG⟩ := hrel
    have lwr : w.heap.size ≤ wr.heap.size := HG.out.g.size
    cases rest with
    | nil =>
      have hcs : cs = done := by have := HC.out; rw [List.append_nil] at this; exact this
      have HCS := Lib.hid hcs
      clear hcs
      go_wp2_with fail
      exact bodyPost_ret (v := .slice A k c) (by simp [results, Tryz.results70, go_sem, *]) rfl ⟨A, c, by rw [HCS.out, HK.out], by rw [HCS.out]; exact HO.out.flatSl cdE_flat (fun _ h => h), HS.out, HG.out⟩
    | cons x r =>
      obtain ⟨la, lb, h1, h2, h3⟩ := HS.out
      have H1 := Lib.hid h1
      have H2 := Lib.hid h2
      have H3 := Lib.hid h3
      have hk2 : k < 3 := HK3.out (by simp)
      have hk0 : (0 : Int) ≤ (k : Int) := by omega
      clear h1 h2 h3
      have lo := HO.out.lt
      go_upto_region 5 with (first
        | (go_at_call 97; refine (condAny (x := x) _ H3.out hl H1.out).mono ?_; rintro e w4 ⟨rfl, hP4, hG4⟩; have HP4 := Lib.hid hP4; have HG4 := Lib.hid (HG.out.trans hG4); have HO4 := Lib.hid (HO.out.grownNeP hG4.g (fun j hj e => by injection e with e; have := (lo j hj).1; omega)); have lo4 := HO4.out.lt; have lz4 := hG4.g.size; clear hP4 hG4)
        | (at_builtin; go_must ((refine wpList_append_E (S := fun b => b = w4.heap.size) rfl (.tmp 21) (.tmp 24) rfl cdsT (base := w.heap.size) (v := .slice A k c) (xs := done) (ys := [x]) (by rfl) (by rfl) rfl (nz := k + 1) (by simp [HK.out]) ((HO4.out.flat cdE_flat).alloc _) (Sl.litAt (S := fun b => b = w4.heap.size) rfl (.single cdE_shut) (by unfold maxLen; simp) (fun _ h _ => h) rfl) (by unfold maxLen; simp [HK.out]; omega) (by simp [HK.out]; omega) (by simp; omega) (fun g' hg' (hs : g' = w4.heap.size) => absurd (lo4 g' hg').2 (by omega)) ?_; intro A6 c6 w6 hown6 hg6 hor6))))
      have HO5 := Lib.hid (hown6.flat cdE_flat (T := fun _ => False))
      have HP5 := Lib.hid ((HP4.out.below ((Below.refl _ _).alloc (Nat.le_refl _) _)).grown hg6 (fun j hj => by have := (lo4 j hj).1; omega))
      have HG5 := Lib.hid ((HG4.out.alloc _).grownOwn hg6 (fun j hj => (lo4 j hj).1))
      have HC5 := Lib.hid (show cs = (done ++ [x]) ++ r by rw [HC.out]; simp)
      have HK5 := Lib.hid (show (done ++ [x]).length = k + 1 by simp [HK.out])
      have lo5 := HO5.out.lt
      clear HO HG HS H3 HP4 HG4 HO4 hown6 hg6 hor6
      cases r with
      | nil =>
        by_cases hk4 : k + 1 < 3
        · have g1 : ((k + 1 : Nat) : Int) < 3 := by omega
          have g2 : (k : Int) + 1 < 3 := by omega
          go_wp2_with (go_at_call 67; refine (acceptNo (jt := andJ) _ HP5.out hl (H2.out.1 hk4)).mono ?_; rintro e w4 ⟨rfl, hP4, hG4⟩; have HP4 := Lib.hid hP4; have HG4 := Lib.hid hG4; clear hP4 hG4)
          go_roundw
          case rel => exact ⟨done ++ [x], [], A6, k + 1, c6, HC5, rfl, HK5, by omega, Lib.hid (HO5.out.grownNeP HG4.out.g (fun j hj e => by injection e with e; have := (lo5 j hj).1; omega)), rfl, Lib.hid (fun h => absurd rfl h), Lib.hid ⟨_, by rw [skipW_idem]; exact H2.out.2.symm, HP4.out⟩, Lib.hid (HG5.out.trans HG4.out)⟩
          case measure => simp only [slLen_slice]; omega
        · have g1 : ¬ ((k + 1 : Nat) : Int) < 3 := by omega
          have g2 : ¬ (k : Int) + 1 < 3 := by omega
          go_wp2_with fail
          go_roundw
          case rel => exact ⟨done ++ [x], [], A6, k + 1, c6, HC5, rfl, HK5, by omega, HO5, rfl, Lib.hid (fun h => absurd rfl h), Lib.hid ⟨_, H2.out.2.symm, HP5.out⟩, HG5⟩
          case measure => simp only [slLen_slice]; omega
      | cons y r2 =>
        obtain ⟨hk4, lc, ld, n1, n2, n3⟩ := H2.out
        have N1 := Lib.hid n1
        have N2 := Lib.hid n2
        have N3 := Lib.hid n3
        clear n1 n2 n3
        have g1 : ((k + 1 : Nat) : Int) < 3 := by omega
        have g2 : (k : Int) + 1 < 3 := by omega
        go_wp2_with (go_at_call 67; refine (acceptNx (t := andJ) _ HP5.out hl N1.out).mono ?_; rintro e w4 ⟨rfl, hP4, hG4⟩; have HP4 := Lib.hid hP4; have HG4 := Lib.hid hG4; clear hP4 hG4)
        go_roundw
        case rel => exact ⟨done ++ [x], y :: r2, A6, k + 1, c6, HC5, rfl, HK5, by omega, Lib.hid (HO5.out.grownNeP HG4.out.g (fun j hj e => by injection e with e; have := (lo5 j hj).1; omega)), rfl, Lib.hid (fun _ => hk4), Lib.hid ⟨lc, ld, N2.out, N3.out, HP4.out⟩, Lib.hid (HG5.out.trans HG4.out)⟩
        case measure => simp only [slLen_slice]; omega
end Go.Proofs.YtagadbdbbglddaaGreatDoor
