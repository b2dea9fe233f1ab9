/-
  Texts of this claim, merged: Ex. Conditions: as each theorem says.
-/
import Derived.Deep.Upon
import Derived.Test.YtpdblgchfkcgpaaV1
import Derived.Test.YtpdblgchfkcgpaaV2
import Derived.Test.YtpdblgchfkcgpaaV7
import Derived.Test.YtpdblgchfkcgpaaV10
set_option linter.unusedSimpArgs false
set_option linter.unusedVariables false
namespace Go.Proofs.Ytpdblgchfkcgpaa
open Go.RowKit

/-- Pairs of integers, multiplied as in Z[X]/(X^2 - 7). -/
structure ZQ where
  u : Int
  v : Int
namespace ZQ
def add (x y : ZQ) : ZQ := ⟨x.u + y.u, x.v + y.v⟩
def neg (x : ZQ) : ZQ := ⟨-x.u, -x.v⟩
def sub (x y : ZQ) : ZQ := add x (neg y)
def mul (x y : ZQ) : ZQ := ⟨x.u * y.u + 7 * (x.v * y.v), x.u * y.v + x.v * y.u⟩
def one : ZQ := ⟨1, 0⟩
def zero : ZQ := ⟨0, 0⟩
def fac (x y : ZQ) : ZQ := add (mul x y) (mul (sub one x) (sub one y))
end ZQ
def exAdd : List FRow := [(0, ([], (6, [2]))), (1, ([0], (7, [5]))), (2, ([], (8, [3]))), (3, ([2], (9, [7]))), (4, ([1, 3], (10, [6, 8]))), (5, ([], (11, [2]))), (6, ([5], (12, [10]))), (7, ([], (13, [3]))), (8, ([7], (14, [12]))), (9, ([6, 8, 4], (15, [11, 13]))), (10, ([4, 9], (16, [9, 14]))), (11, ([10, 9, 0, 1, 2, 3, 4, 5, 6, 7, 8, 9, 10], (0, [4, 15])))]
def exMul : List FRow := [(0, ([], (6, [2]))), (1, ([0], (7, [5]))), (2, ([], (8, [3]))), (3, ([2], (9, [7]))), (4, ([1, 3], (10, [6, 8]))), (5, ([], (11, [2]))), (6, ([5], (12, [10]))), (7, ([], (13, [3]))), (8, ([7], (14, [12]))), (9, ([6, 8, 4], (15, [11, 13]))), (10, ([9, 9], (16, [14]))), (11, ([4, 10, 10], (17, [9, 15]))), (12, ([], (18, [2]))), (13, ([12], (19, [17]))), (14, ([], (20, [3]))), (15, ([14], (21, [19]))), (16, ([13, 15, 11], (22, [18, 20]))), (17, ([], (23, [2]))), (18, ([17], (24, [22]))), (19, ([], (25, [3]))), (20, ([19], (26, [24]))), (21, ([18, 20, 16], (27, [23, 25]))), (22, ([16, 21, 21], (28, [21, 26]))), (23, ([11, 22], (29, [16, 27]))), (24, ([23, 22, 0, 1, 2, 3, 4, 5, 6, 7, 8, 9, 10, 11, 12, 13, 14, 15, 16, 17, 18, 19, 20, 21, 22, 23], (0, [4, 28])))]
def exNeg : List FRow := [(0, ([], (4, [1]))), (1, ([0], (5, [3]))), (2, ([1], (6, [4]))), (3, ([], (7, [1]))), (4, ([3], (8, [6]))), (5, ([4, 2], (9, [7]))), (6, ([2, 5], (10, [5, 8]))), (7, ([6, 5, 0, 1, 2, 3, 4, 5, 6], (0, [2, 9])))]
def exSub : List FRow := [(0, ([], (6, [2]))), (1, ([], (7, [3]))), (2, ([1], (8, [6]))), (3, ([0, 2, 2], (9, [5, 7]))), (4, ([3, 3, 0, 1, 2, 3], (0, [4, 8])))]
def exMade : List FRow := [(0, ([], (4, [1]))), (1, ([0], (5, [3]))), (2, ([1], (6, [4]))), (3, ([], (7, [1]))), (4, ([3], (8, [6]))), (5, ([4, 2], (9, [7]))), (6, ([2, 5], (10, [5, 8]))), (7, ([6, 5, 0, 1, 2, 3, 4, 5, 6], (0, [2, 9])))]
theorem pair2 {W : World} {g : Nat} {u v : Value} {t : TypeId} (h : Hid (W.heap[g]? = some (.cells #[u, v] t (0, 0)))) : W.cell? ⟨g, 0, none⟩ = some u ∧ W.cell? ⟨g, 1, none⟩ = some v ∧ g < W.heap.size :=
  ⟨cell_of_row _ _ 0 _ _ _ h.out, cell_of_row _ _ 1 _ _ _ h.out, heap_lt h.out⟩
theorem setpair {W : World} {g : Nat} {t : TypeId} {a b u v : Value} (h : W.heap[g]? = some (.cells #[a, b] t (0, 0))) : ((W.setCell ⟨g, 0, none⟩ u).setCell ⟨g, 1, none⟩ v).heap[g]? = some (.cells #[u, v] t (0, 0)) :=
  heap_set (i := 1) (heap_set (i := 0) h)
theorem frzX {W : World} {g : Nat} {cs : Array Value} {t : TypeId} (h : Hid (W.heap[g]? = some (.cells cs t (0, 0)))) (i : Nat) : W.frozen? ⟨g, i, none⟩ = false := by simp [World.frozen?, h.out]
/-- A function's boxes: two operands and the result. -/
structure B3 (w : World) (o1 o2 o3 : Obj) (wx : World) : Prop where
  bel : Below w.heap.size w wx
  r1 : wx.heap[w.heap.size]? = some o1
  r2 : wx.heap[w.heap.size + 1]? = some o2
  r3 : wx.heap[w.heap.size + 1 + 1]? = some o3
theorem B3.start (w : World) (o1 o2 o3 : Obj) : B3 w o1 o2 o3 (((w.alloc o1).alloc o2).alloc o3) :=
  ⟨(by repeat' (first | with_reducible exact Below.refl _ _ | with_reducible assumption | with_reducible refine Below.setCell ?_ ?_ _ | with_reducible refine Below.drew ?_ | with_reducible refine below_drewN ?_ _ | with_reducible refine Below.alloc ?_ ?_ _ | (rintro _ ⟨⟩; simp <;> omega) | omega | (simp <;> omega))), (Below.heap_alloc _ _ _ (by simp; omega)).trans ((Below.heap_alloc _ _ _ (by simp)).trans (heap_alloc_at rfl)), (Below.heap_alloc _ _ _ (by simp)).trans (heap_alloc_at (by simp)), heap_alloc_at (by simp)⟩
set_option maxRecDepth 100000 in
set_option maxHeartbeats 4000000 in
theorem addX (x y : ZQ) (w : World) : Calls Try.prog 9 #[(.agg #[.int .u64 (x.u % pF), .int .u64 (x.v % pF)]), (.agg #[.int .u64 (y.u % pF), .int .u64 (y.v % pF)])] w fun e w' => e = .returned (.agg #[.int .u64 ((x.add y).u % pF), .int .u64 ((x.add y).v % pF)]) ∧ Below w.heap.size w w' := by
  obtain ⟨r, hr⟩ : ∃ r, (x.u + y.u) % pF = r := ⟨_, rfl⟩
  obtain ⟨s, hs⟩ : ∃ s, (x.v + y.v) % pF = s := ⟨_, rfl⟩
  have HR := Lib.hid hr
  have HS := Lib.hid hs
  show Calls _ _ _ _ fun e w' => e = .returned (.agg #[.int .u64 ((x.u + y.u) % pF), .int .u64 ((x.v + y.v) % pF)]) ∧ Below w.heap.size w w'
  rw [hr, hs]
  clear hr hs
  go_enter Try.func9, Try.ntmps9
  go_upto_region 1 with fail
  refine wp_world (F := fun wx => Hid (B3 w (.cells #[.int .u64 (x.u % pF), .int .u64 (x.v % pF)] 40 (0, 0)) (.cells #[.int .u64 (y.u % pF), .int .u64 (y.v % pF)] 40 (0, 0)) (.cells #[.int .u64 0, .int .u64 0] 40 (0, 0)) wx)) (Lib.hid (B3.start w _ _ _)) ?_
  intro w1 HB
  have bel := HB.out.bel
  have R1 := Lib.hid HB.out.r1
  have R2 := Lib.hid HB.out.r2
  have R3 := Lib.hid HB.out.r3
  have z1 : ∀ W, Gk (w.heap.size + 1 + 1) w1 W → _ ∧ _ ∧ _ := fun W hW => pair2 (Lib.hid (hW.row R1.out (by omega)))
  have z2 : ∀ W, Gk (w.heap.size + 1 + 1) w1 W → _ ∧ _ ∧ _ := fun W hW => pair2 (Lib.hid (hW.row R2.out (by omega)))
  obtain ⟨c0, c1, lr⟩ := pair2 R3
  have fr := frzX R3
  refine wp_region_noPanic ?_
  refine wp_region_held_drew (S := fun X => Gk (w.heap.size + 1 + 1) w1 X) (by kernel_rfl) ?_ (fun hHeld => ?_)
  · (first | (repeat' (first | with_reducible assumption | with_reducible exact Gk.refl _ _ | with_reducible refine Gk.drew ?_ | with_reducible refine Gk.set ?_ _ _ | with_reducible refine Gk.alloc ?_ _ | with_reducible refine Gk.call ?_ (by assumption))) | (first | with_reducible assumption | (with_reducible refine Below.drew ?_; with_reducible assumption) | (with_reducible refine ba _ _ ?_; with_reducible assumption) | (with_reducible refine Below.drew ?_; with_reducible refine ba _ _ ?_; with_reducible assumption) | exact Below.refl _ _ | exact (Below.refl _ _).drew | exact (Below.refl _ _).alloc (Nat.le_refl _) _ | (refine bc _ _ (by assumption) (by assumption))))
  refine RegOk.begin_ (n := 12) (T := exAdd) ⟨by kernel_rfl, by kernel_rfl, by kernel_rfl, by kernel_rfl⟩ fun hR => ?_
  refine hR.take (i := 0) (oi := ?ow1_0) (v := ?vw1_0) (m' := 1) ?hw1_0 (by kernel_rfl) (by kernel_rfl) (fun _ _ _ h => h) (Or.inl ⟨?sw1_0, ?yw1_0⟩) (by assumption) ?nw1_0
  case hw1_0 => simp only [List.getElem?_toArray, List.getElem?_cons_succ, List.getElem?_cons_zero]; rfl
  case sw1_0 => rfl
  case yw1_0 => (intro w hSw; (try dsimp only at hSw); go_simp <;> with_reducible rfl)
  try simp only [Act.put, List.setIfInBounds_toArray, List.set_cons_zero, List.set_cons_succ]
  refine hR.take (i := 1) (oi := ?ow2_1) (v := ?vw2_1) (m' := 3) ?hw2_1 (by kernel_rfl) (by kernel_rfl) (fun _ _ _ h => h) (Or.inl ⟨?sw2_1, ?yw2_1⟩) (by assumption) ?nw2_1
  case hw2_1 => simp only [List.getElem?_toArray, List.getElem?_cons_succ, List.getElem?_cons_zero]; rfl
  case sw2_1 => rfl
  case yw2_1 => (intro w hSw; (try dsimp only at hSw); go_simp <;> with_reducible rfl)
  try simp only [Act.put, List.setIfInBounds_toArray, List.set_cons_zero, List.set_cons_succ]
  refine hR.take (i := 2) (oi := ?ow3_2) (v := ?vw3_2) (m' := 7) ?hw3_2 (by kernel_rfl) (by kernel_rfl) (fun _ _ _ h => h) (Or.inl ⟨?sw3_2, ?yw3_2⟩) (by assumption) ?nw3_2
  case hw3_2 => simp only [List.getElem?_toArray, List.getElem?_cons_succ, List.getElem?_cons_zero]; rfl
  case sw3_2 => rfl
  case yw3_2 => (intro w hSw; (try dsimp only at hSw); go_simp <;> with_reducible rfl)
  try simp only [Act.put, List.setIfInBounds_toArray, List.set_cons_zero, List.set_cons_succ]
  refine hR.take (i := 3) (oi := ?ow4_3) (v := ?vw4_3) (m' := 15) ?hw4_3 (by kernel_rfl) (by kernel_rfl) (fun _ _ _ h => h) (Or.inl ⟨?sw4_3, ?yw4_3⟩) (by assumption) ?nw4_3
  case hw4_3 => simp only [List.getElem?_toArray, List.getElem?_cons_succ, List.getElem?_cons_zero]; rfl
  case sw4_3 => rfl
  case yw4_3 => (intro w hSw; (try dsimp only at hSw); go_simp <;> with_reducible rfl)
  try simp only [Act.put, List.setIfInBounds_toArray, List.set_cons_zero, List.set_cons_succ]
  refine hR.take (i := 5) (oi := ?ow5_5) (v := ?vw5_5) (m' := 47) ?hw5_5 (by kernel_rfl) (by kernel_rfl) (fun _ _ _ h => h) (Or.inl ⟨?sw5_5, ?yw5_5⟩) (by assumption) ?nw5_5
  case hw5_5 => simp only [List.getElem?_toArray, List.getElem?_cons_succ, List.getElem?_cons_zero]; rfl
  case sw5_5 => rfl
  case yw5_5 => (intro w hSw; (try dsimp only at hSw); go_simp <;> with_reducible rfl)
  try simp only [Act.put, List.setIfInBounds_toArray, List.set_cons_zero, List.set_cons_succ]
  refine hR.take (i := 6) (oi := ?ow6_6) (v := ?vw6_6) (m' := 111) ?hw6_6 (by kernel_rfl) (by kernel_rfl) (fun _ _ _ h => h) (Or.inl ⟨?sw6_6, ?yw6_6⟩) (by assumption) ?nw6_6
  case hw6_6 => simp only [List.getElem?_toArray, List.getElem?_cons_succ, List.getElem?_cons_zero]; rfl
  case sw6_6 => rfl
  case yw6_6 => (intro w hSw; (try dsimp only at hSw); go_simp <;> with_reducible rfl)
  try simp only [Act.put, List.setIfInBounds_toArray, List.set_cons_zero, List.set_cons_succ]
  refine hR.take (i := 7) (oi := ?ow7_7) (v := ?vw7_7) (m' := 239) ?hw7_7 (by kernel_rfl) (by kernel_rfl) (fun _ _ _ h => h) (Or.inl ⟨?sw7_7, ?yw7_7⟩) (by assumption) ?nw7_7
  case hw7_7 => simp only [List.getElem?_toArray, List.getElem?_cons_succ, List.getElem?_cons_zero]; rfl
  case sw7_7 => rfl
  case yw7_7 => (intro w hSw; (try dsimp only at hSw); go_simp <;> with_reducible rfl)
  try simp only [Act.put, List.setIfInBounds_toArray, List.set_cons_zero, List.set_cons_succ]
  refine hR.take (i := 8) (oi := ?ow8_8) (v := ?vw8_8) (m' := 495) ?hw8_8 (by kernel_rfl) (by kernel_rfl) (fun _ _ _ h => h) (Or.inl ⟨?sw8_8, ?yw8_8⟩) (by assumption) ?nw8_8
  case hw8_8 => simp only [List.getElem?_toArray, List.getElem?_cons_succ, List.getElem?_cons_zero]; rfl
  case sw8_8 => rfl
  case yw8_8 => (intro w hSw; (try dsimp only at hSw); go_simp <;> with_reducible rfl)
  try simp only [Act.put, List.setIfInBounds_toArray, List.set_cons_zero, List.set_cons_succ]
  refine hR.come (rs := [4]) (by kernel_rfl) (by simp) ?_
  refine AllReadyH.cons (o := ?o9_4) ?h9_4 (fun K hK => ?kw9_4) AllReadyH.nil
  case h9_4 => simp only [List.getElem?_toArray, List.getElem?_cons_succ, List.getElem?_cons_zero]; rfl
  go_simp
  go_at_call 36; (with_reducible refine (addP (x := x.u) (y := y.u) rfl rfl HR.out _).mono ?_); rintro e wA ⟨rfl, rfl⟩
  refine hK.out _ _ ?_ (fun hHeld => ?_)
  · (first | (repeat' (first | with_reducible assumption | with_reducible exact Gk.refl _ _ | with_reducible refine Gk.drew ?_ | with_reducible refine Gk.set ?_ _ _ | with_reducible refine Gk.alloc ?_ _ | with_reducible refine Gk.call ?_ (by assumption))) | (first | with_reducible assumption | (with_reducible refine Below.drew ?_; with_reducible assumption) | (with_reducible refine ba _ _ ?_; with_reducible assumption) | (with_reducible refine Below.drew ?_; with_reducible refine ba _ _ ?_; with_reducible assumption) | exact Below.refl _ _ | exact (Below.refl _ _).drew | exact (Below.refl _ _).alloc (Nat.le_refl _) _ | (refine bc _ _ (by assumption) (by assumption))))
  clear hK K
  refine RegOk.put_ (m' := 511) (by kernel_rfl) ?_
  try simp only [Act.put, List.setIfInBounds_toArray, List.set_cons_zero, List.set_cons_succ]
  refine hR.come (rs := [9]) (by kernel_rfl) (by simp) ?_
  refine AllReadyH.cons (o := ?o10_9) ?h10_9 (fun K hK => ?kw10_9) AllReadyH.nil
  case h10_9 => simp only [List.getElem?_toArray, List.getElem?_cons_succ, List.getElem?_cons_zero]; rfl
  go_simp
  go_at_call 36; (with_reducible refine (addP (x := x.v) (y := y.v) rfl rfl HS.out _).mono ?_); rintro e wB ⟨rfl, rfl⟩
  refine hK.out _ _ ?_ (fun hHeld => ?_)
  · (first | (repeat' (first | with_reducible assumption | with_reducible exact Gk.refl _ _ | with_reducible refine Gk.drew ?_ | with_reducible refine Gk.set ?_ _ _ | with_reducible refine Gk.alloc ?_ _ | with_reducible refine Gk.call ?_ (by assumption))) | (first | with_reducible assumption | (with_reducible refine Below.drew ?_; with_reducible assumption) | (with_reducible refine ba _ _ ?_; with_reducible assumption) | (with_reducible refine Below.drew ?_; with_reducible refine ba _ _ ?_; with_reducible assumption) | exact Below.refl _ _ | exact (Below.refl _ _).drew | exact (Below.refl _ _).alloc (Nat.le_refl _) _ | (refine bc _ _ (by assumption) (by assumption))))
  clear hK K
  refine RegOk.put_ (m' := 1023) (by kernel_rfl) ?_
  try simp only [Act.put, List.setIfInBounds_toArray, List.set_cons_zero, List.set_cons_succ]
  refine hR.take (i := 10) (oi := ?ow11_10) (v := ?vw11_10) (m' := 2047) ?hw11_10 (by kernel_rfl) (by kernel_rfl) (fun _ _ _ h => h) (Or.inl ⟨?sw11_10, ?yw11_10⟩) (by assumption) ?nw11_10
  case hw11_10 => simp only [List.getElem?_toArray, List.getElem?_cons_succ, List.getElem?_cons_zero]; rfl
  case sw11_10 => rfl
  case yw11_10 => (intro w hSw; (try dsimp only at hSw); go_simp <;> with_reducible rfl)
  try simp only [Act.put, List.setIfInBounds_toArray, List.set_cons_zero, List.set_cons_succ]
  refine hR.come (rs := [11]) (by kernel_rfl) (by simp) ?_
  refine AllReadyH.cons (o := ?o12_11) ?h12_11 (fun K hK => ?kw12_11) AllReadyH.nil
  case h12_11 => simp only [List.getElem?_toArray, List.getElem?_cons_succ, List.getElem?_cons_zero]; rfl
  go_simp <;> (try go_wp2_with fail)
  refine hK.out _ _ ?_ (fun hHeld => ?_)
  · (first | (repeat' (first | with_reducible assumption | with_reducible exact Gk.refl _ _ | with_reducible refine Gk.drew ?_ | with_reducible refine Gk.set ?_ _ _ | with_reducible refine Gk.alloc ?_ _ | with_reducible refine Gk.call ?_ (by assumption))) | (first | with_reducible assumption | (with_reducible refine Below.drew ?_; with_reducible assumption) | (with_reducible refine ba _ _ ?_; with_reducible assumption) | (with_reducible refine Below.drew ?_; with_reducible refine ba _ _ ?_; with_reducible assumption) | exact Below.refl _ _ | exact (Below.refl _ _).drew | exact (Below.refl _ _).alloc (Nat.le_refl _) _ | (refine bc _ _ (by assumption) (by assumption))))
  clear hK K
  refine RegOk.put_ (m' := 4095) (by kernel_rfl) ?_
  try simp only [Act.put, List.setIfInBounds_toArray, List.set_cons_zero, List.set_cons_succ]
  refine hR.all (by kernel_rfl) ?_ _
  refine NoPanic.normal ?_
  go_wp2_with fail
  obtain ⟨t0, t1, -⟩ := pair2 (Lib.hid (setpair (u := .int .u64 r) (v := .int .u64 s) R3.out))
  refine bodyPost_ret (v := .agg #[.int .u64 r, .int .u64 s]) (by simp [results, Try.results9, go_sem, *]) rfl ⟨rfl, Gk.below (w := w1) (k := w.heap.size + 1 + 1) ?_ bel (by omega) bel.size⟩
  (repeat' (first | with_reducible assumption | with_reducible exact Gk.refl _ _ | with_reducible refine Gk.drew ?_ | with_reducible refine Gk.set ?_ _ _ | with_reducible refine Gk.alloc ?_ _ | with_reducible refine Gk.call ?_ (by assumption)))
structure B2 (w : World) (o1 o2 : Obj) (wx : World) : Prop where
  bel : Below w.heap.size w wx
  r1 : wx.heap[w.heap.size]? = some o1
  r2 : wx.heap[w.heap.size + 1]? = some o2
theorem B2.start (w : World) (o1 o2 : Obj) : B2 w o1 o2 ((w.alloc o1).alloc o2) :=
  ⟨(by repeat' (first | with_reducible exact Below.refl _ _ | with_reducible assumption | with_reducible refine Below.setCell ?_ ?_ _ | with_reducible refine Below.drew ?_ | with_reducible refine below_drewN ?_ _ | with_reducible refine Below.alloc ?_ ?_ _ | (rintro _ ⟨⟩; simp <;> omega) | omega | (simp <;> omega))), (Below.heap_alloc _ _ _ (by simp)).trans (heap_alloc_at rfl), heap_alloc_at (by simp)⟩
theorem addN {x y : ZQ} {a b c d r s : Int} (ha : x.u % pF = a) (hb : x.v % pF = b) (hc : y.u % pF = c) (hd : y.v % pF = d) (hr : (x.add y).u % pF = r) (hs : (x.add y).v % pF = s) (w : World) : Calls Try.prog 9 #[.agg #[.int .u64 a, .int .u64 b], .agg #[.int .u64 c, .int .u64 d]] w fun e w' => e = .returned (.agg #[.int .u64 r, .int .u64 s]) ∧ Below w.heap.size w w' := by
  subst ha; subst hb; subst hc; subst hd; subst hr; subst hs; exact addX x y w
set_option maxRecDepth 100000 in
set_option maxHeartbeats 8000000 in
theorem mulX (x y : ZQ) (w : World) : Calls Try.prog 10 #[(.agg #[.int .u64 (x.u % pF), .int .u64 (x.v % pF)]), (.agg #[.int .u64 (y.u % pF), .int .u64 (y.v % pF)])] w fun e w' => e = .returned (.agg #[.int .u64 ((x.mul y).u % pF), .int .u64 ((x.mul y).v % pF)]) ∧ Below w.heap.size w w' := by
  obtain ⟨r, hr⟩ : ∃ r, (x.u * y.u + 7 * (x.v * y.v)) % pF = r := ⟨_, rfl⟩
  obtain ⟨s, hs⟩ : ∃ s, (x.u * y.v + x.v * y.u) % pF = s := ⟨_, rfl⟩
  obtain ⟨m1, hm1⟩ : ∃ r, (x.u * y.u) % pF = r := ⟨_, rfl⟩
  have M1 := Lib.hid hm1
  clear hm1
  obtain ⟨m2, hm2⟩ : ∃ r, (x.v * y.v) % pF = r := ⟨_, rfl⟩
  have M2 := Lib.hid hm2
  clear hm2
  obtain ⟨m3, hm3⟩ : ∃ r, (7 * (x.v * y.v)) % pF = r := ⟨_, rfl⟩
  have M3 := Lib.hid hm3
  clear hm3
  obtain ⟨m4, hm4⟩ : ∃ r, (x.u * y.v) % pF = r := ⟨_, rfl⟩
  have M4 := Lib.hid hm4
  clear hm4
  obtain ⟨m5, hm5⟩ : ∃ r, (x.v * y.u) % pF = r := ⟨_, rfl⟩
  have M5 := Lib.hid hm5
  clear hm5
  have HR := Lib.hid hr
  have HS := Lib.hid hs
  have h7 : (7 : Int) % pF = 7 := rfl
  have H7 := Lib.hid h7
  clear h7
  show Calls _ _ _ _ fun e w' => e = .returned (.agg #[.int .u64 ((x.u * y.u + 7 * (x.v * y.v)) % pF), .int .u64 ((x.u * y.v + x.v * y.u) % pF)]) ∧ Below w.heap.size w w'
  rw [hr, hs]
  clear hr hs
  go_enter Try.func10, Try.ntmps10
  go_upto_region 1 with fail
  refine wp_world (F := fun wx => Hid (B3 w (.cells #[.int .u64 (x.u % pF), .int .u64 (x.v % pF)] 40 (0, 0)) (.cells #[.int .u64 (y.u % pF), .int .u64 (y.v % pF)] 40 (0, 0)) (.cells #[.int .u64 0, .int .u64 0] 40 (0, 0)) wx)) (Lib.hid (B3.start w _ _ _)) ?_
  intro w1 HB
  have bel := HB.out.bel
  have R1 := Lib.hid HB.out.r1
  have R2 := Lib.hid HB.out.r2
  have R3 := Lib.hid HB.out.r3
  have z1 : ∀ W, Gk (w.heap.size + 1 + 1) w1 W → _ ∧ _ ∧ _ := fun W hW => pair2 (Lib.hid (hW.row R1.out (by omega)))
  have z2 : ∀ W, Gk (w.heap.size + 1 + 1) w1 W → _ ∧ _ ∧ _ := fun W hW => pair2 (Lib.hid (hW.row R2.out (by omega)))
  obtain ⟨c0, c1, lr⟩ := pair2 R3
  have fr := frzX R3
  refine wp_region_noPanic ?_
  refine wp_region_held_drew (S := fun X => Gk (w.heap.size + 1 + 1) w1 X) (by kernel_rfl) ?_ (fun hHeld => ?_)
  · (first | (repeat' (first | with_reducible assumption | with_reducible exact Gk.refl _ _ | with_reducible refine Gk.drew ?_ | with_reducible refine Gk.set ?_ _ _ | with_reducible refine Gk.alloc ?_ _ | with_reducible refine Gk.call ?_ (by assumption))) | (first | with_reducible assumption | (with_reducible refine Below.drew ?_; with_reducible assumption) | (with_reducible refine ba _ _ ?_; with_reducible assumption) | (with_reducible refine Below.drew ?_; with_reducible refine ba _ _ ?_; with_reducible assumption) | exact Below.refl _ _ | exact (Below.refl _ _).drew | exact (Below.refl _ _).alloc (Nat.le_refl _) _ | (refine bc _ _ (by assumption) (by assumption))))
  refine RegOk.begin_ (n := 25) (T := exMul) ⟨by kernel_rfl, by kernel_rfl, by kernel_rfl, by kernel_rfl⟩ fun hR => ?_
  refine hR.take (i := 0) (oi := ?ow13_0) (v := ?vw13_0) (m' := 1) ?hw13_0 (by kernel_rfl) (by kernel_rfl) (fun _ _ _ h => h) (Or.inl ⟨?sw13_0, ?yw13_0⟩) (by assumption) ?nw13_0
  case hw13_0 => simp only [List.getElem?_toArray, List.getElem?_cons_succ, List.getElem?_cons_zero]; rfl
  case sw13_0 => rfl
  case yw13_0 => (intro w hSw; (try dsimp only at hSw); go_simp <;> with_reducible rfl)
  try simp only [Act.put, List.setIfInBounds_toArray, List.set_cons_zero, List.set_cons_succ]
  refine hR.take (i := 1) (oi := ?ow14_1) (v := ?vw14_1) (m' := 3) ?hw14_1 (by kernel_rfl) (by kernel_rfl) (fun _ _ _ h => h) (Or.inl ⟨?sw14_1, ?yw14_1⟩) (by assumption) ?nw14_1
  case hw14_1 => simp only [List.getElem?_toArray, List.getElem?_cons_succ, List.getElem?_cons_zero]; rfl
  case sw14_1 => rfl
  case yw14_1 => (intro w hSw; (try dsimp only at hSw); go_simp <;> with_reducible rfl)
  try simp only [Act.put, List.setIfInBounds_toArray, List.set_cons_zero, List.set_cons_succ]
  refine hR.take (i := 2) (oi := ?ow15_2) (v := ?vw15_2) (m' := 7) ?hw15_2 (by kernel_rfl) (by kernel_rfl) (fun _ _ _ h => h) (Or.inl ⟨?sw15_2, ?yw15_2⟩) (by assumption) ?nw15_2
  case hw15_2 => simp only [List.getElem?_toArray, List.getElem?_cons_succ, List.getElem?_cons_zero]; rfl
  case sw15_2 => rfl
  case yw15_2 => (intro w hSw; (try dsimp only at hSw); go_simp <;> with_reducible rfl)
  try simp only [Act.put, List.setIfInBounds_toArray, List.set_cons_zero, List.set_cons_succ]
  refine hR.take (i := 3) (oi := ?ow16_3) (v := ?vw16_3) (m' := 15) ?hw16_3 (by kernel_rfl) (by kernel_rfl) (fun _ _ _ h => h) (Or.inl ⟨?sw16_3, ?yw16_3⟩) (by assumption) ?nw16_3
  case hw16_3 => simp only [List.getElem?_toArray, List.getElem?_cons_succ, List.getElem?_cons_zero]; rfl
  case sw16_3 => rfl
  case yw16_3 => (intro w hSw; (try dsimp only at hSw); go_simp <;> with_reducible rfl)
  try simp only [Act.put, List.setIfInBounds_toArray, List.set_cons_zero, List.set_cons_succ]
  refine hR.take (i := 5) (oi := ?ow17_5) (v := ?vw17_5) (m' := 47) ?hw17_5 (by kernel_rfl) (by kernel_rfl) (fun _ _ _ h => h) (Or.inl ⟨?sw17_5, ?yw17_5⟩) (by assumption) ?nw17_5
  case hw17_5 => simp only [List.getElem?_toArray, List.getElem?_cons_succ, List.getElem?_cons_zero]; rfl
  case sw17_5 => rfl
  case yw17_5 => (intro w hSw; (try dsimp only at hSw); go_simp <;> with_reducible rfl)
  try simp only [Act.put, List.setIfInBounds_toArray, List.set_cons_zero, List.set_cons_succ]
  refine hR.take (i := 6) (oi := ?ow18_6) (v := ?vw18_6) (m' := 111) ?hw18_6 (by kernel_rfl) (by kernel_rfl) (fun _ _ _ h => h) (Or.inl ⟨?sw18_6, ?yw18_6⟩) (by assumption) ?nw18_6
  case hw18_6 => simp only [List.getElem?_toArray, List.getElem?_cons_succ, List.getElem?_cons_zero]; rfl
  case sw18_6 => rfl
  case yw18_6 => (intro w hSw; (try dsimp only at hSw); go_simp <;> with_reducible rfl)
  try simp only [Act.put, List.setIfInBounds_toArray, List.set_cons_zero, List.set_cons_succ]
  refine hR.take (i := 7) (oi := ?ow19_7) (v := ?vw19_7) (m' := 239) ?hw19_7 (by kernel_rfl) (by kernel_rfl) (fun _ _ _ h => h) (Or.inl ⟨?sw19_7, ?yw19_7⟩) (by assumption) ?nw19_7
  case hw19_7 => simp only [List.getElem?_toArray, List.getElem?_cons_succ, List.getElem?_cons_zero]; rfl
  case sw19_7 => rfl
  case yw19_7 => (intro w hSw; (try dsimp only at hSw); go_simp <;> with_reducible rfl)
  try simp only [Act.put, List.setIfInBounds_toArray, List.set_cons_zero, List.set_cons_succ]
  refine hR.take (i := 8) (oi := ?ow20_8) (v := ?vw20_8) (m' := 495) ?hw20_8 (by kernel_rfl) (by kernel_rfl) (fun _ _ _ h => h) (Or.inl ⟨?sw20_8, ?yw20_8⟩) (by assumption) ?nw20_8
  case hw20_8 => simp only [List.getElem?_toArray, List.getElem?_cons_succ, List.getElem?_cons_zero]; rfl
  case sw20_8 => rfl
  case yw20_8 => (intro w hSw; (try dsimp only at hSw); go_simp <;> with_reducible rfl)
  try simp only [Act.put, List.setIfInBounds_toArray, List.set_cons_zero, List.set_cons_succ]
  refine hR.take (i := 12) (oi := ?ow21_12) (v := ?vw21_12) (m' := 4591) ?hw21_12 (by kernel_rfl) (by kernel_rfl) (fun _ _ _ h => h) (Or.inl ⟨?sw21_12, ?yw21_12⟩) (by assumption) ?nw21_12
  case hw21_12 => simp only [List.getElem?_toArray, List.getElem?_cons_succ, List.getElem?_cons_zero]; rfl
  case sw21_12 => rfl
  case yw21_12 => (intro w hSw; (try dsimp only at hSw); go_simp <;> with_reducible rfl)
  try simp only [Act.put, List.setIfInBounds_toArray, List.set_cons_zero, List.set_cons_succ]
  refine hR.take (i := 13) (oi := ?ow22_13) (v := ?vw22_13) (m' := 12783) ?hw22_13 (by kernel_rfl) (by kernel_rfl) (fun _ _ _ h => h) (Or.inl ⟨?sw22_13, ?yw22_13⟩) (by assumption) ?nw22_13
  case hw22_13 => simp only [List.getElem?_toArray, List.getElem?_cons_succ, List.getElem?_cons_zero]; rfl
  case sw22_13 => rfl
  case yw22_13 => (intro w hSw; (try dsimp only at hSw); go_simp <;> with_reducible rfl)
  try simp only [Act.put, List.setIfInBounds_toArray, List.set_cons_zero, List.set_cons_succ]
  refine hR.take (i := 14) (oi := ?ow23_14) (v := ?vw23_14) (m' := 29167) ?hw23_14 (by kernel_rfl) (by kernel_rfl) (fun _ _ _ h => h) (Or.inl ⟨?sw23_14, ?yw23_14⟩) (by assumption) ?nw23_14
  case hw23_14 => simp only [List.getElem?_toArray, List.getElem?_cons_succ, List.getElem?_cons_zero]; rfl
  case sw23_14 => rfl
  case yw23_14 => (intro w hSw; (try dsimp only at hSw); go_simp <;> with_reducible rfl)
  try simp only [Act.put, List.setIfInBounds_toArray, List.set_cons_zero, List.set_cons_succ]
  refine hR.take (i := 15) (oi := ?ow24_15) (v := ?vw24_15) (m' := 61935) ?hw24_15 (by kernel_rfl) (by kernel_rfl) (fun _ _ _ h => h) (Or.inl ⟨?sw24_15, ?yw24_15⟩) (by assumption) ?nw24_15
  case hw24_15 => simp only [List.getElem?_toArray, List.getElem?_cons_succ, List.getElem?_cons_zero]; rfl
  case sw24_15 => rfl
  case yw24_15 => (intro w hSw; (try dsimp only at hSw); go_simp <;> with_reducible rfl)
  try simp only [Act.put, List.setIfInBounds_toArray, List.set_cons_zero, List.set_cons_succ]
  refine hR.take (i := 17) (oi := ?ow25_17) (v := ?vw25_17) (m' := 193007) ?hw25_17 (by kernel_rfl) (by kernel_rfl) (fun _ _ _ h => h) (Or.inl ⟨?sw25_17, ?yw25_17⟩) (by assumption) ?nw25_17
  case hw25_17 => simp only [List.getElem?_toArray, List.getElem?_cons_succ, List.getElem?_cons_zero]; rfl
  case sw25_17 => rfl
  case yw25_17 => (intro w hSw; (try dsimp only at hSw); go_simp <;> with_reducible rfl)
  try simp only [Act.put, List.setIfInBounds_toArray, List.set_cons_zero, List.set_cons_succ]
  refine hR.take (i := 18) (oi := ?ow26_18) (v := ?vw26_18) (m' := 455151) ?hw26_18 (by kernel_rfl) (by kernel_rfl) (fun _ _ _ h => h) (Or.inl ⟨?sw26_18, ?yw26_18⟩) (by assumption) ?nw26_18
  case hw26_18 => simp only [List.getElem?_toArray, List.getElem?_cons_succ, List.getElem?_cons_zero]; rfl
  case sw26_18 => rfl
  case yw26_18 => (intro w hSw; (try dsimp only at hSw); go_simp <;> with_reducible rfl)
  try simp only [Act.put, List.setIfInBounds_toArray, List.set_cons_zero, List.set_cons_succ]
  refine hR.take (i := 19) (oi := ?ow27_19) (v := ?vw27_19) (m' := 979439) ?hw27_19 (by kernel_rfl) (by kernel_rfl) (fun _ _ _ h => h) (Or.inl ⟨?sw27_19, ?yw27_19⟩) (by assumption) ?nw27_19
  case hw27_19 => simp only [List.getElem?_toArray, List.getElem?_cons_succ, List.getElem?_cons_zero]; rfl
  case sw27_19 => rfl
  case yw27_19 => (intro w hSw; (try dsimp only at hSw); go_simp <;> with_reducible rfl)
  try simp only [Act.put, List.setIfInBounds_toArray, List.set_cons_zero, List.set_cons_succ]
  refine hR.take (i := 20) (oi := ?ow28_20) (v := ?vw28_20) (m' := 2028015) ?hw28_20 (by kernel_rfl) (by kernel_rfl) (fun _ _ _ h => h) (Or.inl ⟨?sw28_20, ?yw28_20⟩) (by assumption) ?nw28_20
  case hw28_20 => simp only [List.getElem?_toArray, List.getElem?_cons_succ, List.getElem?_cons_zero]; rfl
  case sw28_20 => rfl
  case yw28_20 => (intro w hSw; (try dsimp only at hSw); go_simp <;> with_reducible rfl)
  try simp only [Act.put, List.setIfInBounds_toArray, List.set_cons_zero, List.set_cons_succ]
  refine hR.come (rs := [4]) (by kernel_rfl) (by simp) ?_
  refine AllReadyH.cons (o := ?o29_4) ?h29_4 (fun K hK => ?kw29_4) AllReadyH.nil
  case h29_4 => simp only [List.getElem?_toArray, List.getElem?_cons_succ, List.getElem?_cons_zero]; rfl
  go_simp
  go_at_call 37; (with_reducible refine (mulP (x := x.u) (y := y.u) rfl rfl M1.out _).mono ?_); rintro e wA ⟨rfl, rfl⟩
  refine hK.out _ _ ?_ (fun hHeld => ?_)
  · (first | (repeat' (first | with_reducible assumption | with_reducible exact Gk.refl _ _ | with_reducible refine Gk.drew ?_ | with_reducible refine Gk.set ?_ _ _ | with_reducible refine Gk.alloc ?_ _ | with_reducible refine Gk.call ?_ (by assumption))) | (first | with_reducible assumption | (with_reducible refine Below.drew ?_; with_reducible assumption) | (with_reducible refine ba _ _ ?_; with_reducible assumption) | (with_reducible refine Below.drew ?_; with_reducible refine ba _ _ ?_; with_reducible assumption) | exact Below.refl _ _ | exact (Below.refl _ _).drew | exact (Below.refl _ _).alloc (Nat.le_refl _) _ | (refine bc _ _ (by assumption) (by assumption))))
  clear hK K
  refine RegOk.put_ (m' := 2028031) (by kernel_rfl) ?_
  try simp only [Act.put, List.setIfInBounds_toArray, List.set_cons_zero, List.set_cons_succ]
  refine hR.come (rs := [9]) (by kernel_rfl) (by simp) ?_
  refine AllReadyH.cons (o := ?o30_9) ?h30_9 (fun K hK => ?kw30_9) AllReadyH.nil
  case h30_9 => simp only [List.getElem?_toArray, List.getElem?_cons_succ, List.getElem?_cons_zero]; rfl
  go_simp
  go_at_call 37; (with_reducible refine (mulP (x := x.v) (y := y.v) rfl rfl M2.out _).mono ?_); rintro e wB ⟨rfl, rfl⟩
  refine hK.out _ _ ?_ (fun hHeld => ?_)
  · (first | (repeat' (first | with_reducible assumption | with_reducible exact Gk.refl _ _ | with_reducible refine Gk.drew ?_ | with_reducible refine Gk.set ?_ _ _ | with_reducible refine Gk.alloc ?_ _ | with_reducible refine Gk.call ?_ (by assumption))) | (first | with_reducible assumption | (with_reducible refine Below.drew ?_; with_reducible assumption) | (with_reducible refine ba _ _ ?_; with_reducible assumption) | (with_reducible refine Below.drew ?_; with_reducible refine ba _ _ ?_; with_reducible assumption) | exact Below.refl _ _ | exact (Below.refl _ _).drew | exact (Below.refl _ _).alloc (Nat.le_refl _) _ | (refine bc _ _ (by assumption) (by assumption))))
  clear hK K
  refine RegOk.put_ (m' := 2028543) (by kernel_rfl) ?_
  try simp only [Act.put, List.setIfInBounds_toArray, List.set_cons_zero, List.set_cons_succ]
  refine hR.come (rs := [10]) (by kernel_rfl) (by simp) ?_
  refine AllReadyH.cons (o := ?o31_10) ?h31_10 (fun K hK => ?kw31_10) AllReadyH.nil
  case h31_10 => simp only [List.getElem?_toArray, List.getElem?_cons_succ, List.getElem?_cons_zero]; rfl
  go_simp
  go_at_call 37; (with_reducible refine (mulP (x := 7) (y := x.v * y.v) H7.out M2.out M3.out _).mono ?_); rintro e wB ⟨rfl, rfl⟩
  refine hK.out _ _ ?_ (fun hHeld => ?_)
  · (first | (repeat' (first | with_reducible assumption | with_reducible exact Gk.refl _ _ | with_reducible refine Gk.drew ?_ | with_reducible refine Gk.set ?_ _ _ | with_reducible refine Gk.alloc ?_ _ | with_reducible refine Gk.call ?_ (by assumption))) | (first | with_reducible assumption | (with_reducible refine Below.drew ?_; with_reducible assumption) | (with_reducible refine ba _ _ ?_; with_reducible assumption) | (with_reducible refine Below.drew ?_; with_reducible refine ba _ _ ?_; with_reducible assumption) | exact Below.refl _ _ | exact (Below.refl _ _).drew | exact (Below.refl _ _).alloc (Nat.le_refl _) _ | (refine bc _ _ (by assumption) (by assumption))))
  clear hK K
  refine RegOk.put_ (m' := 2029567) (by kernel_rfl) ?_
  try simp only [Act.put, List.setIfInBounds_toArray, List.set_cons_zero, List.set_cons_succ]
  refine hR.come (rs := [11]) (by kernel_rfl) (by simp) ?_
  refine AllReadyH.cons (o := ?o32_11) ?h32_11 (fun K hK => ?kw32_11) AllReadyH.nil
  case h32_11 => simp only [List.getElem?_toArray, List.getElem?_cons_succ, List.getElem?_cons_zero]; rfl
  go_simp
  go_at_call 36; (with_reducible refine (addP (x := x.u * y.u) (y := 7 * (x.v * y.v)) M1.out M3.out HR.out _).mono ?_); rintro e wA ⟨rfl, rfl⟩
  refine hK.out _ _ ?_ (fun hHeld => ?_)
  · (first | (repeat' (first | with_reducible assumption | with_reducible exact Gk.refl _ _ | with_reducible refine Gk.drew ?_ | with_reducible refine Gk.set ?_ _ _ | with_reducible refine Gk.alloc ?_ _ | with_reducible refine Gk.call ?_ (by assumption))) | (first | with_reducible assumption | (with_reducible refine Below.drew ?_; with_reducible assumption) | (with_reducible refine ba _ _ ?_; with_reducible assumption) | (with_reducible refine Below.drew ?_; with_reducible refine ba _ _ ?_; with_reducible assumption) | exact Below.refl _ _ | exact (Below.refl _ _).drew | exact (Below.refl _ _).alloc (Nat.le_refl _) _ | (refine bc _ _ (by assumption) (by assumption))))
  clear hK K
  refine RegOk.put_ (m' := 2031615) (by kernel_rfl) ?_
  try simp only [Act.put, List.setIfInBounds_toArray, List.set_cons_zero, List.set_cons_succ]
  refine hR.come (rs := [16]) (by kernel_rfl) (by simp) ?_
  refine AllReadyH.cons (o := ?o33_16) ?h33_16 (fun K hK => ?kw33_16) AllReadyH.nil
  case h33_16 => simp only [List.getElem?_toArray, List.getElem?_cons_succ, List.getElem?_cons_zero]; rfl
  go_simp
  go_at_call 37; (with_reducible refine (mulP (x := x.u) (y := y.v) rfl rfl M4.out _).mono ?_); rintro e wA ⟨rfl, rfl⟩
  refine hK.out _ _ ?_ (fun hHeld => ?_)
  · (first | (repeat' (first | with_reducible assumption | with_reducible exact Gk.refl _ _ | with_reducible refine Gk.drew ?_ | with_reducible refine Gk.set ?_ _ _ | with_reducible refine Gk.alloc ?_ _ | with_reducible refine Gk.call ?_ (by assumption))) | (first | with_reducible assumption | (with_reducible refine Below.drew ?_; with_reducible assumption) | (with_reducible refine ba _ _ ?_; with_reducible assumption) | (with_reducible refine Below.drew ?_; with_reducible refine ba _ _ ?_; with_reducible assumption) | exact Below.refl _ _ | exact (Below.refl _ _).drew | exact (Below.refl _ _).alloc (Nat.le_refl _) _ | (refine bc _ _ (by assumption) (by assumption))))
  clear hK K
  refine RegOk.put_ (m' := 2097151) (by kernel_rfl) ?_
  try simp only [Act.put, List.setIfInBounds_toArray, List.set_cons_zero, List.set_cons_succ]
  refine hR.come (rs := [21]) (by kernel_rfl) (by simp) ?_
  refine AllReadyH.cons (o := ?o34_21) ?h34_21 (fun K hK => ?kw34_21) AllReadyH.nil
  case h34_21 => simp only [List.getElem?_toArray, List.getElem?_cons_succ, List.getElem?_cons_zero]; rfl
  go_simp
  go_at_call 37; (with_reducible refine (mulP (x := x.v) (y := y.u) rfl rfl M5.out _).mono ?_); rintro e wA ⟨rfl, rfl⟩
  refine hK.out _ _ ?_ (fun hHeld => ?_)
  · (first | (repeat' (first | with_reducible assumption | with_reducible exact Gk.refl _ _ | with_reducible refine Gk.drew ?_ | with_reducible refine Gk.set ?_ _ _ | with_reducible refine Gk.alloc ?_ _ | with_reducible refine Gk.call ?_ (by assumption))) | (first | with_reducible assumption | (with_reducible refine Below.drew ?_; with_reducible assumption) | (with_reducible refine ba _ _ ?_; with_reducible assumption) | (with_reducible refine Below.drew ?_; with_reducible refine ba _ _ ?_; with_reducible assumption) | exact Below.refl _ _ | exact (Below.refl _ _).drew | exact (Below.refl _ _).alloc (Nat.le_refl _) _ | (refine bc _ _ (by assumption) (by assumption))))
  clear hK K
  refine RegOk.put_ (m' := 4194303) (by kernel_rfl) ?_
  try simp only [Act.put, List.setIfInBounds_toArray, List.set_cons_zero, List.set_cons_succ]
  refine hR.come (rs := [22]) (by kernel_rfl) (by simp) ?_
  refine AllReadyH.cons (o := ?o35_22) ?h35_22 (fun K hK => ?kw35_22) AllReadyH.nil
  case h35_22 => simp only [List.getElem?_toArray, List.getElem?_cons_succ, List.getElem?_cons_zero]; rfl
  go_simp
  go_at_call 36; (with_reducible refine (addP (x := x.u * y.v) (y := x.v * y.u) M4.out M5.out HS.out _).mono ?_); rintro e wA ⟨rfl, rfl⟩
  refine hK.out _ _ ?_ (fun hHeld => ?_)
  · (first | (repeat' (first | with_reducible assumption | with_reducible exact Gk.refl _ _ | with_reducible refine Gk.drew ?_ | with_reducible refine Gk.set ?_ _ _ | with_reducible refine Gk.alloc ?_ _ | with_reducible refine Gk.call ?_ (by assumption))) | (first | with_reducible assumption | (with_reducible refine Below.drew ?_; with_reducible assumption) | (with_reducible refine ba _ _ ?_; with_reducible assumption) | (with_reducible refine Below.drew ?_; with_reducible refine ba _ _ ?_; with_reducible assumption) | exact Below.refl _ _ | exact (Below.refl _ _).drew | exact (Below.refl _ _).alloc (Nat.le_refl _) _ | (refine bc _ _ (by assumption) (by assumption))))
  clear hK K
  refine RegOk.put_ (m' := 8388607) (by kernel_rfl) ?_
  try simp only [Act.put, List.setIfInBounds_toArray, List.set_cons_zero, List.set_cons_succ]
  refine hR.take (i := 23) (oi := ?ow36_23) (v := ?vw36_23) (m' := 16777215) ?hw36_23 (by kernel_rfl) (by kernel_rfl) (fun _ _ _ h => h) (Or.inl ⟨?sw36_23, ?yw36_23⟩) (by assumption) ?nw36_23
  case hw36_23 => simp only [List.getElem?_toArray, List.getElem?_cons_succ, List.getElem?_cons_zero]; rfl
  case sw36_23 => rfl
  case yw36_23 => (intro w hSw; (try dsimp only at hSw); go_simp <;> with_reducible rfl)
  try simp only [Act.put, List.setIfInBounds_toArray, List.set_cons_zero, List.set_cons_succ]
  refine hR.come (rs := [24]) (by kernel_rfl) (by simp) ?_
  refine AllReadyH.cons (o := ?o37_24) ?h37_24 (fun K hK => ?kw37_24) AllReadyH.nil
  case h37_24 => simp only [List.getElem?_toArray, List.getElem?_cons_succ, List.getElem?_cons_zero]; rfl
  go_simp <;> (try go_wp2_with fail)
  refine hK.out _ _ ?_ (fun hHeld => ?_)
  · (first | (repeat' (first | with_reducible assumption | with_reducible exact Gk.refl _ _ | with_reducible refine Gk.drew ?_ | with_reducible refine Gk.set ?_ _ _ | with_reducible refine Gk.alloc ?_ _ | with_reducible refine Gk.call ?_ (by assumption))) | (first | with_reducible assumption | (with_reducible refine Below.drew ?_; with_reducible assumption) | (with_reducible refine ba _ _ ?_; with_reducible assumption) | (with_reducible refine Below.drew ?_; with_reducible refine ba _ _ ?_; with_reducible assumption) | exact Below.refl _ _ | exact (Below.refl _ _).drew | exact (Below.refl _ _).alloc (Nat.le_refl _) _ | (refine bc _ _ (by assumption) (by assumption))))
  clear hK K
  refine RegOk.put_ (m' := 33554431) (by kernel_rfl) ?_
  try simp only [Act.put, List.setIfInBounds_toArray, List.set_cons_zero, List.set_cons_succ]
  refine hR.all (by kernel_rfl) ?_ _
  refine NoPanic.normal ?_
  go_wp2_with fail
  obtain ⟨t0, t1, -⟩ := pair2 (Lib.hid (setpair (u := .int .u64 r) (v := .int .u64 s) R3.out))
  refine bodyPost_ret (v := .agg #[.int .u64 r, .int .u64 s]) (by simp [results, Try.results10, go_sem, *]) rfl ⟨rfl, Gk.below (w := w1) (k := w.heap.size + 1 + 1) ?_ bel (by omega) bel.size⟩
  (repeat' (first | with_reducible assumption | with_reducible exact Gk.refl _ _ | with_reducible refine Gk.drew ?_ | with_reducible refine Gk.set ?_ _ _ | with_reducible refine Gk.alloc ?_ _ | with_reducible refine Gk.call ?_ (by assumption)))
theorem mulN {x y : ZQ} {a b c d r s : Int} (ha : x.u % pF = a) (hb : x.v % pF = b) (hc : y.u % pF = c) (hd : y.v % pF = d) (hr : (x.mul y).u % pF = r) (hs : (x.mul y).v % pF = s) (w : World) : Calls Try.prog 10 #[.agg #[.int .u64 a, .int .u64 b], .agg #[.int .u64 c, .int .u64 d]] w fun e w' => e = .returned (.agg #[.int .u64 r, .int .u64 s]) ∧ Below w.heap.size w w' := by
  subst ha; subst hb; subst hc; subst hd; subst hr; subst hs; exact mulX x y w
set_option maxRecDepth 100000 in
set_option maxHeartbeats 8000000 in
theorem negX (x : ZQ) (w : World) : Calls Try.prog 64 #[(.agg #[.int .u64 (x.u % pF), .int .u64 (x.v % pF)])] w fun e w' => e = .returned (.agg #[.int .u64 (x.neg.u % pF), .int .u64 (x.neg.v % pF)]) ∧ Below w.heap.size w w' := by
  obtain ⟨r, hr⟩ : ∃ r, (-x.u) % pF = r := ⟨_, rfl⟩
  obtain ⟨s, hs⟩ : ∃ s, (-x.v) % pF = s := ⟨_, rfl⟩
  have HR := Lib.hid hr
  have HS := Lib.hid hs
  show Calls _ _ _ _ fun e w' => e = .returned (.agg #[.int .u64 ((-x.u) % pF), .int .u64 ((-x.v) % pF)]) ∧ Below w.heap.size w w'
  rw [hr, hs]
  clear hr hs
  go_enter Try.func64, Try.ntmps64
  go_upto_region 1 with fail
  refine wp_world (F := fun wx => Hid (B2 w (.cells #[.int .u64 (x.u % pF), .int .u64 (x.v % pF)] 40 (0, 0)) (.cells #[.int .u64 0, .int .u64 0] 40 (0, 0)) wx)) (Lib.hid (B2.start w _ _)) ?_
  intro w1 HB
  have bel := HB.out.bel
  have R1 := Lib.hid HB.out.r1
  have R3 := Lib.hid HB.out.r2
  have z1 : ∀ W, Gk (w.heap.size + 1) w1 W → _ ∧ _ ∧ _ := fun W hW => pair2 (Lib.hid (hW.row R1.out (by omega)))
  obtain ⟨c0, c1, lr⟩ := pair2 R3
  have fr := frzX R3
  refine wp_region_noPanic ?_
  refine wp_region_held_drew (S := fun X => Gk (w.heap.size + 1) w1 X) (by kernel_rfl) ?_ (fun hHeld => ?_)
  · (first | (repeat' (first | with_reducible assumption | with_reducible exact Gk.refl _ _ | with_reducible refine Gk.drew ?_ | with_reducible refine Gk.set ?_ _ _ | with_reducible refine Gk.alloc ?_ _ | with_reducible refine Gk.call ?_ (by assumption))) | (first | with_reducible assumption | (with_reducible refine Below.drew ?_; with_reducible assumption) | (with_reducible refine ba _ _ ?_; with_reducible assumption) | (with_reducible refine Below.drew ?_; with_reducible refine ba _ _ ?_; with_reducible assumption) | exact Below.refl _ _ | exact (Below.refl _ _).drew | exact (Below.refl _ _).alloc (Nat.le_refl _) _ | (refine bc _ _ (by assumption) (by assumption))))
  refine RegOk.begin_ (n := 8) (T := exNeg) ⟨by kernel_rfl, by kernel_rfl, by kernel_rfl, by kernel_rfl⟩ fun hR => ?_
  refine hR.take (i := 0) (oi := ?ow38_0) (v := ?vw38_0) (m' := 1) ?hw38_0 (by kernel_rfl) (by kernel_rfl) (fun _ _ _ h => h) (Or.inl ⟨?sw38_0, ?yw38_0⟩) (by assumption) ?nw38_0
  case hw38_0 => simp only [List.getElem?_toArray, List.getElem?_cons_succ, List.getElem?_cons_zero]; rfl
  case sw38_0 => rfl
  case yw38_0 => (intro w hSw; (try dsimp only at hSw); go_simp <;> with_reducible rfl)
  try simp only [Act.put, List.setIfInBounds_toArray, List.set_cons_zero, List.set_cons_succ]
  refine hR.take (i := 1) (oi := ?ow39_1) (v := ?vw39_1) (m' := 3) ?hw39_1 (by kernel_rfl) (by kernel_rfl) (fun _ _ _ h => h) (Or.inl ⟨?sw39_1, ?yw39_1⟩) (by assumption) ?nw39_1
  case hw39_1 => simp only [List.getElem?_toArray, List.getElem?_cons_succ, List.getElem?_cons_zero]; rfl
  case sw39_1 => rfl
  case yw39_1 => (intro w hSw; (try dsimp only at hSw); go_simp <;> with_reducible rfl)
  try simp only [Act.put, List.setIfInBounds_toArray, List.set_cons_zero, List.set_cons_succ]
  refine hR.take (i := 3) (oi := ?ow40_3) (v := ?vw40_3) (m' := 11) ?hw40_3 (by kernel_rfl) (by kernel_rfl) (fun _ _ _ h => h) (Or.inl ⟨?sw40_3, ?yw40_3⟩) (by assumption) ?nw40_3
  case hw40_3 => simp only [List.getElem?_toArray, List.getElem?_cons_succ, List.getElem?_cons_zero]; rfl
  case sw40_3 => rfl
  case yw40_3 => (intro w hSw; (try dsimp only at hSw); go_simp <;> with_reducible rfl)
  try simp only [Act.put, List.setIfInBounds_toArray, List.set_cons_zero, List.set_cons_succ]
  refine hR.take (i := 4) (oi := ?ow41_4) (v := ?vw41_4) (m' := 27) ?hw41_4 (by kernel_rfl) (by kernel_rfl) (fun _ _ _ h => h) (Or.inl ⟨?sw41_4, ?yw41_4⟩) (by assumption) ?nw41_4
  case hw41_4 => simp only [List.getElem?_toArray, List.getElem?_cons_succ, List.getElem?_cons_zero]; rfl
  case sw41_4 => rfl
  case yw41_4 => (intro w hSw; (try dsimp only at hSw); go_simp <;> with_reducible rfl)
  try simp only [Act.put, List.setIfInBounds_toArray, List.set_cons_zero, List.set_cons_succ]
  refine hR.come (rs := [2]) (by kernel_rfl) (by simp) ?_
  refine AllReadyH.cons (o := ?o42_2) ?h42_2 (fun K hK => ?kw42_2) AllReadyH.nil
  case h42_2 => simp only [List.getElem?_toArray, List.getElem?_cons_succ, List.getElem?_cons_zero]; rfl
  go_simp
  go_at_call 65; (with_reducible refine (negP (x := x.u) rfl HR.out _).mono ?_); rintro e wA ⟨rfl, rfl⟩
  refine hK.out _ _ ?_ (fun hHeld => ?_)
  · (first | (repeat' (first | with_reducible assumption | with_reducible exact Gk.refl _ _ | with_reducible refine Gk.drew ?_ | with_reducible refine Gk.set ?_ _ _ | with_reducible refine Gk.alloc ?_ _ | with_reducible refine Gk.call ?_ (by assumption))) | (first | with_reducible assumption | (with_reducible refine Below.drew ?_; with_reducible assumption) | (with_reducible refine ba _ _ ?_; with_reducible assumption) | (with_reducible refine Below.drew ?_; with_reducible refine ba _ _ ?_; with_reducible assumption) | exact Below.refl _ _ | exact (Below.refl _ _).drew | exact (Below.refl _ _).alloc (Nat.le_refl _) _ | (refine bc _ _ (by assumption) (by assumption))))
  clear hK K
  refine RegOk.put_ (m' := 31) (by kernel_rfl) ?_
  try simp only [Act.put, List.setIfInBounds_toArray, List.set_cons_zero, List.set_cons_succ]
  refine hR.come (rs := [5]) (by kernel_rfl) (by simp) ?_
  refine AllReadyH.cons (o := ?o43_5) ?h43_5 (fun K hK => ?kw43_5) AllReadyH.nil
  case h43_5 => simp only [List.getElem?_toArray, List.getElem?_cons_succ, List.getElem?_cons_zero]; rfl
  go_simp
  go_at_call 65; (with_reducible refine (negP (x := x.v) rfl HS.out _).mono ?_); rintro e wA ⟨rfl, rfl⟩
  refine hK.out _ _ ?_ (fun hHeld => ?_)
  · (first | (repeat' (first | with_reducible assumption | with_reducible exact Gk.refl _ _ | with_reducible refine Gk.drew ?_ | with_reducible refine Gk.set ?_ _ _ | with_reducible refine Gk.alloc ?_ _ | with_reducible refine Gk.call ?_ (by assumption))) | (first | with_reducible assumption | (with_reducible refine Below.drew ?_; with_reducible assumption) | (with_reducible refine ba _ _ ?_; with_reducible assumption) | (with_reducible refine Below.drew ?_; with_reducible refine ba _ _ ?_; with_reducible assumption) | exact Below.refl _ _ | exact (Below.refl _ _).drew | exact (Below.refl _ _).alloc (Nat.le_refl _) _ | (refine bc _ _ (by assumption) (by assumption))))
  clear hK K
  refine RegOk.put_ (m' := 63) (by kernel_rfl) ?_
  try simp only [Act.put, List.setIfInBounds_toArray, List.set_cons_zero, List.set_cons_succ]
  refine hR.take (i := 6) (oi := ?ow44_6) (v := ?vw44_6) (m' := 127) ?hw44_6 (by kernel_rfl) (by kernel_rfl) (fun _ _ _ h => h) (Or.inl ⟨?sw44_6, ?yw44_6⟩) (by assumption) ?nw44_6
  case hw44_6 => simp only [List.getElem?_toArray, List.getElem?_cons_succ, List.getElem?_cons_zero]; rfl
  case sw44_6 => rfl
  case yw44_6 => (intro w hSw; (try dsimp only at hSw); go_simp <;> with_reducible rfl)
  try simp only [Act.put, List.setIfInBounds_toArray, List.set_cons_zero, List.set_cons_succ]
  refine hR.come (rs := [7]) (by kernel_rfl) (by simp) ?_
  refine AllReadyH.cons (o := ?o45_7) ?h45_7 (fun K hK => ?kw45_7) AllReadyH.nil
  case h45_7 => simp only [List.getElem?_toArray, List.getElem?_cons_succ, List.getElem?_cons_zero]; rfl
  go_simp <;> (try go_wp2_with fail)
  refine hK.out _ _ ?_ (fun hHeld => ?_)
  · (first | (repeat' (first | with_reducible assumption | with_reducible exact Gk.refl _ _ | with_reducible refine Gk.drew ?_ | with_reducible refine Gk.set ?_ _ _ | with_reducible refine Gk.alloc ?_ _ | with_reducible refine Gk.call ?_ (by assumption))) | (first | with_reducible assumption | (with_reducible refine Below.drew ?_; with_reducible assumption) | (with_reducible refine ba _ _ ?_; with_reducible assumption) | (with_reducible refine Below.drew ?_; with_reducible refine ba _ _ ?_; with_reducible assumption) | exact Below.refl _ _ | exact (Below.refl _ _).drew | exact (Below.refl _ _).alloc (Nat.le_refl _) _ | (refine bc _ _ (by assumption) (by assumption))))
  clear hK K
  refine RegOk.put_ (m' := 255) (by kernel_rfl) ?_
  try simp only [Act.put, List.setIfInBounds_toArray, List.set_cons_zero, List.set_cons_succ]
  refine hR.all (by kernel_rfl) ?_ _
  refine NoPanic.normal ?_
  go_wp2_with fail
  obtain ⟨t0, t1, -⟩ := pair2 (Lib.hid (setpair (u := .int .u64 r) (v := .int .u64 s) R3.out))
  refine bodyPost_ret (v := .agg #[.int .u64 r, .int .u64 s]) (by simp [results, Try.results64, go_sem, *]) rfl ⟨rfl, Gk.below (w := w1) (k := w.heap.size + 1) ?_ bel (by omega) bel.size⟩
  (repeat' (first | with_reducible assumption | with_reducible exact Gk.refl _ _ | with_reducible refine Gk.drew ?_ | with_reducible refine Gk.set ?_ _ _ | with_reducible refine Gk.alloc ?_ _ | with_reducible refine Gk.call ?_ (by assumption)))
theorem negN {x : ZQ} {a b r s : Int} (ha : x.u % pF = a) (hb : x.v % pF = b) (hr : (x.neg).u % pF = r) (hs : (x.neg).v % pF = s) (w : World) : Calls Try.prog 64 #[.agg #[.int .u64 a, .int .u64 b]] w fun e w' => e = .returned (.agg #[.int .u64 r, .int .u64 s]) ∧ Below w.heap.size w w' := by
  subst ha; subst hb; subst hr; subst hs; exact negX x w
set_option maxRecDepth 100000 in
set_option maxHeartbeats 8000000 in
theorem madeX (x : ZQ) (h0 : 0 ≤ x.u) (h1 : 0 ≤ x.v) (w : World) : Calls Try.prog 54 #[.agg #[.int .u64 x.u, .int .u64 x.v]] w fun e w' => e = .returned (.agg #[.int .u64 (x.u % pF), .int .u64 (x.v % pF)]) ∧ Below w.heap.size w w' := by
  obtain ⟨r, hr⟩ : ∃ r, x.u % pF = r := ⟨_, rfl⟩
  obtain ⟨s, hs⟩ : ∃ s, x.v % pF = s := ⟨_, rfl⟩
  have HR := Lib.hid hr
  have HS := Lib.hid hs
  rw [hr, hs]
  clear hr hs
  go_enter Try.func54, Try.ntmps54
  go_upto_region 1 with fail
  refine wp_world (F := fun wx => Hid (B2 w (.cells #[.int .u64 x.u, .int .u64 x.v] 40 (0, 0)) (.cells #[.int .u64 0, .int .u64 0] 40 (0, 0)) wx)) (Lib.hid (B2.start w _ _)) ?_
  intro w1 HB
  have bel := HB.out.bel
  have R1 := Lib.hid HB.out.r1
  have R3 := Lib.hid HB.out.r2
  have z1 : ∀ W, Gk (w.heap.size + 1) w1 W → _ ∧ _ ∧ _ := fun W hW => pair2 (Lib.hid (hW.row R1.out (by omega)))
  obtain ⟨c0, c1, lr⟩ := pair2 R3
  have fr := frzX R3
  refine wp_region_noPanic ?_
  refine wp_region_held_drew (S := fun X => Gk (w.heap.size + 1) w1 X) (by kernel_rfl) ?_ (fun hHeld => ?_)
  · (first | (repeat' (first | with_reducible assumption | with_reducible exact Gk.refl _ _ | with_reducible refine Gk.drew ?_ | with_reducible refine Gk.set ?_ _ _ | with_reducible refine Gk.alloc ?_ _ | with_reducible refine Gk.call ?_ (by assumption))) | (first | with_reducible assumption | (with_reducible refine Below.drew ?_; with_reducible assumption) | (with_reducible refine ba _ _ ?_; with_reducible assumption) | (with_reducible refine Below.drew ?_; with_reducible refine ba _ _ ?_; with_reducible assumption) | exact Below.refl _ _ | exact (Below.refl _ _).drew | exact (Below.refl _ _).alloc (Nat.le_refl _) _ | (refine bc _ _ (by assumption) (by assumption))))
  refine RegOk.begin_ (n := 8) (T := exMade) ⟨by kernel_rfl, by kernel_rfl, by kernel_rfl, by kernel_rfl⟩ fun hR => ?_
  refine hR.take (i := 0) (oi := ?ow46_0) (v := ?vw46_0) (m' := 1) ?hw46_0 (by kernel_rfl) (by kernel_rfl) (fun _ _ _ h => h) (Or.inl ⟨?sw46_0, ?yw46_0⟩) (by assumption) ?nw46_0
  case hw46_0 => simp only [List.getElem?_toArray, List.getElem?_cons_succ, List.getElem?_cons_zero]; rfl
  case sw46_0 => rfl
  case yw46_0 => (intro w hSw; (try dsimp only at hSw); go_simp <;> with_reducible rfl)
  try simp only [Act.put, List.setIfInBounds_toArray, List.set_cons_zero, List.set_cons_succ]
  refine hR.take (i := 1) (oi := ?ow47_1) (v := ?vw47_1) (m' := 3) ?hw47_1 (by kernel_rfl) (by kernel_rfl) (fun _ _ _ h => h) (Or.inl ⟨?sw47_1, ?yw47_1⟩) (by assumption) ?nw47_1
  case hw47_1 => simp only [List.getElem?_toArray, List.getElem?_cons_succ, List.getElem?_cons_zero]; rfl
  case sw47_1 => rfl
  case yw47_1 => (intro w hSw; (try dsimp only at hSw); go_simp <;> with_reducible rfl)
  try simp only [Act.put, List.setIfInBounds_toArray, List.set_cons_zero, List.set_cons_succ]
  refine hR.take (i := 3) (oi := ?ow48_3) (v := ?vw48_3) (m' := 11) ?hw48_3 (by kernel_rfl) (by kernel_rfl) (fun _ _ _ h => h) (Or.inl ⟨?sw48_3, ?yw48_3⟩) (by assumption) ?nw48_3
  case hw48_3 => simp only [List.getElem?_toArray, List.getElem?_cons_succ, List.getElem?_cons_zero]; rfl
  case sw48_3 => rfl
  case yw48_3 => (intro w hSw; (try dsimp only at hSw); go_simp <;> with_reducible rfl)
  try simp only [Act.put, List.setIfInBounds_toArray, List.set_cons_zero, List.set_cons_succ]
  refine hR.take (i := 4) (oi := ?ow49_4) (v := ?vw49_4) (m' := 27) ?hw49_4 (by kernel_rfl) (by kernel_rfl) (fun _ _ _ h => h) (Or.inl ⟨?sw49_4, ?yw49_4⟩) (by assumption) ?nw49_4
  case hw49_4 => simp only [List.getElem?_toArray, List.getElem?_cons_succ, List.getElem?_cons_zero]; rfl
  case sw49_4 => rfl
  case yw49_4 => (intro w hSw; (try dsimp only at hSw); go_simp <;> with_reducible rfl)
  try simp only [Act.put, List.setIfInBounds_toArray, List.set_cons_zero, List.set_cons_succ]
  refine hR.come (rs := [2]) (by kernel_rfl) (by simp) ?_
  refine AllReadyH.cons (o := ?o50_2) ?h50_2 (fun K hK => ?kw50_2) AllReadyH.nil
  case h50_2 => simp only [List.getElem?_toArray, List.getElem?_cons_succ, List.getElem?_cons_zero]; rfl
  go_simp
  go_at_call 61; (with_reducible refine (reduceP (x := x.u) h0 HR.out _).mono ?_); rintro e wA ⟨rfl, rfl⟩
  refine hK.out _ _ ?_ (fun hHeld => ?_)
  · (first | (repeat' (first | with_reducible assumption | with_reducible exact Gk.refl _ _ | with_reducible refine Gk.drew ?_ | with_reducible refine Gk.set ?_ _ _ | with_reducible refine Gk.alloc ?_ _ | with_reducible refine Gk.call ?_ (by assumption))) | (first | with_reducible assumption | (with_reducible refine Below.drew ?_; with_reducible assumption) | (with_reducible refine ba _ _ ?_; with_reducible assumption) | (with_reducible refine Below.drew ?_; with_reducible refine ba _ _ ?_; with_reducible assumption) | exact Below.refl _ _ | exact (Below.refl _ _).drew | exact (Below.refl _ _).alloc (Nat.le_refl _) _ | (refine bc _ _ (by assumption) (by assumption))))
  clear hK K
  refine RegOk.put_ (m' := 31) (by kernel_rfl) ?_
  try simp only [Act.put, List.setIfInBounds_toArray, List.set_cons_zero, List.set_cons_succ]
  refine hR.come (rs := [5]) (by kernel_rfl) (by simp) ?_
  refine AllReadyH.cons (o := ?o51_5) ?h51_5 (fun K hK => ?kw51_5) AllReadyH.nil
  case h51_5 => simp only [List.getElem?_toArray, List.getElem?_cons_succ, List.getElem?_cons_zero]; rfl
  go_simp
  go_at_call 61; (with_reducible refine (reduceP (x := x.v) h1 HS.out _).mono ?_); rintro e wA ⟨rfl, rfl⟩
  refine hK.out _ _ ?_ (fun hHeld => ?_)
  · (first | (repeat' (first | with_reducible assumption | with_reducible exact Gk.refl _ _ | with_reducible refine Gk.drew ?_ | with_reducible refine Gk.set ?_ _ _ | with_reducible refine Gk.alloc ?_ _ | with_reducible refine Gk.call ?_ (by assumption))) | (first | with_reducible assumption | (with_reducible refine Below.drew ?_; with_reducible assumption) | (with_reducible refine ba _ _ ?_; with_reducible assumption) | (with_reducible refine Below.drew ?_; with_reducible refine ba _ _ ?_; with_reducible assumption) | exact Below.refl _ _ | exact (Below.refl _ _).drew | exact (Below.refl _ _).alloc (Nat.le_refl _) _ | (refine bc _ _ (by assumption) (by assumption))))
  clear hK K
  refine RegOk.put_ (m' := 63) (by kernel_rfl) ?_
  try simp only [Act.put, List.setIfInBounds_toArray, List.set_cons_zero, List.set_cons_succ]
  refine hR.take (i := 6) (oi := ?ow52_6) (v := ?vw52_6) (m' := 127) ?hw52_6 (by kernel_rfl) (by kernel_rfl) (fun _ _ _ h => h) (Or.inl ⟨?sw52_6, ?yw52_6⟩) (by assumption) ?nw52_6
  case hw52_6 => simp only [List.getElem?_toArray, List.getElem?_cons_succ, List.getElem?_cons_zero]; rfl
  case sw52_6 => rfl
  case yw52_6 => (intro w hSw; (try dsimp only at hSw); go_simp <;> with_reducible rfl)
  try simp only [Act.put, List.setIfInBounds_toArray, List.set_cons_zero, List.set_cons_succ]
  refine hR.come (rs := [7]) (by kernel_rfl) (by simp) ?_
  refine AllReadyH.cons (o := ?o53_7) ?h53_7 (fun K hK => ?kw53_7) AllReadyH.nil
  case h53_7 => simp only [List.getElem?_toArray, List.getElem?_cons_succ, List.getElem?_cons_zero]; rfl
  go_simp <;> (try go_wp2_with fail)
  refine hK.out _ _ ?_ (fun hHeld => ?_)
  · (first | (repeat' (first | with_reducible assumption | with_reducible exact Gk.refl _ _ | with_reducible refine Gk.drew ?_ | with_reducible refine Gk.set ?_ _ _ | with_reducible refine Gk.alloc ?_ _ | with_reducible refine Gk.call ?_ (by assumption))) | (first | with_reducible assumption | (with_reducible refine Below.drew ?_; with_reducible assumption) | (with_reducible refine ba _ _ ?_; with_reducible assumption) | (with_reducible refine Below.drew ?_; with_reducible refine ba _ _ ?_; with_reducible assumption) | exact Below.refl _ _ | exact (Below.refl _ _).drew | exact (Below.refl _ _).alloc (Nat.le_refl _) _ | (refine bc _ _ (by assumption) (by assumption))))
  clear hK K
  refine RegOk.put_ (m' := 255) (by kernel_rfl) ?_
  try simp only [Act.put, List.setIfInBounds_toArray, List.set_cons_zero, List.set_cons_succ]
  refine hR.all (by kernel_rfl) ?_ _
  refine NoPanic.normal ?_
  go_wp2_with fail
  obtain ⟨t0, t1, -⟩ := pair2 (Lib.hid (setpair (u := .int .u64 r) (v := .int .u64 s) R3.out))
  refine bodyPost_ret (v := .agg #[.int .u64 r, .int .u64 s]) (by simp [results, Try.results54, go_sem, *]) rfl ⟨rfl, Gk.below (w := w1) (k := w.heap.size + 1) ?_ bel (by omega) bel.size⟩
  (repeat' (first | with_reducible assumption | with_reducible exact Gk.refl _ _ | with_reducible refine Gk.drew ?_ | with_reducible refine Gk.set ?_ _ _ | with_reducible refine Gk.alloc ?_ _ | with_reducible refine Gk.call ?_ (by assumption)))
theorem oneX (w : World) : Calls Try.prog 57 #[] w fun e w' => e = .returned (.agg #[.int .u64 1, .int .u64 0]) ∧ Below w.heap.size w w' := by
  go_enter Try.func57, Try.ntmps57
  go_wp2_with fail
  obtain ⟨t0, t1, -⟩ := pair2 (Lib.hid (setpair (W := w.alloc (.cells #[.int .u64 0, .int .u64 0] 40 (0, 0))) (u := .int .u64 1) (v := .int .u64 0) (heap_alloc_at rfl)))
  exact bodyPost_ret (v := .agg #[.int .u64 1, .int .u64 0]) (by simp [results, Try.results57, go_sem, *]) rfl ⟨rfl, (by repeat' (first | with_reducible exact Below.refl _ _ | with_reducible assumption | with_reducible refine Below.setCell ?_ ?_ _ | with_reducible refine Below.drew ?_ | with_reducible refine below_drewN ?_ _ | with_reducible refine Below.alloc ?_ ?_ _ | (rintro _ ⟨⟩; simp <;> omega) | omega | (simp <;> omega)))⟩
theorem fromBaseX (n : Int) (w : World) : Calls Try.prog 40 #[.int .u64 n] w fun e w' => e = .returned (.agg #[.int .u64 n, .int .u64 0]) ∧ Below w.heap.size w w' := by
  go_enter Try.func40, Try.ntmps40
  go_wp2_with fail
  obtain ⟨t0, t1, -⟩ := pair2 (Lib.hid (setpair (W := w.alloc (.cells #[.int .u64 0, .int .u64 0] 40 (0, 0))) (u := .int .u64 n) (v := .int .u64 0) (heap_alloc_at rfl)))
  exact bodyPost_ret (v := .agg #[.int .u64 n, .int .u64 0]) (by simp [results, Try.results40, go_sem, *]) rfl ⟨rfl, (by repeat' (first | with_reducible exact Below.refl _ _ | with_reducible assumption | with_reducible refine Below.setCell ?_ ?_ _ | with_reducible refine Below.drew ?_ | with_reducible refine below_drewN ?_ _ | with_reducible refine Below.alloc ?_ ?_ _ | (rintro _ ⟨⟩; simp <;> omega) | omega | (simp <;> omega)))⟩
theorem fromIntX {n : Int} (h0 : 0 ≤ n) (h1 : n < 9223372036854775808) (w : World) : Calls Try.prog 59 #[.int .i64 n] w fun e w' => e = .returned (.agg #[.int .u64 n, .int .u64 0]) ∧ Below w.heap.size w w' := by
  go_enter Try.func59, Try.ntmps59
  go_wp2_with (go_at_call 63; refine (fromIntP h0 h1 _).mono ?_; rintro e w1 ⟨rfl, rfl⟩)
  obtain ⟨t0, t1, -⟩ := pair2 (Lib.hid (setpair (W := w.alloc (.cells #[.int .u64 0, .int .u64 0] 40 (0, 0))) (u := .int .u64 n) (v := .int .u64 0) (heap_alloc_at rfl)))
  exact bodyPost_ret (v := .agg #[.int .u64 n, .int .u64 0]) (by simp [results, Try.results59, go_sem, *]) rfl ⟨rfl, (by repeat' (first | with_reducible exact Below.refl _ _ | with_reducible assumption | with_reducible refine Below.setCell ?_ ?_ _ | with_reducible refine Below.drew ?_ | with_reducible refine below_drewN ?_ _ | with_reducible refine Below.alloc ?_ ?_ _ | (rintro _ ⟨⟩; simp <;> omega) | omega | (simp <;> omega)))⟩
set_option maxRecDepth 100000 in
set_option maxHeartbeats 8000000 in
theorem subX (x y : ZQ) (w : World) : Calls Try.prog 62 #[(.agg #[.int .u64 (x.u % pF), .int .u64 (x.v % pF)]), (.agg #[.int .u64 (y.u % pF), .int .u64 (y.v % pF)])] w fun e w' => e = .returned (.agg #[.int .u64 ((x.sub y).u % pF), .int .u64 ((x.sub y).v % pF)]) ∧ Below w.heap.size w w' := by
  obtain ⟨r, hr⟩ : ∃ r, (x.add y.neg).u % pF = r := ⟨_, rfl⟩
  obtain ⟨s, hs⟩ : ∃ s, (x.add y.neg).v % pF = s := ⟨_, rfl⟩
  show Calls _ _ _ _ fun e w' => e = .returned (.agg #[.int .u64 ((x.add y.neg).u % pF), .int .u64 ((x.add y.neg).v % pF)]) ∧ Below w.heap.size w w'
  obtain ⟨m, hm⟩ : ∃ r, y.neg.u % pF = r := ⟨_, rfl⟩
  obtain ⟨n, hn⟩ : ∃ s, y.neg.v % pF = s := ⟨_, rfl⟩
  have HR := Lib.hid hr
  have HS := Lib.hid hs
  have HM := Lib.hid hm
  have HN := Lib.hid hn
  rw [hr, hs]
  clear hr hs hm hn
  go_enter Try.func62, Try.ntmps62
  go_upto_region 1 with fail
  refine wp_world (F := fun wx => Hid (B3 w (.cells #[.int .u64 (x.u % pF), .int .u64 (x.v % pF)] 40 (0, 0)) (.cells #[.int .u64 (y.u % pF), .int .u64 (y.v % pF)] 40 (0, 0)) (.cells #[.int .u64 0, .int .u64 0] 40 (0, 0)) wx)) (Lib.hid (B3.start w _ _ _)) ?_
  intro w1 HB
  have bel := HB.out.bel
  have R1 := Lib.hid HB.out.r1
  have R2 := Lib.hid HB.out.r2
  have R3 := Lib.hid HB.out.r3
  have z1 : ∀ W, Gk (w.heap.size + 1 + 1) w1 W → _ ∧ _ ∧ _ := fun W hW => pair2 (Lib.hid (hW.row R1.out (by omega)))
  have z2 : ∀ W, Gk (w.heap.size + 1 + 1) w1 W → _ ∧ _ ∧ _ := fun W hW => pair2 (Lib.hid (hW.row R2.out (by omega)))
  obtain ⟨c0, c1, lr⟩ := pair2 R3
  have fr := frzX R3
  refine wp_region_noPanic ?_
  refine wp_region_held_drew (S := fun X => Gk (w.heap.size + 1 + 1) w1 X) (by kernel_rfl) ?_ (fun hHeld => ?_)
  · (first | (repeat' (first | with_reducible assumption | with_reducible exact Gk.refl _ _ | with_reducible refine Gk.drew ?_ | with_reducible refine Gk.set ?_ _ _ | with_reducible refine Gk.alloc ?_ _ | with_reducible refine Gk.call ?_ (by assumption))) | (first | with_reducible assumption | (with_reducible refine Below.drew ?_; with_reducible assumption) | (with_reducible refine ba _ _ ?_; with_reducible assumption) | (with_reducible refine Below.drew ?_; with_reducible refine ba _ _ ?_; with_reducible assumption) | exact Below.refl _ _ | exact (Below.refl _ _).drew | exact (Below.refl _ _).alloc (Nat.le_refl _) _ | (refine bc _ _ (by assumption) (by assumption))))
  refine RegOk.begin_ (n := 5) (T := exSub) ⟨by kernel_rfl, by kernel_rfl, by kernel_rfl, by kernel_rfl⟩ fun hR => ?_
  refine hR.take (i := 0) (oi := ?ow54_0) (v := ?vw54_0) (m' := 1) ?hw54_0 (by kernel_rfl) (by kernel_rfl) (fun _ _ _ h => h) (Or.inl ⟨?sw54_0, ?yw54_0⟩) (by assumption) ?nw54_0
  case hw54_0 => simp only [List.getElem?_toArray, List.getElem?_cons_succ, List.getElem?_cons_zero]; rfl
  case sw54_0 => rfl
  case yw54_0 => (intro w hSw; (try dsimp only at hSw); go_simp <;> with_reducible rfl)
  try simp only [Act.put, List.setIfInBounds_toArray, List.set_cons_zero, List.set_cons_succ]
  refine hR.take (i := 1) (oi := ?ow55_1) (v := ?vw55_1) (m' := 3) ?hw55_1 (by kernel_rfl) (by kernel_rfl) (fun _ _ _ h => h) (Or.inl ⟨?sw55_1, ?yw55_1⟩) (by assumption) ?nw55_1
  case hw55_1 => simp only [List.getElem?_toArray, List.getElem?_cons_succ, List.getElem?_cons_zero]; rfl
  case sw55_1 => rfl
  case yw55_1 => (intro w hSw; (try dsimp only at hSw); go_simp <;> with_reducible rfl)
  try simp only [Act.put, List.setIfInBounds_toArray, List.set_cons_zero, List.set_cons_succ]
  refine hR.come (rs := [2]) (by kernel_rfl) (by simp) ?_
  refine AllReadyH.cons (o := ?o56_2) ?h56_2 (fun K hK => ?kw56_2) AllReadyH.nil
  case h56_2 => simp only [List.getElem?_toArray, List.getElem?_cons_succ, List.getElem?_cons_zero]; rfl
  go_simp
  go_at_call 64; (with_reducible refine (negN (x := y) rfl rfl HM.out HN.out _).mono ?_); rintro e wA ⟨rfl, hbA⟩; have hkA : Gk (w.heap.size + 1 + 1) w1 wA := (Gk.refl _ _).drew.call hbA
  refine hK.out _ _ ?_ (fun hHeld => ?_)
  · (first | (repeat' (first | with_reducible assumption | with_reducible exact Gk.refl _ _ | with_reducible refine Gk.drew ?_ | with_reducible refine Gk.set ?_ _ _ | with_reducible refine Gk.alloc ?_ _ | with_reducible refine Gk.call ?_ (by assumption))) | (first | with_reducible assumption | (with_reducible refine Below.drew ?_; with_reducible assumption) | (with_reducible refine ba _ _ ?_; with_reducible assumption) | (with_reducible refine Below.drew ?_; with_reducible refine ba _ _ ?_; with_reducible assumption) | exact Below.refl _ _ | exact (Below.refl _ _).drew | exact (Below.refl _ _).alloc (Nat.le_refl _) _ | (refine bc _ _ (by assumption) (by assumption))))
  clear hK K
  refine RegOk.put_ (m' := 7) (by kernel_rfl) ?_
  try simp only [Act.put, List.setIfInBounds_toArray, List.set_cons_zero, List.set_cons_succ]
  refine hR.come (rs := [3]) (by kernel_rfl) (by simp) ?_
  refine AllReadyH.cons (o := ?o57_3) ?h57_3 (fun K hK => ?kw57_3) AllReadyH.nil
  case h57_3 => simp only [List.getElem?_toArray, List.getElem?_cons_succ, List.getElem?_cons_zero]; rfl
  go_simp
  go_at_call 9; (with_reducible refine (addN (x := x) (y := y.neg) rfl rfl HM.out HN.out HR.out HS.out _).mono ?_); rintro e wB ⟨rfl, hbB⟩; have hkB : Gk (w.heap.size + 1 + 1) w1 wB := hkA.call hbB; have RB := Lib.hid (hbB.block _ (by have := hbA.size; simp at this; omega) |>.trans (hbA.block _ (by simp; omega) |>.trans R3.out)); obtain ⟨b0, b1, lb⟩ := pair2 RB; have fb := frzX RB
  refine hK.out _ _ ?_ (fun hHeld => ?_)
  · (first | (repeat' (first | with_reducible assumption | with_reducible exact Gk.refl _ _ | with_reducible refine Gk.drew ?_ | with_reducible refine Gk.set ?_ _ _ | with_reducible refine Gk.alloc ?_ _ | with_reducible refine Gk.call ?_ (by assumption))) | (first | with_reducible assumption | (with_reducible refine Below.drew ?_; with_reducible assumption) | (with_reducible refine ba _ _ ?_; with_reducible assumption) | (with_reducible refine Below.drew ?_; with_reducible refine ba _ _ ?_; with_reducible assumption) | exact Below.refl _ _ | exact (Below.refl _ _).drew | exact (Below.refl _ _).alloc (Nat.le_refl _) _ | (refine bc _ _ (by assumption) (by assumption))))
  clear hK K
  refine RegOk.put_ (m' := 15) (by kernel_rfl) ?_
  try simp only [Act.put, List.setIfInBounds_toArray, List.set_cons_zero, List.set_cons_succ]
  refine hR.come (rs := [4]) (by kernel_rfl) (by simp) ?_
  refine AllReadyH.cons (o := ?o58_4) ?h58_4 (fun K hK => ?kw58_4) AllReadyH.nil
  case h58_4 => simp only [List.getElem?_toArray, List.getElem?_cons_succ, List.getElem?_cons_zero]; rfl
  go_simp <;> (try go_wp2_with fail)
  refine hK.out _ _ ?_ (fun hHeld => ?_)
  · (first | (repeat' (first | with_reducible assumption | with_reducible exact Gk.refl _ _ | with_reducible refine Gk.drew ?_ | with_reducible refine Gk.set ?_ _ _ | with_reducible refine Gk.alloc ?_ _ | with_reducible refine Gk.call ?_ (by assumption))) | (first | with_reducible assumption | (with_reducible refine Below.drew ?_; with_reducible assumption) | (with_reducible refine ba _ _ ?_; with_reducible assumption) | (with_reducible refine Below.drew ?_; with_reducible refine ba _ _ ?_; with_reducible assumption) | exact Below.refl _ _ | exact (Below.refl _ _).drew | exact (Below.refl _ _).alloc (Nat.le_refl _) _ | (refine bc _ _ (by assumption) (by assumption))))
  clear hK K
  refine RegOk.put_ (m' := 31) (by kernel_rfl) ?_
  try simp only [Act.put, List.setIfInBounds_toArray, List.set_cons_zero, List.set_cons_succ]
  refine hR.all (by kernel_rfl) ?_ _
  refine NoPanic.normal ?_
  go_wp2_with fail
  obtain ⟨t0, t1, -⟩ := pair2 (Lib.hid (setpair (u := .int .u64 r) (v := .int .u64 s) RB.out))
  refine bodyPost_ret (v := .agg #[.int .u64 r, .int .u64 s]) (by simp [results, Try.results62, go_sem, *]) rfl ⟨rfl, Gk.below (w := w1) (k := w.heap.size + 1 + 1) ?_ bel (by omega) bel.size⟩
  (repeat' (first | with_reducible assumption | with_reducible exact Gk.refl _ _ | with_reducible refine Gk.drew ?_ | with_reducible refine Gk.set ?_ _ _ | with_reducible refine Gk.alloc ?_ _ | with_reducible refine Gk.call ?_ (by assumption)))
theorem subN {x y : ZQ} {a b c d r s : Int} (ha : x.u % pF = a) (hb : x.v % pF = b) (hc : y.u % pF = c) (hd : y.v % pF = d) (hr : (x.sub y).u % pF = r) (hs : (x.sub y).v % pF = s) (w : World) : Calls Try.prog 62 #[.agg #[.int .u64 a, .int .u64 b], .agg #[.int .u64 c, .int .u64 d]] w fun e w' => e = .returned (.agg #[.int .u64 r, .int .u64 s]) ∧ Below w.heap.size w w' := by
  subst ha; subst hb; subst hc; subst hd; subst hr; subst hs; exact subX x y w
end Go.Proofs.Ytpdblgchfkcgpaa
