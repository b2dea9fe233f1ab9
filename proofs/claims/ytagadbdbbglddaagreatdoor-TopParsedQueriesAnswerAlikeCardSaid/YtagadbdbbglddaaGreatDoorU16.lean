/-
  Texts of this claim, merged: Ev2. Conditions: as each theorem says.
-/
import Derived.Test.YtagadbdbbglddaaGreatDoorU1
import Derived.Test.YtagadbdbbglddaaGreatDoorU2
import Derived.Test.YtagadbdbbglddaaGreatDoorU3
import Derived.Test.YtagadbdbbglddaaGreatDoorU4
import Derived.Test.YtagadbdbbglddaaGreatDoorU5
import Derived.Test.YtagadbdbbglddaaGreatDoorU6
import Derived.Test.YtagadbdbbglddaaGreatDoorU7
import Derived.Test.YtagadbdbbglddaaGreatDoorU8
import Derived.Test.YtagadbdbbglddaaGreatDoorU9
import Derived.Test.YtagadbdbbglddaaGreatDoorU10
import Derived.Test.YtagadbdbbglddaaGreatDoorU11
import Derived.Test.YtagadbdbbglddaaGreatDoorU12
import Derived.Test.YtagadbdbbglddaaGreatDoorU13
import Derived.Test.YtagadbdbbglddaaGreatDoorU14
import Derived.Test.YtagadbdbbglddaaGreatDoorU15
set_option linter.unusedSimpArgs false
set_option linter.unusedVariables false
namespace Go.Proofs.YtagadbdbbglddaaGreatDoor
open Go.RowKit

theorem i64_cells {S : Nat → Prop} {w : World} : ∀ {l : List Int} {cs : List Value}, Elems .i64 S w cs l → cs = l.map (Value.int .i64)
  | [], _, h => h
  | b :: l, _, ⟨c, d, e, h1, h2⟩ => by
    have h1' : c = [.int .i64 b] := h1
    rw [e, h1', i64_cells h2]; rfl
theorem i64_elems {S : Nat → Prop} {w : World} : ∀ (l : List Int), Elems .i64 S w (l.map (Value.int .i64)) l
  | [] => rfl
  | _ :: l => ⟨[_], _, rfl, rfl, i64_elems l⟩
theorem i64_store {S : Nat → Prop} {w : World} {base n c g k : Nat} {e : TypeId} {l : List Int} (h : Own .i64 S w base e (.slice (some ⟨g, 0, none⟩) n c) l) (u : Int) :
    Own .i64 S (w.setCell ⟨g, k, none⟩ (.int .i64 u)) base e (.slice (some ⟨g, 0, none⟩) n c) (l.set k u) := by
  refine ((h.flat i64_flat (T := fun _ => False)).stored (ys := l.set k u) (fun h => h) (by simp) (fun cs hel => ?_) rfl).flat i64_flat
  rw [i64_cells hel, ← List.map_set]
  exact i64_elems _
theorem i64_cell {S : Nat → Prop} {w : World} {base n c g k : Nat} {e : TypeId} {l : List Int} (h : Own .i64 S w base e (.slice (some ⟨g, 0, none⟩) n c) l) (hk : k < l.length) :
    w.cell? ⟨g, k, none⟩ = some (.int .i64 (l.getD k 0)) := by
  obtain ⟨cs, hr, hc⟩ := h.at_ (k := k) (List.getElem?_eq_getElem hk)
  cases hr
  have h1 := hc 0 _ rfl
  simp only [List.getD_eq_getElem?_getD, List.getElem?_eq_getElem hk, Option.getD_some]
  simpa [Enc.i64] using h1
/-- What an adding function leaves. -/
def AddR (W : World) (base k n c : Nat) (ys : List Int) (e : Ending) (W' : World) : Prop :=
  e = .returned (.tuple #[]) ∧ Own .i64 (fun _ => False) W' base 2 (.slice (some ⟨k, 0, none⟩) n c) ys ∧ Gk k W W'

def ev2B : List FRow := [(0, ([], (5, [1]))), (1, ([0], (6, [4]))), (2, ([1], (7, [5]))), (3, ([], (8, [3]))), (4, ([], (9, [2]))), (5, ([4], (10, [8]))), (6, ([3, 5], (11, [7, 9]))), (7, ([2, 6], (12, [6, 10]))), (8, ([0, 0, 1, 2, 3, 4, 5, 6, 7], (13, [4]))), (9, ([8, 7, 6, 0, 1, 2, 3, 4, 5, 6, 7], (0, [12, 11])))]
def ev2C : List FRow := [(0, ([], (5, [1]))), (1, ([0], (6, [4]))), (2, ([1], (7, [5]))), (3, ([], (8, [3]))), (4, ([], (9, [2]))), (5, ([4], (10, [8]))), (6, ([3, 5], (11, [7, 9]))), (7, ([], (12, [2]))), (8, ([7], (13, [11]))), (9, ([6, 8, 6], (14, [10, 12]))), (10, ([2, 9], (15, [6, 13]))), (11, ([0, 0, 1, 2, 3, 4, 5, 6, 7, 8, 9, 10], (16, [4]))), (12, ([11, 10, 9, 0, 1, 2, 3, 4, 5, 6, 7, 8, 9, 10], (0, [15, 14])))]
def ev2E : List FRow := [(0, ([], (5, [1]))), (1, ([], (6, [3]))), (2, ([], (7, [2]))), (3, ([2], (8, [6]))), (4, ([1, 3], (9, [5, 7]))), (5, ([0, 4], (10, [4, 8]))), (6, ([5], (11, [9]))), (7, ([6], (12, [10]))), (8, ([0, 4, 0, 1, 2, 3, 4, 5, 6, 7], (13, [4, 8]))), (9, ([8, 7, 4, 0, 1, 2, 3, 4, 5, 6, 7], (0, [12, 11])))]
set_option maxHeartbeats 1000000 in
theorem add1 {r : Rd} {gs k n c base : Nat} {xs : List Int} (w : World) (hs : w.heap[gs]? = some (.cells #[(.slice (some ⟨k, 0, none⟩) n c)] 33 (0, 0))) (ho : Own .i64 (fun _ => False) w base 2 (.slice (some ⟨k, 0, none⟩) n c) xs) (hn : 0 < n)
    (hx : 0 ≤ xs.getD 0 0 ∧ xs.getD 0 0 ≤ 274941996890625000) : Calls Tryz.prog 58 #[(.agg #[.int .i64 r.who, .int .i64 r.whn, .int .i64 r.knd, .int .i64 r.val]), .pointer (some ⟨gs, 0, none⟩)] w (AddR w base k n c (xs.set 0 (xs.getD 0 0 + 1))) := by
  obtain ⟨x, hxx⟩ : ∃ x, xs.getD 0 0 = x := ⟨_, rfl⟩
  have v0 := i64_cell (k := 0) ho (by rw [← ho.len]; exact hn)
  rw [hxx] at hx v0 ⊢
  have HO := Lib.hid ho
  have fk := ho.frozen 0
  obtain ⟨_, e, -, hk, -⟩ := ho.block hn
  injection e with e; injection e with e; subst e
  have lk1 : k < w.heap.size + 1 := by omega
  obtain ⟨s0, -, ls⟩ := one (Lib.hid hs)
  have ls1 : gs < w.heap.size + 1 := by omega
  have hw : IntKind.i64.wrap (x + 1) = x + 1 := IntWalk.i64_in _ (by omega)
  have hn0 : (0 : Int) < (n : Int) := by omega
  clear ho hs hxx
  go_enter Tryz.func58, Tryz.ntmps58
  go_wp2_with fail
  go_end0
  exact ⟨rfl, (by repeat' (first | with_reducible exact HO1.out | with_reducible exact HO.out | with_reducible assumption | with_reducible refine i64_store ?_ _ | with_reducible refine Own.drew ?_ | with_reducible refine Own.call ?_ (by with_reducible assumption) | with_reducible refine Own.alloc ?_ _)), by (repeat' (first | with_reducible assumption | with_reducible exact Gk.refl _ _ | with_reducible refine Gk.alloc ?_ _ | with_reducible refine Gk.drew ?_ | with_reducible refine Gk.set ?_ _ _ | with_reducible refine Gk.call ?_ (by with_reducible assumption)))⟩
set_option maxHeartbeats 1000000 in
theorem add4 {r : Rd} {gs gi k n c base i j : Nat} {xs : List Int} (w : World) (hs : w.heap[gs]? = some (.cells #[(.slice (some ⟨k, 0, none⟩) n c)] 33 (0, 0))) (hi : w.heap[gi]? = some (.cells #[.int .i64 i] 3 (0, 0))) (ho : Own .i64 (fun _ => False) w base 2 (.slice (some ⟨k, 0, none⟩) n c) xs) (hn : j < n) (hn32 : n ≤ 32) (hj : (16 : Int) * i + r.who = j) (hi2 : i < 2)
    (hx : 0 ≤ xs.getD j 0 ∧ xs.getD j 0 ≤ 274941996890625000) : Calls Tryz.prog 63 #[(.agg #[.int .i64 r.who, .int .i64 r.whn, .int .i64 r.knd, .int .i64 r.val]), .pointer (some ⟨gs, 0, none⟩), .pointer (some ⟨gi, 0, none⟩)] w (AddR w base k n c (xs.set j (xs.getD j 0 + 1))) := by
  obtain ⟨x, hxx⟩ : ∃ x, xs.getD j 0 = x := ⟨_, rfl⟩
  have v0 := i64_cell (k := j) ho (by rw [← ho.len]; exact hn)
  rw [hxx] at hx v0 ⊢
  have HO := Lib.hid ho
  have fk := ho.frozen j
  obtain ⟨_, e, -, hk, -⟩ := ho.block (by omega)
  injection e with e; injection e with e; subst e
  have lk1 : k < w.heap.size + 1 := by omega
  obtain ⟨s0, -, ls⟩ := one (Lib.hid hs)
  obtain ⟨i0, -, li⟩ := one (Lib.hid hi)
  have ls1 : gs < w.heap.size + 1 := by omega
  have li1 : gi < w.heap.size + 1 := by omega
  have hw : IntKind.i64.wrap (x + 1) = x + 1 := IntWalk.i64_in _ (by omega)
  have hn0 : (j : Int) < (n : Int) := by omega
  have hj0 : (0 : Int) ≤ (j : Int) := by omega
  have hw2 : wrap64 (16 * (i : Int)) = 16 * (i : Int) := IntWalk.wrap64_in _ (by omega)
  have hw3 : wrap64 (16 * (i : Int) + r.who) = (j : Int) := by rw [hj]; exact IntWalk.wrap64_in _ (by omega)
  clear ho hs hxx hi hi2
  go_enter Tryz.func63, Tryz.ntmps63
  go_wp2_with fail
  go_end0
  exact ⟨rfl, (by repeat' (first | with_reducible exact HO1.out | with_reducible exact HO.out | with_reducible assumption | with_reducible refine i64_store ?_ _ | with_reducible refine Own.drew ?_ | with_reducible refine Own.call ?_ (by with_reducible assumption) | with_reducible refine Own.alloc ?_ _)), by (repeat' (first | with_reducible assumption | with_reducible exact Gk.refl _ _ | with_reducible refine Gk.alloc ?_ _ | with_reducible refine Gk.drew ?_ | with_reducible refine Gk.set ?_ _ _ | with_reducible refine Gk.call ?_ (by with_reducible assumption)))⟩
set_option maxHeartbeats 2000000 in
theorem add2 {q : Qy} {r : Rd} {A : Option Addr} {cc gs gq k n c base : Nat} {xs : List Int} (w : World) (hs : w.heap[gs]? = some (.cells #[(.slice (some ⟨k, 0, none⟩) n c)] 33 (0, 0))) (hq : w.heap[gq]? = some (.cells #[.int .i64 q.kind, .int .i64 q.col, .int .i64 q.k, .slice A q.fs.length cc] 24 (0, 0))) (ho : Own .i64 (fun _ => False) w base 2 (.slice (some ⟨k, 0, none⟩) n c) xs) (hn : 0 < n)
    (hsk : gs ≠ k) (hqk : gq ≠ k) (hc0 : 0 ≤ q.col) (hc3 : q.col ≤ 3) (hr : ValidR r)
    (hx : 0 ≤ xs.getD 0 0 ∧ xs.getD 0 0 ≤ 274941996890625000) : Calls Tryz.prog 59 #[(.agg #[.int .i64 r.who, .int .i64 r.whn, .int .i64 r.knd, .int .i64 r.val]), .pointer (some ⟨gs, 0, none⟩), .pointer (some ⟨gq, 0, none⟩)] w (AddR w base k n c (xs.set 0 (xs.getD 0 0 + fldI r q.col))) := by
  obtain ⟨x, hxx⟩ : ∃ x, xs.getD 0 0 = x := ⟨_, rfl⟩
  obtain ⟨y, hy⟩ : ∃ y, fldI r q.col = y := ⟨_, rfl⟩
  have hyb := fldI_255 hr q.col
  rw [hxx] at hx ⊢
  rw [hy] at hyb ⊢
  have HXX := Lib.hid hxx
  have HY := Lib.hid hy
  have HO := Lib.hid ho
  obtain ⟨_, e, -, hk, hnl⟩ := ho.block hn
  injection e with e; injection e with e; subst e
  have ls := heap_lt hs
  have lq := heap_lt hq
  have HS := Lib.hid hs
  have HQ := Lib.hid hq
  have hw : IntKind.i64.wrap (x + y) = x + y := IntWalk.i64_in _ (by omega)
  have hn0 : (0 : Int) < (n : Int) := by omega
  have HNL := Lib.hid hnl
  clear ho hs hq hxx hy hnl
  go_enter Tryz.func59, Tryz.ntmps59
  go_upto_region 1 with fail
  refine wp_world (F := fun wx => Below w.heap.size w wx ∧ Hid (wx.heap[w.heap.size]? = some (.cells #[.int .i64 r.who, .int .i64 r.whn, .int .i64 r.knd, .int .i64 r.val] 46 (0, 0)))) ⟨(by repeat' (first | with_reducible exact Below.refl _ _ | with_reducible assumption | with_reducible refine Below.setCell ?_ ?_ _ | with_reducible refine Below.drew ?_ | with_reducible refine below_drewN ?_ _ | with_reducible refine Below.alloc ?_ ?_ _ | (rintro _ ⟨⟩; simp <;> omega) | omega | (simp <;> omega))), Lib.hid (heap_alloc_at rfl)⟩ ?_
  rintro wr ⟨bb, gr⟩
  have B0 := Lib.hid bb
  have gs1 := mvQ HS bb
  have gq1 := mvQ HQ bb
  have HO1 := Lib.hid (HO.out.call bb)
  have hkr : k < wr.heap.size := Nat.lt_of_lt_of_le hk bb.size
  have v0 := i64_cell (k := 0) HO1.out (by have := HNL.out; omega)
  rw [HXX.out] at v0
  have fk := HO1.out.frozen 0
  have hrk : w.heap.size ≠ k := by omega
  have zs : ∀ W, Gk k wr W → W.cell? ⟨gs, 0, none⟩ = _ := fun W hW => (one (Lib.hid (hW.row gs1.out hsk))).1
  have zq : ∀ W, Gk k wr W → _ ∧ _ ∧ _ ∧ _ := fun W hW => row4 (Lib.hid (hW.row gq1.out hqk))
  have zr : ∀ W, Gk k wr W → _ ∧ _ ∧ _ ∧ _ := fun W hW => row4 (Lib.hid (hW.row gr.out hrk))
  have gr0 : Gk k wr wr := Gk.refl _ _
  clear bb gr
  refine wp_region_noPanic ?_
  refine wp_region_held_drew (S := fun X => Gk k wr X) (by kernel_rfl) ?_ (fun hHeld => ?_)
  · (first | (repeat' (first | with_reducible assumption | with_reducible exact Gk.refl _ _ | with_reducible refine Gk.alloc ?_ _ | with_reducible refine Gk.drew ?_ | with_reducible refine Gk.set ?_ _ _ | with_reducible refine Gk.call ?_ (by with_reducible assumption))) | (first | with_reducible assumption | (with_reducible refine Below.drew ?_; with_reducible assumption) | (with_reducible refine ba _ _ ?_; with_reducible assumption) | (with_reducible refine Below.drew ?_; with_reducible refine ba _ _ ?_; with_reducible assumption) | exact Below.refl _ _ | exact (Below.refl _ _).drew | exact (Below.refl _ _).alloc (Nat.le_refl _) _ | (refine bc _ _ (by assumption) (by assumption))))
  refine RegOk.begin_ (n := 10) (T := ev2B) ⟨by kernel_rfl, by kernel_rfl, by kernel_rfl, by kernel_rfl⟩ fun hR => ?_
  refine hR.take (i := 0) (oi := ?ow635_0) (v := ?vw635_0) (m' := 1) ?hw635_0 (by kernel_rfl) (by kernel_rfl) (fun _ _ _ h => h) (Or.inl ⟨?sw635_0, ?yw635_0⟩) (by assumption) ?nw635_0
  case hw635_0 => simp only [List.getElem?_toArray, List.getElem?_cons_succ, List.getElem?_cons_zero]; rfl
  case sw635_0 => rfl
  case yw635_0 => (intro w hSw; (try dsimp only at hSw); go_simp <;> with_reducible rfl)
  try simp only [Act.put, List.setIfInBounds_toArray, List.set_cons_zero, List.set_cons_succ]
  refine hR.take (i := 1) (oi := ?ow636_1) (v := ?vw636_1) (m' := 3) ?hw636_1 (by kernel_rfl) (by kernel_rfl) (fun _ _ _ h => h) (Or.inl ⟨?sw636_1, ?yw636_1⟩) (by assumption) ?nw636_1
  case hw636_1 => simp only [List.getElem?_toArray, List.getElem?_cons_succ, List.getElem?_cons_zero]; rfl
  case sw636_1 => rfl
  case yw636_1 => (intro w hSw; (try dsimp only at hSw); go_simp <;> with_reducible rfl)
  try simp only [Act.put, List.setIfInBounds_toArray, List.set_cons_zero, List.set_cons_succ]
  refine hR.take (i := 3) (oi := ?ow637_3) (v := ?vw637_3) (m' := 11) ?hw637_3 (by kernel_rfl) (by kernel_rfl) (fun _ _ _ h => h) (Or.inl ⟨?sw637_3, ?yw637_3⟩) (by assumption) ?nw637_3
  case hw637_3 => simp only [List.getElem?_toArray, List.getElem?_cons_succ, List.getElem?_cons_zero]; rfl
  case sw637_3 => rfl
  case yw637_3 => (intro w hSw; (try dsimp only at hSw); go_simp <;> with_reducible rfl)
  try simp only [Act.put, List.setIfInBounds_toArray, List.set_cons_zero, List.set_cons_succ]
  refine hR.take (i := 4) (oi := ?ow638_4) (v := ?vw638_4) (m' := 27) ?hw638_4 (by kernel_rfl) (by kernel_rfl) (fun _ _ _ h => h) (Or.inl ⟨?sw638_4, ?yw638_4⟩) (by assumption) ?nw638_4
  case hw638_4 => simp only [List.getElem?_toArray, List.getElem?_cons_succ, List.getElem?_cons_zero]; rfl
  case sw638_4 => rfl
  case yw638_4 => (intro w hSw; (try dsimp only at hSw); go_simp <;> with_reducible rfl)
  try simp only [Act.put, List.setIfInBounds_toArray, List.set_cons_zero, List.set_cons_succ]
  refine hR.take (i := 5) (oi := ?ow639_5) (v := ?vw639_5) (m' := 59) ?hw639_5 (by kernel_rfl) (by kernel_rfl) (fun _ _ _ h => h) (Or.inl ⟨?sw639_5, ?yw639_5⟩) (by assumption) ?nw639_5
  case hw639_5 => simp only [List.getElem?_toArray, List.getElem?_cons_succ, List.getElem?_cons_zero]; rfl
  case sw639_5 => rfl
  case yw639_5 => (intro w hSw; (try dsimp only at hSw); go_simp <;> with_reducible rfl)
  try simp only [Act.put, List.setIfInBounds_toArray, List.set_cons_zero, List.set_cons_succ]
  refine hR.come (rs := [2, 6]) (by kernel_rfl) (by simp) ?_
  refine AllReadyH.cons (o := ?o640_2) ?h640_2 (fun K hK => ?kw640_2) (AllReadyH.cons (o := ?o640_6) ?h640_6 (fun K hK => ?kw640_6) AllReadyH.nil)
  case h640_2 => simp only [List.getElem?_toArray, List.getElem?_cons_succ, List.getElem?_cons_zero]; rfl
  case h640_6 => simp only [List.getElem?_toArray, List.getElem?_cons_succ, List.getElem?_cons_zero]; rfl
  case kw640_2 =>
    go_simp <;> (try go_wp2_with fail)
    refine hK.out _ _ ?_ (fun hHeld => ?_)
    · (first | (repeat' (first | with_reducible assumption | with_reducible exact Gk.refl _ _ | with_reducible refine Gk.alloc ?_ _ | with_reducible refine Gk.drew ?_ | with_reducible refine Gk.set ?_ _ _ | with_reducible refine Gk.call ?_ (by with_reducible assumption))) | (first | with_reducible assumption | (with_reducible refine Below.drew ?_; with_reducible assumption) | (with_reducible refine ba _ _ ?_; with_reducible assumption) | (with_reducible refine Below.drew ?_; with_reducible refine ba _ _ ?_; with_reducible assumption) | exact Below.refl _ _ | exact (Below.refl _ _).drew | exact (Below.refl _ _).alloc (Nat.le_refl _) _ | (refine bc _ _ (by assumption) (by assumption))))
    clear hK K
    refine RegOk.put_ (m' := 63) (by kernel_rfl) ?_
    try simp only [Act.put, List.setIfInBounds_toArray, List.set_cons_zero, List.set_cons_succ]
    refine hR.come (rs := [6]) (by kernel_rfl) (by simp) ?_
    refine AllReadyH.cons (o := ?o641_6) ?h641_6 (fun K hK => ?kw641_6) AllReadyH.nil
    case h641_6 => simp only [List.getElem?_toArray, List.getElem?_cons_succ, List.getElem?_cons_zero]; rfl
    go_simp
    go_at_call 60; refine (columnE (r := r) _ hc0 hc3).mono ?_; rw [HY.out]; rintro e wC ⟨rfl, hC⟩; have HOC := Lib.hid (show Own .i64 (fun _ => False) wC base 2 (.slice (some ⟨k, 0, none⟩) n c) xs from (by repeat' (first | with_reducible exact HO1.out | with_reducible exact HO.out | with_reducible assumption | with_reducible refine i64_store ?_ _ | with_reducible refine Own.drew ?_ | with_reducible refine Own.call ?_ (by with_reducible assumption) | with_reducible refine Own.alloc ?_ _))); have v0C := i64_cell (k := 0) HOC.out (by have := HNL.out; omega); rw [HXX.out] at v0C; have fkC := HOC.out.frozen 0; have hkC := (HOC.out.lt k rfl).2
    refine hK.out _ _ ?_ (fun hHeld => ?_)
    · (first | (repeat' (first | with_reducible assumption | with_reducible exact Gk.refl _ _ | with_reducible refine Gk.alloc ?_ _ | with_reducible refine Gk.drew ?_ | with_reducible refine Gk.set ?_ _ _ | with_reducible refine Gk.call ?_ (by with_reducible assumption))) | (first | with_reducible assumption | (with_reducible refine Below.drew ?_; with_reducible assumption) | (with_reducible refine ba _ _ ?_; with_reducible assumption) | (with_reducible refine Below.drew ?_; with_reducible refine ba _ _ ?_; with_reducible assumption) | exact Below.refl _ _ | exact (Below.refl _ _).drew | exact (Below.refl _ _).alloc (Nat.le_refl _) _ | (refine bc _ _ (by assumption) (by assumption))))
    clear hK K
    refine RegOk.put_ (m' := 127) (by kernel_rfl) ?_
    try simp only [Act.put, List.setIfInBounds_toArray, List.set_cons_zero, List.set_cons_succ]
    refine hR.take (i := 7) (oi := ?ow642_7) (v := ?vw642_7) (m' := 255) ?hw642_7 (by kernel_rfl) (by kernel_rfl) (fun _ _ _ h => h) (Or.inl ⟨?sw642_7, ?yw642_7⟩) (by assumption) ?nw642_7
    case hw642_7 => simp only [List.getElem?_toArray, List.getElem?_cons_succ, List.getElem?_cons_zero]; rfl
    case sw642_7 => rfl
    case yw642_7 => (intro w hSw; (try dsimp only at hSw); go_simp <;> with_reducible rfl)
    try simp only [Act.put, List.setIfInBounds_toArray, List.set_cons_zero, List.set_cons_succ]
    refine hR.take (i := 8) (oi := ?ow643_8) (v := ?vw643_8) (m' := 511) ?hw643_8 (by kernel_rfl) (by kernel_rfl) (fun _ _ _ h => h) (Or.inl ⟨?sw643_8, ?yw643_8⟩) (by assumption) ?nw643_8
    case hw643_8 => simp only [List.getElem?_toArray, List.getElem?_cons_succ, List.getElem?_cons_zero]; rfl
    case sw643_8 => rfl
    case yw643_8 => (intro w hSw; (try dsimp only at hSw); go_simp <;> with_reducible rfl)
    try simp only [Act.put, List.setIfInBounds_toArray, List.set_cons_zero, List.set_cons_succ]
    refine hR.come (rs := [9]) (by kernel_rfl) (by simp) ?_
    refine AllReadyH.cons (o := ?o644_9) ?h644_9 (fun K hK => ?kw644_9) AllReadyH.nil
    case h644_9 => simp only [List.getElem?_toArray, List.getElem?_cons_succ, List.getElem?_cons_zero]; rfl
    go_simp <;> (try go_wp2_with fail)
    refine hK.out _ _ ?_ (fun hHeld => ?_)
    · (first | (repeat' (first | with_reducible assumption | with_reducible exact Gk.refl _ _ | with_reducible refine Gk.alloc ?_ _ | with_reducible refine Gk.drew ?_ | with_reducible refine Gk.set ?_ _ _ | with_reducible refine Gk.call ?_ (by with_reducible assumption))) | (first | with_reducible assumption | (with_reducible refine Below.drew ?_; with_reducible assumption) | (with_reducible refine ba _ _ ?_; with_reducible assumption) | (with_reducible refine Below.drew ?_; with_reducible refine ba _ _ ?_; with_reducible assumption) | exact Below.refl _ _ | exact (Below.refl _ _).drew | exact (Below.refl _ _).alloc (Nat.le_refl _) _ | (refine bc _ _ (by assumption) (by assumption))))
    clear hK K
    refine RegOk.put_ (m' := 1023) (by kernel_rfl) ?_
    try simp only [Act.put, List.setIfInBounds_toArray, List.set_cons_zero, List.set_cons_succ]
    refine hR.all (by kernel_rfl) ?_ _
    refine NoPanic.normal ?_
    go_wp2_with fail
    go_end0
    exact ⟨rfl, (by repeat' (first | with_reducible exact HO1.out | with_reducible exact HO.out | with_reducible assumption | with_reducible refine i64_store ?_ _ | with_reducible refine Own.drew ?_ | with_reducible refine Own.call ?_ (by with_reducible assumption) | with_reducible refine Own.alloc ?_ _)), ((Gk.refl k w).call B0.out).trans (by (repeat' (first | with_reducible assumption | with_reducible exact Gk.refl _ _ | with_reducible refine Gk.alloc ?_ _ | with_reducible refine Gk.drew ?_ | with_reducible refine Gk.set ?_ _ _ | with_reducible refine Gk.call ?_ (by with_reducible assumption))))⟩
  case kw640_6 =>
    go_simp
    go_at_call 60; refine (columnE (r := r) _ hc0 hc3).mono ?_; rw [HY.out]; rintro e wC ⟨rfl, hC⟩; have HOC := Lib.hid (show Own .i64 (fun _ => False) wC base 2 (.slice (some ⟨k, 0, none⟩) n c) xs from (by repeat' (first | with_reducible exact HO1.out | with_reducible exact HO.out | with_reducible assumption | with_reducible refine i64_store ?_ _ | with_reducible refine Own.drew ?_ | with_reducible refine Own.call ?_ (by with_reducible assumption) | with_reducible refine Own.alloc ?_ _))); have v0C := i64_cell (k := 0) HOC.out (by have := HNL.out; omega); rw [HXX.out] at v0C; have fkC := HOC.out.frozen 0; have hkC := (HOC.out.lt k rfl).2
    refine hK.out _ _ ?_ (fun hHeld => ?_)
    · (first | (repeat' (first | with_reducible assumption | with_reducible exact Gk.refl _ _ | with_reducible refine Gk.alloc ?_ _ | with_reducible refine Gk.drew ?_ | with_reducible refine Gk.set ?_ _ _ | with_reducible refine Gk.call ?_ (by with_reducible assumption))) | (first | with_reducible assumption | (with_reducible refine Below.drew ?_; with_reducible assumption) | (with_reducible refine ba _ _ ?_; with_reducible assumption) | (with_reducible refine Below.drew ?_; with_reducible refine ba _ _ ?_; with_reducible assumption) | exact Below.refl _ _ | exact (Below.refl _ _).drew | exact (Below.refl _ _).alloc (Nat.le_refl _) _ | (refine bc _ _ (by assumption) (by assumption))))
    clear hK K
    refine RegOk.put_ (m' := 123) (by kernel_rfl) ?_
    try simp only [Act.put, List.setIfInBounds_toArray, List.set_cons_zero, List.set_cons_succ]
    refine hR.come (rs := [2]) (by kernel_rfl) (by simp) ?_
    refine AllReadyH.cons (o := ?o645_2) ?h645_2 (fun K hK => ?kw645_2) AllReadyH.nil
    case h645_2 => simp only [List.getElem?_toArray, List.getElem?_cons_succ, List.getElem?_cons_zero]; rfl
    go_simp <;> (try go_wp2_with fail)
    refine hK.out _ _ ?_ (fun hHeld => ?_)
    · (first | (repeat' (first | with_reducible assumption | with_reducible exact Gk.refl _ _ | with_reducible refine Gk.alloc ?_ _ | with_reducible refine Gk.drew ?_ | with_reducible refine Gk.set ?_ _ _ | with_reducible refine Gk.call ?_ (by with_reducible assumption))) | (first | with_reducible assumption | (with_reducible refine Below.drew ?_; with_reducible assumption) | (with_reducible refine ba _ _ ?_; with_reducible assumption) | (with_reducible refine Below.drew ?_; with_reducible refine ba _ _ ?_; with_reducible assumption) | exact Below.refl _ _ | exact (Below.refl _ _).drew | exact (Below.refl _ _).alloc (Nat.le_refl _) _ | (refine bc _ _ (by assumption) (by assumption))))
    clear hK K
    refine RegOk.put_ (m' := 127) (by kernel_rfl) ?_
    try simp only [Act.put, List.setIfInBounds_toArray, List.set_cons_zero, List.set_cons_succ]
    refine hR.take (i := 7) (oi := ?ow646_7) (v := ?vw646_7) (m' := 255) ?hw646_7 (by kernel_rfl) (by kernel_rfl) (fun _ _ _ h => h) (Or.inl ⟨?sw646_7, ?yw646_7⟩) (by assumption) ?nw646_7
    case hw646_7 => simp only [List.getElem?_toArray, List.getElem?_cons_succ, List.getElem?_cons_zero]; rfl
    case sw646_7 => rfl
    case yw646_7 => (intro w hSw; (try dsimp only at hSw); go_simp <;> with_reducible rfl)
    try simp only [Act.put, List.setIfInBounds_toArray, List.set_cons_zero, List.set_cons_succ]
    refine hR.take (i := 8) (oi := ?ow647_8) (v := ?vw647_8) (m' := 511) ?hw647_8 (by kernel_rfl) (by kernel_rfl) (fun _ _ _ h => h) (Or.inl ⟨?sw647_8, ?yw647_8⟩) (by assumption) ?nw647_8
    case hw647_8 => simp only [List.getElem?_toArray, List.getElem?_cons_succ, List.getElem?_cons_zero]; rfl
    case sw647_8 => rfl
    case yw647_8 => (intro w hSw; (try dsimp only at hSw); go_simp <;> with_reducible rfl)
    try simp only [Act.put, List.setIfInBounds_toArray, List.set_cons_zero, List.set_cons_succ]
    refine hR.come (rs := [9]) (by kernel_rfl) (by simp) ?_
    refine AllReadyH.cons (o := ?o648_9) ?h648_9 (fun K hK => ?kw648_9) AllReadyH.nil
    case h648_9 => simp only [List.getElem?_toArray, List.getElem?_cons_succ, List.getElem?_cons_zero]; rfl
    go_simp <;> (try go_wp2_with fail)
    refine hK.out _ _ ?_ (fun hHeld => ?_)
    · (first | (repeat' (first | with_reducible assumption | with_reducible exact Gk.refl _ _ | with_reducible refine Gk.alloc ?_ _ | with_reducible refine Gk.drew ?_ | with_reducible refine Gk.set ?_ _ _ | with_reducible refine Gk.call ?_ (by with_reducible assumption))) | (first | with_reducible assumption | (with_reducible refine Below.drew ?_; with_reducible assumption) | (with_reducible refine ba _ _ ?_; with_reducible assumption) | (with_reducible refine Below.drew ?_; with_reducible refine ba _ _ ?_; with_reducible assumption) | exact Below.refl _ _ | exact (Below.refl _ _).drew | exact (Below.refl _ _).alloc (Nat.le_refl _) _ | (refine bc _ _ (by assumption) (by assumption))))
    clear hK K
    refine RegOk.put_ (m' := 1023) (by kernel_rfl) ?_
    try simp only [Act.put, List.setIfInBounds_toArray, List.set_cons_zero, List.set_cons_succ]
    refine hR.all (by kernel_rfl) ?_ _
    refine NoPanic.normal ?_
    go_wp2_with fail
    go_end0
    exact ⟨rfl, (by repeat' (first | with_reducible exact HO1.out | with_reducible exact HO.out | with_reducible assumption | with_reducible refine i64_store ?_ _ | with_reducible refine Own.drew ?_ | with_reducible refine Own.call ?_ (by with_reducible assumption) | with_reducible refine Own.alloc ?_ _)), ((Gk.refl k w).call B0.out).trans (by (repeat' (first | with_reducible assumption | with_reducible exact Gk.refl _ _ | with_reducible refine Gk.alloc ?_ _ | with_reducible refine Gk.drew ?_ | with_reducible refine Gk.set ?_ _ _ | with_reducible refine Gk.call ?_ (by with_reducible assumption))))⟩
set_option maxHeartbeats 2000000 in
theorem add3 {q : Qy} {r : Rd} {A : Option Addr} {cc gs gq k n c base kk : Nat} {xs : List Int} (w : World) (hs : w.heap[gs]? = some (.cells #[(.slice (some ⟨k, 0, none⟩) n c)] 33 (0, 0))) (hq : w.heap[gq]? = some (.cells #[.int .i64 q.kind, .int .i64 q.col, .int .i64 q.k, .slice A q.fs.length cc] 24 (0, 0))) (ho : Own .i64 (fun _ => False) w base 2 (.slice (some ⟨k, 0, none⟩) n c) xs) (hn : 0 < n)
    (hsk : gs ≠ k) (hqk : gq ≠ k) (hc0 : 0 ≤ q.col) (hc3 : q.col ≤ 3) (hr : ValidR r) (hkk : q.k = kk) (hk6 : kk ≤ 6)
    (hx : 0 ≤ xs.getD 0 0 ∧ xs.getD 0 0 ≤ 274941996890625000) : Calls Tryz.prog 61 #[(.agg #[.int .i64 r.who, .int .i64 r.whn, .int .i64 r.knd, .int .i64 r.val]), .pointer (some ⟨gs, 0, none⟩), .pointer (some ⟨gq, 0, none⟩)] w (AddR w base k n c (xs.set 0 (xs.getD 0 0 + fldI r q.col ^ kk))) := by
  obtain ⟨x, hxx⟩ : ∃ x, xs.getD 0 0 = x := ⟨_, rfl⟩
  obtain ⟨y, hy⟩ : ∃ y, fldI r q.col = y := ⟨_, rfl⟩
  have hyb := fldI_255 hr q.col
  rw [hxx] at hx ⊢
  rw [hy] at hyb ⊢
  obtain ⟨z, hz⟩ : ∃ z, y ^ kk = z := ⟨_, rfl⟩
  have hzb := pow_le_6 hyb.1 hyb.2 hk6
  rw [hz] at hzb ⊢
  have HZ := Lib.hid hz
  have HXX := Lib.hid hxx
  have HY := Lib.hid hy
  have HO := Lib.hid ho
  obtain ⟨_, e, -, hk, hnl⟩ := ho.block hn
  injection e with e; injection e with e; subst e
  have ls := heap_lt hs
  have lq := heap_lt hq
  have HS := Lib.hid hs
  rw [hkk] at hq
  have HQ := Lib.hid hq
  have hw : IntKind.i64.wrap (x + z) = x + z := IntWalk.i64_in _ (by omega)
  have hn0 : (0 : Int) < (n : Int) := by omega
  have HNL := Lib.hid hnl
  clear ho hs hq hxx hy hnl hz hkk
  go_enter Tryz.func61, Tryz.ntmps61
  go_upto_region 1 with fail
  refine wp_world (F := fun wx => Below w.heap.size w wx ∧ Hid (wx.heap[w.heap.size]? = some (.cells #[.int .i64 r.who, .int .i64 r.whn, .int .i64 r.knd, .int .i64 r.val] 46 (0, 0)))) ⟨(by repeat' (first | with_reducible exact Below.refl _ _ | with_reducible assumption | with_reducible refine Below.setCell ?_ ?_ _ | with_reducible refine Below.drew ?_ | with_reducible refine below_drewN ?_ _ | with_reducible refine Below.alloc ?_ ?_ _ | (rintro _ ⟨⟩; simp <;> omega) | omega | (simp <;> omega))), Lib.hid (heap_alloc_at rfl)⟩ ?_
  rintro wr ⟨bb, gr⟩
  have B0 := Lib.hid bb
  have gs1 := mvQ HS bb
  have gq1 := mvQ HQ bb
  have HO1 := Lib.hid (HO.out.call bb)
  have hkr : k < wr.heap.size := Nat.lt_of_lt_of_le hk bb.size
  have v0 := i64_cell (k := 0) HO1.out (by have := HNL.out; omega)
  rw [HXX.out] at v0
  have fk := HO1.out.frozen 0
  have hrk : w.heap.size ≠ k := by omega
  have zs : ∀ W, Gk k wr W → W.cell? ⟨gs, 0, none⟩ = _ := fun W hW => (one (Lib.hid (hW.row gs1.out hsk))).1
  have zq : ∀ W, Gk k wr W → _ ∧ _ ∧ _ ∧ _ := fun W hW => row4 (Lib.hid (hW.row gq1.out hqk))
  have zr : ∀ W, Gk k wr W → _ ∧ _ ∧ _ ∧ _ := fun W hW => row4 (Lib.hid (hW.row gr.out hrk))
  have gr0 : Gk k wr wr := Gk.refl _ _
  clear bb gr
  refine wp_region_noPanic ?_
  refine wp_region_held_drew (S := fun X => Gk k wr X) (by kernel_rfl) ?_ (fun hHeld => ?_)
  · (first | (repeat' (first | with_reducible assumption | with_reducible exact Gk.refl _ _ | with_reducible refine Gk.alloc ?_ _ | with_reducible refine Gk.drew ?_ | with_reducible refine Gk.set ?_ _ _ | with_reducible refine Gk.call ?_ (by with_reducible assumption))) | (first | with_reducible assumption | (with_reducible refine Below.drew ?_; with_reducible assumption) | (with_reducible refine ba _ _ ?_; with_reducible assumption) | (with_reducible refine Below.drew ?_; with_reducible refine ba _ _ ?_; with_reducible assumption) | exact Below.refl _ _ | exact (Below.refl _ _).drew | exact (Below.refl _ _).alloc (Nat.le_refl _) _ | (refine bc _ _ (by assumption) (by assumption))))
  refine RegOk.begin_ (n := 13) (T := ev2C) ⟨by kernel_rfl, by kernel_rfl, by kernel_rfl, by kernel_rfl⟩ fun hR => ?_
  refine hR.take (i := 0) (oi := ?ow649_0) (v := ?vw649_0) (m' := 1) ?hw649_0 (by kernel_rfl) (by kernel_rfl) (fun _ _ _ h => h) (Or.inl ⟨?sw649_0, ?yw649_0⟩) (by assumption) ?nw649_0
  case hw649_0 => simp only [List.getElem?_toArray, List.getElem?_cons_succ, List.getElem?_cons_zero]; rfl
  case sw649_0 => rfl
  case yw649_0 => (intro w hSw; (try dsimp only at hSw); go_simp <;> with_reducible rfl)
  try simp only [Act.put, List.setIfInBounds_toArray, List.set_cons_zero, List.set_cons_succ]
  refine hR.take (i := 1) (oi := ?ow650_1) (v := ?vw650_1) (m' := 3) ?hw650_1 (by kernel_rfl) (by kernel_rfl) (fun _ _ _ h => h) (Or.inl ⟨?sw650_1, ?yw650_1⟩) (by assumption) ?nw650_1
  case hw650_1 => simp only [List.getElem?_toArray, List.getElem?_cons_succ, List.getElem?_cons_zero]; rfl
  case sw650_1 => rfl
  case yw650_1 => (intro w hSw; (try dsimp only at hSw); go_simp <;> with_reducible rfl)
  try simp only [Act.put, List.setIfInBounds_toArray, List.set_cons_zero, List.set_cons_succ]
  refine hR.take (i := 3) (oi := ?ow651_3) (v := ?vw651_3) (m' := 11) ?hw651_3 (by kernel_rfl) (by kernel_rfl) (fun _ _ _ h => h) (Or.inl ⟨?sw651_3, ?yw651_3⟩) (by assumption) ?nw651_3
  case hw651_3 => simp only [List.getElem?_toArray, List.getElem?_cons_succ, List.getElem?_cons_zero]; rfl
  case sw651_3 => rfl
  case yw651_3 => (intro w hSw; (try dsimp only at hSw); go_simp <;> with_reducible rfl)
  try simp only [Act.put, List.setIfInBounds_toArray, List.set_cons_zero, List.set_cons_succ]
  refine hR.take (i := 4) (oi := ?ow652_4) (v := ?vw652_4) (m' := 27) ?hw652_4 (by kernel_rfl) (by kernel_rfl) (fun _ _ _ h => h) (Or.inl ⟨?sw652_4, ?yw652_4⟩) (by assumption) ?nw652_4
  case hw652_4 => simp only [List.getElem?_toArray, List.getElem?_cons_succ, List.getElem?_cons_zero]; rfl
  case sw652_4 => rfl
  case yw652_4 => (intro w hSw; (try dsimp only at hSw); go_simp <;> with_reducible rfl)
  try simp only [Act.put, List.setIfInBounds_toArray, List.set_cons_zero, List.set_cons_succ]
  refine hR.take (i := 5) (oi := ?ow653_5) (v := ?vw653_5) (m' := 59) ?hw653_5 (by kernel_rfl) (by kernel_rfl) (fun _ _ _ h => h) (Or.inl ⟨?sw653_5, ?yw653_5⟩) (by assumption) ?nw653_5
  case hw653_5 => simp only [List.getElem?_toArray, List.getElem?_cons_succ, List.getElem?_cons_zero]; rfl
  case sw653_5 => rfl
  case yw653_5 => (intro w hSw; (try dsimp only at hSw); go_simp <;> with_reducible rfl)
  try simp only [Act.put, List.setIfInBounds_toArray, List.set_cons_zero, List.set_cons_succ]
  refine hR.take (i := 7) (oi := ?ow654_7) (v := ?vw654_7) (m' := 187) ?hw654_7 (by kernel_rfl) (by kernel_rfl) (fun _ _ _ h => h) (Or.inl ⟨?sw654_7, ?yw654_7⟩) (by assumption) ?nw654_7
  case hw654_7 => simp only [List.getElem?_toArray, List.getElem?_cons_succ, List.getElem?_cons_zero]; rfl
  case sw654_7 => rfl
  case yw654_7 => (intro w hSw; (try dsimp only at hSw); go_simp <;> with_reducible rfl)
  try simp only [Act.put, List.setIfInBounds_toArray, List.set_cons_zero, List.set_cons_succ]
  refine hR.take (i := 8) (oi := ?ow655_8) (v := ?vw655_8) (m' := 443) ?hw655_8 (by kernel_rfl) (by kernel_rfl) (fun _ _ _ h => h) (Or.inl ⟨?sw655_8, ?yw655_8⟩) (by assumption) ?nw655_8
  case hw655_8 => simp only [List.getElem?_toArray, List.getElem?_cons_succ, List.getElem?_cons_zero]; rfl
  case sw655_8 => rfl
  case yw655_8 => (intro w hSw; (try dsimp only at hSw); go_simp <;> with_reducible rfl)
  try simp only [Act.put, List.setIfInBounds_toArray, List.set_cons_zero, List.set_cons_succ]
  refine hR.come (rs := [2, 6]) (by kernel_rfl) (by simp) ?_
  refine AllReadyH.cons (o := ?o656_2) ?h656_2 (fun K hK => ?kw656_2) (AllReadyH.cons (o := ?o656_6) ?h656_6 (fun K hK => ?kw656_6) AllReadyH.nil)
  case h656_2 => simp only [List.getElem?_toArray, List.getElem?_cons_succ, List.getElem?_cons_zero]; rfl
  case h656_6 => simp only [List.getElem?_toArray, List.getElem?_cons_succ, List.getElem?_cons_zero]; rfl
  case kw656_2 =>
    go_simp <;> (try go_wp2_with fail)
    refine hK.out _ _ ?_ (fun hHeld => ?_)
    · (first | (repeat' (first | with_reducible assumption | with_reducible exact Gk.refl _ _ | with_reducible refine Gk.alloc ?_ _ | with_reducible refine Gk.drew ?_ | with_reducible refine Gk.set ?_ _ _ | with_reducible refine Gk.call ?_ (by with_reducible assumption))) | (first | with_reducible assumption | (with_reducible refine Below.drew ?_; with_reducible assumption) | (with_reducible refine ba _ _ ?_; with_reducible assumption) | (with_reducible refine Below.drew ?_; with_reducible refine ba _ _ ?_; with_reducible assumption) | exact Below.refl _ _ | exact (Below.refl _ _).drew | exact (Below.refl _ _).alloc (Nat.le_refl _) _ | (refine bc _ _ (by assumption) (by assumption))))
    clear hK K
    refine RegOk.put_ (m' := 447) (by kernel_rfl) ?_
    try simp only [Act.put, List.setIfInBounds_toArray, List.set_cons_zero, List.set_cons_succ]
    refine hR.come (rs := [6]) (by kernel_rfl) (by simp) ?_
    refine AllReadyH.cons (o := ?o657_6) ?h657_6 (fun K hK => ?kw657_6) AllReadyH.nil
    case h657_6 => simp only [List.getElem?_toArray, List.getElem?_cons_succ, List.getElem?_cons_zero]; rfl
    go_simp
    go_at_call 60; refine (columnE (r := r) _ hc0 hc3).mono ?_; rw [HY.out]; rintro e wC ⟨rfl, hC⟩; have HOC := Lib.hid (show Own .i64 (fun _ => False) wC base 2 (.slice (some ⟨k, 0, none⟩) n c) xs from (by repeat' (first | with_reducible exact HO1.out | with_reducible exact HO.out | with_reducible assumption | with_reducible refine i64_store ?_ _ | with_reducible refine Own.drew ?_ | with_reducible refine Own.call ?_ (by with_reducible assumption) | with_reducible refine Own.alloc ?_ _))); have v0C := i64_cell (k := 0) HOC.out (by have := HNL.out; omega); rw [HXX.out] at v0C; have fkC := HOC.out.frozen 0; have hkC := (HOC.out.lt k rfl).2
    refine hK.out _ _ ?_ (fun hHeld => ?_)
    · (first | (repeat' (first | with_reducible assumption | with_reducible exact Gk.refl _ _ | with_reducible refine Gk.alloc ?_ _ | with_reducible refine Gk.drew ?_ | with_reducible refine Gk.set ?_ _ _ | with_reducible refine Gk.call ?_ (by with_reducible assumption))) | (first | with_reducible assumption | (with_reducible refine Below.drew ?_; with_reducible assumption) | (with_reducible refine ba _ _ ?_; with_reducible assumption) | (with_reducible refine Below.drew ?_; with_reducible refine ba _ _ ?_; with_reducible assumption) | exact Below.refl _ _ | exact (Below.refl _ _).drew | exact (Below.refl _ _).alloc (Nat.le_refl _) _ | (refine bc _ _ (by assumption) (by assumption))))
    clear hK K
    refine RegOk.put_ (m' := 511) (by kernel_rfl) ?_
    try simp only [Act.put, List.setIfInBounds_toArray, List.set_cons_zero, List.set_cons_succ]
    refine hR.come (rs := [9]) (by kernel_rfl) (by simp) ?_
    refine AllReadyH.cons (o := ?o658_9) ?h658_9 (fun K hK => ?kw658_9) AllReadyH.nil
    case h658_9 => simp only [List.getElem?_toArray, List.getElem?_cons_succ, List.getElem?_cons_zero]; rfl
    go_simp
    go_at_call 62; refine (powerE _ hyb.1 hyb.2 hk6).mono ?_; rw [HZ.out]; rintro e wP ⟨rfl, rfl⟩
    refine hK.out _ _ ?_ (fun hHeld => ?_)
    · (first | (repeat' (first | with_reducible assumption | with_reducible exact Gk.refl _ _ | with_reducible refine Gk.alloc ?_ _ | with_reducible refine Gk.drew ?_ | with_reducible refine Gk.set ?_ _ _ | with_reducible refine Gk.call ?_ (by with_reducible assumption))) | (first | with_reducible assumption | (with_reducible refine Below.drew ?_; with_reducible assumption) | (with_reducible refine ba _ _ ?_; with_reducible assumption) | (with_reducible refine Below.drew ?_; with_reducible refine ba _ _ ?_; with_reducible assumption) | exact Below.refl _ _ | exact (Below.refl _ _).drew | exact (Below.refl _ _).alloc (Nat.le_refl _) _ | (refine bc _ _ (by assumption) (by assumption))))
    clear hK K
    refine RegOk.put_ (m' := 1023) (by kernel_rfl) ?_
    try simp only [Act.put, List.setIfInBounds_toArray, List.set_cons_zero, List.set_cons_succ]
    refine hR.take (i := 10) (oi := ?ow659_10) (v := ?vw659_10) (m' := 2047) ?hw659_10 (by kernel_rfl) (by kernel_rfl) (fun _ _ _ h => h) (Or.inl ⟨?sw659_10, ?yw659_10⟩) (by assumption) ?nw659_10
    case hw659_10 => simp only [List.getElem?_toArray, List.getElem?_cons_succ, List.getElem?_cons_zero]; rfl
    case sw659_10 => rfl
    case yw659_10 => (intro w hSw; (try dsimp only at hSw); go_simp <;> with_reducible rfl)
    try simp only [Act.put, List.setIfInBounds_toArray, List.set_cons_zero, List.set_cons_succ]
    refine hR.take (i := 11) (oi := ?ow660_11) (v := ?vw660_11) (m' := 4095) ?hw660_11 (by kernel_rfl) (by kernel_rfl) (fun _ _ _ h => h) (Or.inl ⟨?sw660_11, ?yw660_11⟩) (by assumption) ?nw660_11
    case hw660_11 => simp only [List.getElem?_toArray, List.getElem?_cons_succ, List.getElem?_cons_zero]; rfl
    case sw660_11 => rfl
    case yw660_11 => (intro w hSw; (try dsimp only at hSw); go_simp <;> with_reducible rfl)
    try simp only [Act.put, List.setIfInBounds_toArray, List.set_cons_zero, List.set_cons_succ]
    refine hR.come (rs := [12]) (by kernel_rfl) (by simp) ?_
    refine AllReadyH.cons (o := ?o661_12) ?h661_12 (fun K hK => ?kw661_12) AllReadyH.nil
    case h661_12 => simp only [List.getElem?_toArray, List.getElem?_cons_succ, List.getElem?_cons_zero]; rfl
    go_simp <;> (try go_wp2_with fail)
    refine hK.out _ _ ?_ (fun hHeld => ?_)
    · (first | (repeat' (first | with_reducible assumption | with_reducible exact Gk.refl _ _ | with_reducible refine Gk.alloc ?_ _ | with_reducible refine Gk.drew ?_ | with_reducible refine Gk.set ?_ _ _ | with_reducible refine Gk.call ?_ (by with_reducible assumption))) | (first | with_reducible assumption | (with_reducible refine Below.drew ?_; with_reducible assumption) | (with_reducible refine ba _ _ ?_; with_reducible assumption) | (with_reducible refine Below.drew ?_; with_reducible refine ba _ _ ?_; with_reducible assumption) | exact Below.refl _ _ | exact (Below.refl _ _).drew | exact (Below.refl _ _).alloc (Nat.le_refl _) _ | (refine bc _ _ (by assumption) (by assumption))))
    clear hK K
    refine RegOk.put_ (m' := 8191) (by kernel_rfl) ?_
    try simp only [Act.put, List.setIfInBounds_toArray, List.set_cons_zero, List.set_cons_succ]
    refine hR.all (by kernel_rfl) ?_ _
    refine NoPanic.normal ?_
    go_wp2_with fail
    go_end0
    exact ⟨rfl, (by repeat' (first | with_reducible exact HO1.out | with_reducible exact HO.out | with_reducible assumption | with_reducible refine i64_store ?_ _ | with_reducible refine Own.drew ?_ | with_reducible refine Own.call ?_ (by with_reducible assumption) | with_reducible refine Own.alloc ?_ _)), ((Gk.refl k w).call B0.out).trans (by (repeat' (first | with_reducible assumption | with_reducible exact Gk.refl _ _ | with_reducible refine Gk.alloc ?_ _ | with_reducible refine Gk.drew ?_ | with_reducible refine Gk.set ?_ _ _ | with_reducible refine Gk.call ?_ (by with_reducible assumption))))⟩
  case kw656_6 =>
    go_simp
    go_at_call 60; refine (columnE (r := r) _ hc0 hc3).mono ?_; rw [HY.out]; rintro e wC ⟨rfl, hC⟩; have HOC := Lib.hid (show Own .i64 (fun _ => False) wC base 2 (.slice (some ⟨k, 0, none⟩) n c) xs from (by repeat' (first | with_reducible exact HO1.out | with_reducible exact HO.out | with_reducible assumption | with_reducible refine i64_store ?_ _ | with_reducible refine Own.drew ?_ | with_reducible refine Own.call ?_ (by with_reducible assumption) | with_reducible refine Own.alloc ?_ _))); have v0C := i64_cell (k := 0) HOC.out (by have := HNL.out; omega); rw [HXX.out] at v0C; have fkC := HOC.out.frozen 0; have hkC := (HOC.out.lt k rfl).2
    refine hK.out _ _ ?_ (fun hHeld => ?_)
    · (first | (repeat' (first | with_reducible assumption | with_reducible exact Gk.refl _ _ | with_reducible refine Gk.alloc ?_ _ | with_reducible refine Gk.drew ?_ | with_reducible refine Gk.set ?_ _ _ | with_reducible refine Gk.call ?_ (by with_reducible assumption))) | (first | with_reducible assumption | (with_reducible refine Below.drew ?_; with_reducible assumption) | (with_reducible refine ba _ _ ?_; with_reducible assumption) | (with_reducible refine Below.drew ?_; with_reducible refine ba _ _ ?_; with_reducible assumption) | exact Below.refl _ _ | exact (Below.refl _ _).drew | exact (Below.refl _ _).alloc (Nat.le_refl _) _ | (refine bc _ _ (by assumption) (by assumption))))
    clear hK K
    refine RegOk.put_ (m' := 507) (by kernel_rfl) ?_
    try simp only [Act.put, List.setIfInBounds_toArray, List.set_cons_zero, List.set_cons_succ]
    refine hR.come (rs := [2, 9]) (by kernel_rfl) (by simp) ?_
    refine AllReadyH.cons (o := ?o662_2) ?h662_2 (fun K hK => ?kw662_2) (AllReadyH.cons (o := ?o662_9) ?h662_9 (fun K hK => ?kw662_9) AllReadyH.nil)
    case h662_2 => simp only [List.getElem?_toArray, List.getElem?_cons_succ, List.getElem?_cons_zero]; rfl
    case h662_9 => simp only [List.getElem?_toArray, List.getElem?_cons_succ, List.getElem?_cons_zero]; rfl
    case kw662_2 =>
      go_simp <;> (try go_wp2_with fail)
      refine hK.out _ _ ?_ (fun hHeld => ?_)
      · (first | (repeat' (first | with_reducible assumption | with_reducible exact Gk.refl _ _ | with_reducible refine Gk.alloc ?_ _ | with_reducible refine Gk.drew ?_ | with_reducible refine Gk.set ?_ _ _ | with_reducible refine Gk.call ?_ (by with_reducible assumption))) | (first | with_reducible assumption | (with_reducible refine Below.drew ?_; with_reducible assumption) | (with_reducible refine ba _ _ ?_; with_reducible assumption) | (with_reducible refine Below.drew ?_; with_reducible refine ba _ _ ?_; with_reducible assumption) | exact Below.refl _ _ | exact (Below.refl _ _).drew | exact (Below.refl _ _).alloc (Nat.le_refl _) _ | (refine bc _ _ (by assumption) (by assumption))))
      clear hK K
      refine RegOk.put_ (m' := 511) (by kernel_rfl) ?_
      try simp only [Act.put, List.setIfInBounds_toArray, List.set_cons_zero, List.set_cons_succ]
      refine hR.come (rs := [9]) (by kernel_rfl) (by simp) ?_
      refine AllReadyH.cons (o := ?o663_9) ?h663_9 (fun K hK => ?kw663_9) AllReadyH.nil
      case h663_9 => simp only [List.getElem?_toArray, List.getElem?_cons_succ, List.getElem?_cons_zero]; rfl
      go_simp
      go_at_call 62; refine (powerE _ hyb.1 hyb.2 hk6).mono ?_; rw [HZ.out]; rintro e wP ⟨rfl, rfl⟩
      refine hK.out _ _ ?_ (fun hHeld => ?_)
      · (first | (repeat' (first | with_reducible assumption | with_reducible exact Gk.refl _ _ | with_reducible refine Gk.alloc ?_ _ | with_reducible refine Gk.drew ?_ | with_reducible refine Gk.set ?_ _ _ | with_reducible refine Gk.call ?_ (by with_reducible assumption))) | (first | with_reducible assumption | (with_reducible refine Below.drew ?_; with_reducible assumption) | (with_reducible refine ba _ _ ?_; with_reducible assumption) | (with_reducible refine Below.drew ?_; with_reducible refine ba _ _ ?_; with_reducible assumption) | exact Below.refl _ _ | exact (Below.refl _ _).drew | exact (Below.refl _ _).alloc (Nat.le_refl _) _ | (refine bc _ _ (by assumption) (by assumption))))
      clear hK K
      refine RegOk.put_ (m' := 1023) (by kernel_rfl) ?_
      try simp only [Act.put, List.setIfInBounds_toArray, List.set_cons_zero, List.set_cons_succ]
      refine hR.take (i := 10) (oi := ?ow664_10) (v := ?vw664_10) (m' := 2047) ?hw664_10 (by kernel_rfl) (by kernel_rfl) (fun _ _ _ h => h) (Or.inl ⟨?sw664_10, ?yw664_10⟩) (by assumption) ?nw664_10
      case hw664_10 => simp only [List.getElem?_toArray, List.getElem?_cons_succ, List.getElem?_cons_zero]; rfl
      case sw664_10 => rfl
      case yw664_10 => (intro w hSw; (try dsimp only at hSw); go_simp <;> with_reducible rfl)
      try simp only [Act.put, List.setIfInBounds_toArray, List.set_cons_zero, List.set_cons_succ]
      refine hR.take (i := 11) (oi := ?ow665_11) (v := ?vw665_11) (m' := 4095) ?hw665_11 (by kernel_rfl) (by kernel_rfl) (fun _ _ _ h => h) (Or.inl ⟨?sw665_11, ?yw665_11⟩) (by assumption) ?nw665_11
      case hw665_11 => simp only [List.getElem?_toArray, List.getElem?_cons_succ, List.getElem?_cons_zero]; rfl
      case sw665_11 => rfl
      case yw665_11 => (intro w hSw; (try dsimp only at hSw); go_simp <;> with_reducible rfl)
      try simp only [Act.put, List.setIfInBounds_toArray, List.set_cons_zero, List.set_cons_succ]
      refine hR.come (rs := [12]) (by kernel_rfl) (by simp) ?_
      refine AllReadyH.cons (o := ?o666_12) ?h666_12 (fun K hK => ?kw666_12) AllReadyH.nil
      case h666_12 => simp only [List.getElem?_toArray, List.getElem?_cons_succ, List.getElem?_cons_zero]; rfl
      go_simp <;> (try go_wp2_with fail)
      refine hK.out _ _ ?_ (fun hHeld => ?_)
      · (first | (repeat' (first | with_reducible assumption | with_reducible exact Gk.refl _ _ | with_reducible refine Gk.alloc ?_ _ | with_reducible refine Gk.drew ?_ | with_reducible refine Gk.set ?_ _ _ | with_reducible refine Gk.call ?_ (by with_reducible assumption))) | (first | with_reducible assumption | (with_reducible refine Below.drew ?_; with_reducible assumption) | (with_reducible refine ba _ _ ?_; with_reducible assumption) | (with_reducible refine Below.drew ?_; with_reducible refine ba _ _ ?_; with_reducible assumption) | exact Below.refl _ _ | exact (Below.refl _ _).drew | exact (Below.refl _ _).alloc (Nat.le_refl _) _ | (refine bc _ _ (by assumption) (by assumption))))
      clear hK K
      refine RegOk.put_ (m' := 8191) (by kernel_rfl) ?_
      try simp only [Act.put, List.setIfInBounds_toArray, List.set_cons_zero, List.set_cons_succ]
      refine hR.all (by kernel_rfl) ?_ _
      refine NoPanic.normal ?_
      go_wp2_with fail
      go_end0
      exact ⟨rfl, (by repeat' (first | with_reducible exact HO1.out | with_reducible exact HO.out | with_reducible assumption | with_reducible refine i64_store ?_ _ | with_reducible refine Own.drew ?_ | with_reducible refine Own.call ?_ (by with_reducible assumption) | with_reducible refine Own.alloc ?_ _)), ((Gk.refl k w).call B0.out).trans (by (repeat' (first | with_reducible assumption | with_reducible exact Gk.refl _ _ | with_reducible refine Gk.alloc ?_ _ | with_reducible refine Gk.drew ?_ | with_reducible refine Gk.set ?_ _ _ | with_reducible refine Gk.call ?_ (by with_reducible assumption))))⟩
    case kw662_9 =>
      go_simp
      go_at_call 62; refine (powerE _ hyb.1 hyb.2 hk6).mono ?_; rw [HZ.out]; rintro e wP ⟨rfl, rfl⟩
      refine hK.out _ _ ?_ (fun hHeld => ?_)
      · (first | (repeat' (first | with_reducible assumption | with_reducible exact Gk.refl _ _ | with_reducible refine Gk.alloc ?_ _ | with_reducible refine Gk.drew ?_ | with_reducible refine Gk.set ?_ _ _ | with_reducible refine Gk.call ?_ (by with_reducible assumption))) | (first | with_reducible assumption | (with_reducible refine Below.drew ?_; with_reducible assumption) | (with_reducible refine ba _ _ ?_; with_reducible assumption) | (with_reducible refine Below.drew ?_; with_reducible refine ba _ _ ?_; with_reducible assumption) | exact Below.refl _ _ | exact (Below.refl _ _).drew | exact (Below.refl _ _).alloc (Nat.le_refl _) _ | (refine bc _ _ (by assumption) (by assumption))))
      clear hK K
      refine RegOk.put_ (m' := 1019) (by kernel_rfl) ?_
      try simp only [Act.put, List.setIfInBounds_toArray, List.set_cons_zero, List.set_cons_succ]
      refine hR.come (rs := [2]) (by kernel_rfl) (by simp) ?_
      refine AllReadyH.cons (o := ?o667_2) ?h667_2 (fun K hK => ?kw667_2) AllReadyH.nil
      case h667_2 => simp only [List.getElem?_toArray, List.getElem?_cons_succ, List.getElem?_cons_zero]; rfl
      go_simp <;> (try go_wp2_with fail)
      refine hK.out _ _ ?_ (fun hHeld => ?_)
      · (first | (repeat' (first | with_reducible assumption | with_reducible exact Gk.refl _ _ | with_reducible refine Gk.alloc ?_ _ | with_reducible refine Gk.drew ?_ | with_reducible refine Gk.set ?_ _ _ | with_reducible refine Gk.call ?_ (by with_reducible assumption))) | (first | with_reducible assumption | (with_reducible refine Below.drew ?_; with_reducible assumption) | (with_reducible refine ba _ _ ?_; with_reducible assumption) | (with_reducible refine Below.drew ?_; with_reducible refine ba _ _ ?_; with_reducible assumption) | exact Below.refl _ _ | exact (Below.refl _ _).drew | exact (Below.refl _ _).alloc (Nat.le_refl _) _ | (refine bc _ _ (by assumption) (by assumption))))
      clear hK K
      refine RegOk.put_ (m' := 1023) (by kernel_rfl) ?_
      try simp only [Act.put, List.setIfInBounds_toArray, List.set_cons_zero, List.set_cons_succ]
      refine hR.take (i := 10) (oi := ?ow668_10) (v := ?vw668_10) (m' := 2047) ?hw668_10 (by kernel_rfl) (by kernel_rfl) (fun _ _ _ h => h) (Or.inl ⟨?sw668_10, ?yw668_10⟩) (by assumption) ?nw668_10
      case hw668_10 => simp only [List.getElem?_toArray, List.getElem?_cons_succ, List.getElem?_cons_zero]; rfl
      case sw668_10 => rfl
      case yw668_10 => (intro w hSw; (try dsimp only at hSw); go_simp <;> with_reducible rfl)
      try simp only [Act.put, List.setIfInBounds_toArray, List.set_cons_zero, List.set_cons_succ]
      refine hR.take (i := 11) (oi := ?ow669_11) (v := ?vw669_11) (m' := 4095) ?hw669_11 (by kernel_rfl) (by kernel_rfl) (fun _ _ _ h => h) (Or.inl ⟨?sw669_11, ?yw669_11⟩) (by assumption) ?nw669_11
      case hw669_11 => simp only [List.getElem?_toArray, List.getElem?_cons_succ, List.getElem?_cons_zero]; rfl
      case sw669_11 => rfl
      case yw669_11 => (intro w hSw; (try dsimp only at hSw); go_simp <;> with_reducible rfl)
      try simp only [Act.put, List.setIfInBounds_toArray, List.set_cons_zero, List.set_cons_succ]
      refine hR.come (rs := [12]) (by kernel_rfl) (by simp) ?_
      refine AllReadyH.cons (o := ?o670_12) ?h670_12 (fun K hK => ?kw670_12) AllReadyH.nil
      case h670_12 => simp only [List.getElem?_toArray, List.getElem?_cons_succ, List.getElem?_cons_zero]; rfl
      go_simp <;> (try go_wp2_with fail)
      refine hK.out _ _ ?_ (fun hHeld => ?_)
      · (first | (repeat' (first | with_reducible assumption | with_reducible exact Gk.refl _ _ | with_reducible refine Gk.alloc ?_ _ | with_reducible refine Gk.drew ?_ | with_reducible refine Gk.set ?_ _ _ | with_reducible refine Gk.call ?_ (by with_reducible assumption))) | (first | with_reducible assumption | (with_reducible refine Below.drew ?_; with_reducible assumption) | (with_reducible refine ba _ _ ?_; with_reducible assumption) | (with_reducible refine Below.drew ?_; with_reducible refine ba _ _ ?_; with_reducible assumption) | exact Below.refl _ _ | exact (Below.refl _ _).drew | exact (Below.refl _ _).alloc (Nat.le_refl _) _ | (refine bc _ _ (by assumption) (by assumption))))
      clear hK K
      refine RegOk.put_ (m' := 8191) (by kernel_rfl) ?_
      try simp only [Act.put, List.setIfInBounds_toArray, List.set_cons_zero, List.set_cons_succ]
      refine hR.all (by kernel_rfl) ?_ _
      refine NoPanic.normal ?_
      go_wp2_with fail
      go_end0
      exact ⟨rfl, (by repeat' (first | with_reducible exact HO1.out | with_reducible exact HO.out | with_reducible assumption | with_reducible refine i64_store ?_ _ | with_reducible refine Own.drew ?_ | with_reducible refine Own.call ?_ (by with_reducible assumption) | with_reducible refine Own.alloc ?_ _)), ((Gk.refl k w).call B0.out).trans (by (repeat' (first | with_reducible assumption | with_reducible exact Gk.refl _ _ | with_reducible refine Gk.alloc ?_ _ | with_reducible refine Gk.drew ?_ | with_reducible refine Gk.set ?_ _ _ | with_reducible refine Gk.call ?_ (by with_reducible assumption))))⟩
set_option maxHeartbeats 2000000 in
theorem add5 {q : Qy} {r : Rd} {A : Option Addr} {cc gs gq k n c base j : Nat} {xs : List Int} (w : World) (hs : w.heap[gs]? = some (.cells #[(.slice (some ⟨k, 0, none⟩) n c)] 33 (0, 0))) (hq : w.heap[gq]? = some (.cells #[.int .i64 q.kind, .int .i64 q.col, .int .i64 q.k, .slice A q.fs.length cc] 24 (0, 0))) (ho : Own .i64 (fun _ => False) w base 2 (.slice (some ⟨k, 0, none⟩) n c) xs) (hn : j < n)
    (hsk : gs ≠ k) (hqk : gq ≠ k) (hc0 : 0 ≤ q.col) (hc3 : q.col ≤ 3) (hj : fldI r q.col = j)
    (hx : 0 ≤ xs.getD j 0 ∧ xs.getD j 0 ≤ 274941996890625000) : Calls Tryz.prog 64 #[(.agg #[.int .i64 r.who, .int .i64 r.whn, .int .i64 r.knd, .int .i64 r.val]), .pointer (some ⟨gs, 0, none⟩), .pointer (some ⟨gq, 0, none⟩)] w (AddR w base k n c (xs.set j (xs.getD j 0 + 1))) := by
  obtain ⟨x, hxx⟩ : ∃ x, xs.getD j 0 = x := ⟨_, rfl⟩
  rw [hxx] at hx ⊢
  have HXX := Lib.hid hxx
  have HY := Lib.hid hj
  have HO := Lib.hid ho
  obtain ⟨_, e, -, hk, hnl⟩ := ho.block (by omega)
  injection e with e; injection e with e; subst e
  have ls := heap_lt hs
  have lq := heap_lt hq
  have HS := Lib.hid hs
  have HQ := Lib.hid hq
  have hw : IntKind.i64.wrap (x + 1) = x + 1 := IntWalk.i64_in _ (by omega)
  have hn0 : (j : Int) < (n : Int) := by omega
  have hj0 : (0 : Int) ≤ (j : Int) := by omega
  have HNL := Lib.hid hnl
  clear ho hs hq hxx hnl hj
  go_enter Tryz.func64, Tryz.ntmps64
  go_upto_region 1 with fail
  refine wp_world (F := fun wx => Below w.heap.size w wx ∧ Hid (wx.heap[w.heap.size]? = some (.cells #[.int .i64 r.who, .int .i64 r.whn, .int .i64 r.knd, .int .i64 r.val] 46 (0, 0)))) ⟨(by repeat' (first | with_reducible exact Below.refl _ _ | with_reducible assumption | with_reducible refine Below.setCell ?_ ?_ _ | with_reducible refine Below.drew ?_ | with_reducible refine below_drewN ?_ _ | with_reducible refine Below.alloc ?_ ?_ _ | (rintro _ ⟨⟩; simp <;> omega) | omega | (simp <;> omega))), Lib.hid (heap_alloc_at rfl)⟩ ?_
  rintro wr ⟨bb, gr⟩
  have B0 := Lib.hid bb
  have gs1 := mvQ HS bb
  have gq1 := mvQ HQ bb
  have HO1 := Lib.hid (HO.out.call bb)
  have hkr : k < wr.heap.size := Nat.lt_of_lt_of_le hk bb.size
  have v0 := i64_cell (k := j) HO1.out (by have := HNL.out; omega)
  rw [HXX.out] at v0
  have fk := HO1.out.frozen j
  have hrk : w.heap.size ≠ k := by omega
  have zs : ∀ W, Gk k wr W → W.cell? ⟨gs, 0, none⟩ = _ := fun W hW => (one (Lib.hid (hW.row gs1.out hsk))).1
  have zq : ∀ W, Gk k wr W → _ ∧ _ ∧ _ ∧ _ := fun W hW => row4 (Lib.hid (hW.row gq1.out hqk))
  have zr : ∀ W, Gk k wr W → _ ∧ _ ∧ _ ∧ _ := fun W hW => row4 (Lib.hid (hW.row gr.out hrk))
  have gr0 : Gk k wr wr := Gk.refl _ _
  clear bb gr
  refine wp_region_noPanic ?_
  refine wp_region_held_drew (S := fun X => Gk k wr X) (by kernel_rfl) ?_ (fun hHeld => ?_)
  · (first | (repeat' (first | with_reducible assumption | with_reducible exact Gk.refl _ _ | with_reducible refine Gk.alloc ?_ _ | with_reducible refine Gk.drew ?_ | with_reducible refine Gk.set ?_ _ _ | with_reducible refine Gk.call ?_ (by with_reducible assumption))) | (first | with_reducible assumption | (with_reducible refine Below.drew ?_; with_reducible assumption) | (with_reducible refine ba _ _ ?_; with_reducible assumption) | (with_reducible refine Below.drew ?_; with_reducible refine ba _ _ ?_; with_reducible assumption) | exact Below.refl _ _ | exact (Below.refl _ _).drew | exact (Below.refl _ _).alloc (Nat.le_refl _) _ | (refine bc _ _ (by assumption) (by assumption))))
  refine RegOk.begin_ (n := 10) (T := ev2E) ⟨by kernel_rfl, by kernel_rfl, by kernel_rfl, by kernel_rfl⟩ fun hR => ?_
  refine hR.take (i := 0) (oi := ?ow671_0) (v := ?vw671_0) (m' := 1) ?hw671_0 (by kernel_rfl) (by kernel_rfl) (fun _ _ _ h => h) (Or.inl ⟨?sw671_0, ?yw671_0⟩) (by assumption) ?nw671_0
  case hw671_0 => simp only [List.getElem?_toArray, List.getElem?_cons_succ, List.getElem?_cons_zero]; rfl
  case sw671_0 => rfl
  case yw671_0 => (intro w hSw; (try dsimp only at hSw); go_simp <;> with_reducible rfl)
  try simp only [Act.put, List.setIfInBounds_toArray, List.set_cons_zero, List.set_cons_succ]
  refine hR.take (i := 1) (oi := ?ow672_1) (v := ?vw672_1) (m' := 3) ?hw672_1 (by kernel_rfl) (by kernel_rfl) (fun _ _ _ h => h) (Or.inl ⟨?sw672_1, ?yw672_1⟩) (by assumption) ?nw672_1
  case hw672_1 => simp only [List.getElem?_toArray, List.getElem?_cons_succ, List.getElem?_cons_zero]; rfl
  case sw672_1 => rfl
  case yw672_1 => (intro w hSw; (try dsimp only at hSw); go_simp <;> with_reducible rfl)
  try simp only [Act.put, List.setIfInBounds_toArray, List.set_cons_zero, List.set_cons_succ]
  refine hR.take (i := 2) (oi := ?ow673_2) (v := ?vw673_2) (m' := 7) ?hw673_2 (by kernel_rfl) (by kernel_rfl) (fun _ _ _ h => h) (Or.inl ⟨?sw673_2, ?yw673_2⟩) (by assumption) ?nw673_2
  case hw673_2 => simp only [List.getElem?_toArray, List.getElem?_cons_succ, List.getElem?_cons_zero]; rfl
  case sw673_2 => rfl
  case yw673_2 => (intro w hSw; (try dsimp only at hSw); go_simp <;> with_reducible rfl)
  try simp only [Act.put, List.setIfInBounds_toArray, List.set_cons_zero, List.set_cons_succ]
  refine hR.take (i := 3) (oi := ?ow674_3) (v := ?vw674_3) (m' := 15) ?hw674_3 (by kernel_rfl) (by kernel_rfl) (fun _ _ _ h => h) (Or.inl ⟨?sw674_3, ?yw674_3⟩) (by assumption) ?nw674_3
  case hw674_3 => simp only [List.getElem?_toArray, List.getElem?_cons_succ, List.getElem?_cons_zero]; rfl
  case sw674_3 => rfl
  case yw674_3 => (intro w hSw; (try dsimp only at hSw); go_simp <;> with_reducible rfl)
  try simp only [Act.put, List.setIfInBounds_toArray, List.set_cons_zero, List.set_cons_succ]
  refine hR.come (rs := [4]) (by kernel_rfl) (by simp) ?_
  refine AllReadyH.cons (o := ?o675_4) ?h675_4 (fun K hK => ?kw675_4) AllReadyH.nil
  case h675_4 => simp only [List.getElem?_toArray, List.getElem?_cons_succ, List.getElem?_cons_zero]; rfl
  go_simp
  go_at_call 60; refine (columnE (r := r) _ hc0 hc3).mono ?_; rw [HY.out]; rintro e wC ⟨rfl, hC⟩; have HOC := Lib.hid (show Own .i64 (fun _ => False) wC base 2 (.slice (some ⟨k, 0, none⟩) n c) xs from (by repeat' (first | with_reducible exact HO1.out | with_reducible exact HO.out | with_reducible assumption | with_reducible refine i64_store ?_ _ | with_reducible refine Own.drew ?_ | with_reducible refine Own.call ?_ (by with_reducible assumption) | with_reducible refine Own.alloc ?_ _))); have v0C := i64_cell (k := j) HOC.out (by have := HNL.out; omega); rw [HXX.out] at v0C; have fkC := HOC.out.frozen j; have hkC := (HOC.out.lt k rfl).2
  refine hK.out _ _ ?_ (fun hHeld => ?_)
  · (first | (repeat' (first | with_reducible assumption | with_reducible exact Gk.refl _ _ | with_reducible refine Gk.alloc ?_ _ | with_reducible refine Gk.drew ?_ | with_reducible refine Gk.set ?_ _ _ | with_reducible refine Gk.call ?_ (by with_reducible assumption))) | (first | with_reducible assumption | (with_reducible refine Below.drew ?_; with_reducible assumption) | (with_reducible refine ba _ _ ?_; with_reducible assumption) | (with_reducible refine Below.drew ?_; with_reducible refine ba _ _ ?_; with_reducible assumption) | exact Below.refl _ _ | exact (Below.refl _ _).drew | exact (Below.refl _ _).alloc (Nat.le_refl _) _ | (refine bc _ _ (by assumption) (by assumption))))
  clear hK K
  refine RegOk.put_ (m' := 31) (by kernel_rfl) ?_
  try simp only [Act.put, List.setIfInBounds_toArray, List.set_cons_zero, List.set_cons_succ]
  refine hR.take (i := 5) (oi := ?ow676_5) (v := ?vw676_5) (m' := 63) ?hw676_5 (by kernel_rfl) (by kernel_rfl) (fun _ _ _ h => h) (Or.inl ⟨?sw676_5, ?yw676_5⟩) (by assumption) ?nw676_5
  case hw676_5 => simp only [List.getElem?_toArray, List.getElem?_cons_succ, List.getElem?_cons_zero]; rfl
  case sw676_5 => rfl
  case yw676_5 => (intro w hSw; (try dsimp only at hSw); go_simp <;> with_reducible rfl)
  try simp only [Act.put, List.setIfInBounds_toArray, List.set_cons_zero, List.set_cons_succ]
  refine hR.come (rs := [6]) (by kernel_rfl) (by simp) ?_
  refine AllReadyH.cons (o := ?o677_6) ?h677_6 (fun K hK => ?kw677_6) AllReadyH.nil
  case h677_6 => simp only [List.getElem?_toArray, List.getElem?_cons_succ, List.getElem?_cons_zero]; rfl
  go_simp <;> (try go_wp2_with fail)
  refine hK.out _ _ ?_ (fun hHeld => ?_)
  · (first | (repeat' (first | with_reducible assumption | with_reducible exact Gk.refl _ _ | with_reducible refine Gk.alloc ?_ _ | with_reducible refine Gk.drew ?_ | with_reducible refine Gk.set ?_ _ _ | with_reducible refine Gk.call ?_ (by with_reducible assumption))) | (first | with_reducible assumption | (with_reducible refine Below.drew ?_; with_reducible assumption) | (with_reducible refine ba _ _ ?_; with_reducible assumption) | (with_reducible refine Below.drew ?_; with_reducible refine ba _ _ ?_; with_reducible assumption) | exact Below.refl _ _ | exact (Below.refl _ _).drew | exact (Below.refl _ _).alloc (Nat.le_refl _) _ | (refine bc _ _ (by assumption) (by assumption))))
  clear hK K
  refine RegOk.put_ (m' := 127) (by kernel_rfl) ?_
  try simp only [Act.put, List.setIfInBounds_toArray, List.set_cons_zero, List.set_cons_succ]
  refine hR.take (i := 7) (oi := ?ow678_7) (v := ?vw678_7) (m' := 255) ?hw678_7 (by kernel_rfl) (by kernel_rfl) (fun _ _ _ h => h) (Or.inl ⟨?sw678_7, ?yw678_7⟩) (by assumption) ?nw678_7
  case hw678_7 => simp only [List.getElem?_toArray, List.getElem?_cons_succ, List.getElem?_cons_zero]; rfl
  case sw678_7 => rfl
  case yw678_7 => (intro w hSw; (try dsimp only at hSw); go_simp <;> with_reducible rfl)
  try simp only [Act.put, List.setIfInBounds_toArray, List.set_cons_zero, List.set_cons_succ]
  refine hR.take (i := 8) (oi := ?ow679_8) (v := ?vw679_8) (m' := 511) ?hw679_8 (by kernel_rfl) (by kernel_rfl) (fun _ _ _ h => h) (Or.inl ⟨?sw679_8, ?yw679_8⟩) (by assumption) ?nw679_8
  case hw679_8 => simp only [List.getElem?_toArray, List.getElem?_cons_succ, List.getElem?_cons_zero]; rfl
  case sw679_8 => rfl
  case yw679_8 => (intro w hSw; (try dsimp only at hSw); go_simp <;> with_reducible rfl)
  try simp only [Act.put, List.setIfInBounds_toArray, List.set_cons_zero, List.set_cons_succ]
  refine hR.come (rs := [9]) (by kernel_rfl) (by simp) ?_
  refine AllReadyH.cons (o := ?o680_9) ?h680_9 (fun K hK => ?kw680_9) AllReadyH.nil
  case h680_9 => simp only [List.getElem?_toArray, List.getElem?_cons_succ, List.getElem?_cons_zero]; rfl
  go_simp <;> (try go_wp2_with fail)
  refine hK.out _ _ ?_ (fun hHeld => ?_)
  · (first | (repeat' (first | with_reducible assumption | with_reducible exact Gk.refl _ _ | with_reducible refine Gk.alloc ?_ _ | with_reducible refine Gk.drew ?_ | with_reducible refine Gk.set ?_ _ _ | with_reducible refine Gk.call ?_ (by with_reducible assumption))) | (first | with_reducible assumption | (with_reducible refine Below.drew ?_; with_reducible assumption) | (with_reducible refine ba _ _ ?_; with_reducible assumption) | (with_reducible refine Below.drew ?_; with_reducible refine ba _ _ ?_; with_reducible assumption) | exact Below.refl _ _ | exact (Below.refl _ _).drew | exact (Below.refl _ _).alloc (Nat.le_refl _) _ | (refine bc _ _ (by assumption) (by assumption))))
  clear hK K
  refine RegOk.put_ (m' := 1023) (by kernel_rfl) ?_
  try simp only [Act.put, List.setIfInBounds_toArray, List.set_cons_zero, List.set_cons_succ]
  refine hR.all (by kernel_rfl) ?_ _
  refine NoPanic.normal ?_
  go_wp2_with fail
  go_end0
  exact ⟨rfl, (by repeat' (first | with_reducible exact HO1.out | with_reducible exact HO.out | with_reducible assumption | with_reducible refine i64_store ?_ _ | with_reducible refine Own.drew ?_ | with_reducible refine Own.call ?_ (by with_reducible assumption) | with_reducible refine Own.alloc ?_ _)), ((Gk.refl k w).call B0.out).trans (by (repeat' (first | with_reducible assumption | with_reducible exact Gk.refl _ _ | with_reducible refine Gk.alloc ?_ _ | with_reducible refine Gk.drew ?_ | with_reducible refine Gk.set ?_ _ _ | with_reducible refine Gk.call ?_ (by with_reducible assumption))))⟩
end Go.Proofs.YtagadbdbbglddaaGreatDoor
