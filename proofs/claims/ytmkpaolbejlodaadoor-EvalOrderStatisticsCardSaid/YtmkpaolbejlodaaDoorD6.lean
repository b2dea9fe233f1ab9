/-
  Texts of this claim, merged: Ev2. Conditions: as each theorem says.
-/
import Derived.Lib.Mul64
import Derived.Laws.Bits64b
import Derived.Shelf.Bits.Mul64
import Derived.Test.YtmkpaolbejlodaaDoorD1
import Derived.Test.YtmkpaolbejlodaaDoorD2
import Derived.Test.YtmkpaolbejlodaaDoorD3
import Derived.Test.YtmkpaolbejlodaaDoorD4
import Derived.Test.YtmkpaolbejlodaaDoorD5
set_option linter.unusedSimpArgs false
set_option linter.unusedVariables false
namespace Go.Proofs.YtmkpaolbejlodaaDoor
open Go.RowKit

theorem i64_cells {S : Nat → Prop} {w : World} : ∀ {l : List Int} {cs : List Value}, Elems .i64 S w cs l → cs = l.map (Value.int .i64)
  | [], _, h => h
  | b :: l, _, ⟨c, d, e, h1, h2⟩ => by
    have h1' : c = [.int .i64 b] := h1
    rw [e, h1', i64_cells h2]; rfl
theorem i64_elems {S : Nat → Prop} {w : World} : ∀ (l : List Int), Elems .i64 S w (l.map (Value.int .i64)) l
  | [] => rfl
  | _ :: l => ⟨[_], _, rfl, rfl, i64_elems l⟩
theorem i64_store {S : Nat → Prop} {w : World} {base n c g k : Nat} {e : TypeId} {l : List Int} (h : Own .i64 S w base e (.slice (some ⟨g, 0, none⟩) n c) l) (u : Int) :
    Own .i64 S (w.setCell ⟨g, k, none⟩ (.int .i64 u)) base e (.slice (some ⟨g, 0, none⟩) n c) (l.set k u) := by
  refine ((h.flat i64_flat (T := fun _ => False)).stored (ys := l.set k u) (fun h => h) (by simp) (fun cs hel => ?_) rfl).flat i64_flat
  rw [i64_cells hel, ← List.map_set]
  exact i64_elems _
theorem i64_cell {S : Nat → Prop} {w : World} {base n c g k : Nat} {e : TypeId} {l : List Int} (h : Own .i64 S w base e (.slice (some ⟨g, 0, none⟩) n c) l) (hk : k < l.length) :
    w.cell? ⟨g, k, none⟩ = some (.int .i64 (l.getD k 0)) := by
  obtain ⟨cs, hr, hc⟩ := h.at_ (k := k) (List.getElem?_eq_getElem hk)
  cases hr
  have h1 := hc 0 _ rfl
  simp only [List.getD_eq_getElem?_getD, List.getElem?_eq_getElem hk, Option.getD_some]
  simpa [Enc.i64] using h1
/-- What an adding function leaves. -/
def AddR (W : World) (base k n c : Nat) (ys : List Int) (e : Ending) (W' : World) : Prop :=
  e = .returned (.tuple #[]) ∧ Own .i64 (fun _ => False) W' base 2 (.slice (some ⟨k, 0, none⟩) n c) ys ∧ Gk k W W'

def ev2B : List FRow := [(0, ([], (5, [1]))), (1, ([0], (6, [4]))), (2, ([1], (7, [5]))), (3, ([], (8, [3]))), (4, ([], (9, [2]))), (5, ([4], (10, [8]))), (6, ([3, 5], (11, [7, 9]))), (7, ([2, 6], (12, [6, 10]))), (8, ([0, 0, 1, 2, 3, 4, 5, 6, 7], (13, [4]))), (9, ([8, 7, 6, 0, 1, 2, 3, 4, 5, 6, 7], (0, [12, 11])))]
def ev2C : List FRow := [(0, ([], (5, [1]))), (1, ([0], (6, [4]))), (2, ([1], (7, [5]))), (3, ([], (8, [3]))), (4, ([], (9, [2]))), (5, ([4], (10, [8]))), (6, ([3, 5], (11, [7, 9]))), (7, ([], (12, [2]))), (8, ([7], (13, [11]))), (9, ([6, 8, 6], (14, [10, 12]))), (10, ([2, 9], (15, [6, 13]))), (11, ([0, 0, 1, 2, 3, 4, 5, 6, 7, 8, 9, 10], (16, [4]))), (12, ([11, 10, 9, 0, 1, 2, 3, 4, 5, 6, 7, 8, 9, 10], (0, [15, 14])))]
def ev2E : List FRow := [(0, ([], (5, [1]))), (1, ([], (6, [3]))), (2, ([], (7, [2]))), (3, ([2], (8, [6]))), (4, ([1, 3], (9, [5, 7]))), (5, ([0, 4], (10, [4, 8]))), (6, ([5], (11, [9]))), (7, ([6], (12, [10]))), (8, ([0, 4, 0, 1, 2, 3, 4, 5, 6, 7], (13, [4, 8]))), (9, ([8, 7, 4, 0, 1, 2, 3, 4, 5, 6, 7], (0, [12, 11])))]
set_option maxHeartbeats 1000000 in
theorem add1 {r : Rd} {gs k n c base : Nat} {xs : List Int} (w : World) (hs : w.heap[gs]? = some (.cells #[(.slice (some ⟨k, 0, none⟩) n c)] 33 (0, 0))) (ho : Own .i64 (fun _ => False) w base 2 (.slice (some ⟨k, 0, none⟩) n c) xs) (hn : 0 < n)
    (hx : 0 ≤ xs.getD 0 0 ∧ xs.getD 0 0 ≤ 274941996890625000) : Calls Tryd.prog 51 #[(.agg #[.int .i64 r.who, .int .i64 r.whn, .int .i64 r.knd, .int .i64 r.val]), .pointer (some ⟨gs, 0, none⟩)] w (AddR w base k n c (xs.set 0 (xs.getD 0 0 + 1))) := by
  obtain ⟨x, hxx⟩ : ∃ x, xs.getD 0 0 = x := ⟨_, rfl⟩
  have v0 := i64_cell (k := 0) ho (by rw [← ho.len]; exact hn)
  rw [hxx] at hx v0 ⊢
  have HO := Lib.hid ho
  have fk := ho.frozen 0
  obtain ⟨_, e, -, hk, -⟩ := ho.block hn
  injection e with e; injection e with e; subst e
  have lk1 : k < w.heap.size + 1 := by omega
  obtain ⟨s0, -, ls⟩ := one (Lib.hid hs)
  have ls1 : gs < w.heap.size + 1 := by omega
  have hw : IntKind.i64.wrap (x + 1) = x + 1 := IntWalk.i64_in _ (by omega)
  have hn0 : (0 : Int) < (n : Int) := by omega
  clear ho hs hxx
  go_enter Tryd.func51, Tryd.ntmps51
  go_wp2_with fail
  go_end0
  exact ⟨rfl, (by repeat' (first | with_reducible exact HO1.out | with_reducible exact HO.out | with_reducible assumption | with_reducible refine i64_store ?_ _ | with_reducible refine Own.drew ?_ | with_reducible refine Own.call ?_ (by with_reducible assumption) | with_reducible refine Own.alloc ?_ _)), by (repeat' (first | with_reducible assumption | with_reducible exact Gk.refl _ _ | with_reducible refine Gk.alloc ?_ _ | with_reducible refine Gk.drew ?_ | with_reducible refine Gk.set ?_ _ _ | with_reducible refine Gk.call ?_ (by with_reducible assumption)))⟩
set_option maxHeartbeats 1000000 in
theorem add4 {r : Rd} {gs gi k n c base i j : Nat} {xs : List Int} (w : World) (hs : w.heap[gs]? = some (.cells #[(.slice (some ⟨k, 0, none⟩) n c)] 33 (0, 0))) (hi : w.heap[gi]? = some (.cells #[.int .i64 i] 3 (0, 0))) (ho : Own .i64 (fun _ => False) w base 2 (.slice (some ⟨k, 0, none⟩) n c) xs) (hn : j < n) (hn32 : n ≤ 32) (hj : (16 : Int) * i + r.who = j) (hi2 : i < 2)
    (hx : 0 ≤ xs.getD j 0 ∧ xs.getD j 0 ≤ 274941996890625000) : Calls Tryd.prog 56 #[(.agg #[.int .i64 r.who, .int .i64 r.whn, .int .i64 r.knd, .int .i64 r.val]), .pointer (some ⟨gs, 0, none⟩), .pointer (some ⟨gi, 0, none⟩)] w (AddR w base k n c (xs.set j (xs.getD j 0 + 1))) := by
  obtain ⟨x, hxx⟩ : ∃ x, xs.getD j 0 = x := ⟨_, rfl⟩
  have v0 := i64_cell (k := j) ho (by rw [← ho.len]; exact hn)
  rw [hxx] at hx v0 ⊢
  have HO := Lib.hid ho
  have fk := ho.frozen j
  obtain ⟨_, e, -, hk, -⟩ := ho.block (by omega)
  injection e with e; injection e with e; subst e
  have lk1 : k < w.heap.size + 1 := by omega
  obtain ⟨s0, -, ls⟩ := one (Lib.hid hs)
  obtain ⟨i0, -, li⟩ := one (Lib.hid hi)
  have ls1 : gs < w.heap.size + 1 := by omega
  have li1 : gi < w.heap.size + 1 := by omega
  have hw : IntKind.i64.wrap (x + 1) = x + 1 := IntWalk.i64_in _ (by omega)
  have hn0 : (j : Int) < (n : Int) := by omega
  have hj0 : (0 : Int) ≤ (j : Int) := by omega
  have hw2 : wrap64 (16 * (i : Int)) = 16 * (i : Int) := IntWalk.wrap64_in _ (by omega)
  have hw3 : wrap64 (16 * (i : Int) + r.who) = (j : Int) := by rw [hj]; exact IntWalk.wrap64_in _ (by omega)
  clear ho hs hxx hi hi2
  go_enter Tryd.func56, Tryd.ntmps56
  go_wp2_with fail
  go_end0
  exact ⟨rfl, (by repeat' (first | with_reducible exact HO1.out | with_reducible exact HO.out | with_reducible assumption | with_reducible refine i64_store ?_ _ | with_reducible refine Own.drew ?_ | with_reducible refine Own.call ?_ (by with_reducible assumption) | with_reducible refine Own.alloc ?_ _)), by (repeat' (first | with_reducible assumption | with_reducible exact Gk.refl _ _ | with_reducible refine Gk.alloc ?_ _ | with_reducible refine Gk.drew ?_ | with_reducible refine Gk.set ?_ _ _ | with_reducible refine Gk.call ?_ (by with_reducible assumption)))⟩
set_option maxHeartbeats 2000000 in
theorem add2 {q : Qy} {r : Rd} {A : Option Addr} {cc gs gq k n c base : Nat} {xs : List Int} (w : World) (hs : w.heap[gs]? = some (.cells #[(.slice (some ⟨k, 0, none⟩) n c)] 33 (0, 0))) (hq : w.heap[gq]? = some (.cells #[.int .i64 q.kind, .int .i64 q.col, .int .i64 q.k, .slice A q.fs.length cc] 24 (0, 0))) (ho : Own .i64 (fun _ => False) w base 2 (.slice (some ⟨k, 0, none⟩) n c) xs) (hn : 0 < n)
    (hsk : gs ≠ k) (hqk : gq ≠ k) (hc0 : 0 ≤ q.col) (hc3 : q.col ≤ 3) (hr : ValidR r)
    (hx : 0 ≤ xs.getD 0 0 ∧ xs.getD 0 0 ≤ 274941996890625000) : Calls Tryd.prog 52 #[(.agg #[.int .i64 r.who, .int .i64 r.whn, .int .i64 r.knd, .int .i64 r.val]), .pointer (some ⟨gs, 0, none⟩), .pointer (some ⟨gq, 0, none⟩)] w (AddR w base k n c (xs.set 0 (xs.getD 0 0 + fldI r q.col))) := by
  obtain ⟨x, hxx⟩ : ∃ x, xs.getD 0 0 = x := ⟨_, rfl⟩
  obtain ⟨y, hy⟩ : ∃ y, fldI r q.col = y := ⟨_, rfl⟩
  have hyb := fldI_255 hr q.col
  rw [hxx] at hx ⊢
  rw [hy] at hyb ⊢
  have HXX := Lib.hid hxx
  have HY := Lib.hid hy
  have HO := Lib.hid ho
  obtain ⟨_, e, -, hk, hnl⟩ := ho.block hn
  injection e with e; injection e with e; subst e
  have ls := heap_lt hs
  have lq := heap_lt hq
  have HS := Lib.hid hs
  have HQ := Lib.hid hq
  have hw : IntKind.i64.wrap (x + y) = x + y := IntWalk.i64_in _ (by omega)
  have hn0 : (0 : Int) < (n : Int) := by omega
  have HNL := Lib.hid hnl
  clear ho hs hq hxx hy hnl
  go_enter Tryd.func52, Tryd.ntmps52
  go_upto_region 1 with fail
  refine wp_world (F := fun wx => Below w.heap.size w wx ∧ Hid (wx.heap[w.heap.size]? = some (.cells #[.int .i64 r.who, .int .i64 r.whn, .int .i64 r.knd, .int .i64 r.val] 47 (0, 0)))) ⟨(by repeat' (first | with_reducible exact Below.refl _ _ | with_reducible assumption | with_reducible refine Below.setCell ?_ ?_ _ | with_reducible refine Below.drew ?_ | with_reducible refine below_drewN ?_ _ | with_reducible refine Below.alloc ?_ ?_ _ | (rintro _ ⟨⟩; simp <;> omega) | omega | (simp <;> omega))), Lib.hid (heap_alloc_at rfl)⟩ ?_
  rintro wr ⟨bb, gr⟩
  have B0 := Lib.hid bb
  have gs1 := mvQ HS bb
  have gq1 := mvQ HQ bb
  have HO1 := Lib.hid (HO.out.call bb)
  have hkr : k < wr.heap.size := Nat.lt_of_lt_of_le hk bb.size
  have v0 := i64_cell (k := 0) HO1.out (by have := HNL.out; omega)
  rw [HXX.out] at v0
  have fk := HO1.out.frozen 0
  have hrk : w.heap.size ≠ k := by omega
  have zs : ∀ W, Gk k wr W → W.cell? ⟨gs, 0, none⟩ = _ := fun W hW => (one (Lib.hid (hW.row gs1.out hsk))).1
  have zq : ∀ W, Gk k wr W → _ ∧ _ ∧ _ ∧ _ := fun W hW => row4 (Lib.hid (hW.row gq1.out hqk))
  have zr : ∀ W, Gk k wr W → _ ∧ _ ∧ _ ∧ _ := fun W hW => row4 (Lib.hid (hW.row gr.out hrk))
  have gr0 : Gk k wr wr := Gk.refl _ _
  clear bb gr
  refine wp_region_noPanic ?_
  refine wp_region_held_drew (S := fun X => Gk k wr X) (by kernel_rfl) ?_ (fun hHeld => ?_)
  · (first | (repeat' (first | with_reducible assumption | with_reducible exact Gk.refl _ _ | with_reducible refine Gk.alloc ?_ _ | with_reducible refine Gk.drew ?_ | with_reducible refine Gk.set ?_ _ _ | with_reducible refine Gk.call ?_ (by with_reducible assumption))) | (first | with_reducible assumption | (with_reducible refine Below.drew ?_; with_reducible assumption) | (with_reducible refine ba _ _ ?_; with_reducible assumption) | (with_reducible refine Below.drew ?_; with_reducible refine ba _ _ ?_; with_reducible assumption) | exact Below.refl _ _ | exact (Below.refl _ _).drew | exact (Below.refl _ _).alloc (Nat.le_refl _) _ | (refine bc _ _ (by assumption) (by assumption))))
  refine RegOk.begin_ (n := 10) (T := ev2B) ⟨by kernel_rfl, by kernel_rfl, by kernel_rfl, by kernel_rfl⟩ fun hR => ?_
  refine hR.take (i := 0) (oi := ?ow529_0) (v := ?vw529_0) (m' := 1) ?hw529_0 (by kernel_rfl) (by kernel_rfl) (fun _ _ _ h => h) (Or.inl ⟨?sw529_0, ?yw529_0⟩) (by assumption) ?nw529_0
  case hw529_0 => simp only [List.getElem?_toArray, List.getElem?_cons_succ, List.getElem?_cons_zero]; rfl
  case sw529_0 => rfl
  case yw529_0 => (intro w hSw; (try dsimp only at hSw); go_simp <;> with_reducible rfl)
  try simp only [Act.put, List.setIfInBounds_toArray, List.set_cons_zero, List.set_cons_succ]
  refine hR.take (i := 1) (oi := ?ow530_1) (v := ?vw530_1) (m' := 3) ?hw530_1 (by kernel_rfl) (by kernel_rfl) (fun _ _ _ h => h) (Or.inl ⟨?sw530_1, ?yw530_1⟩) (by assumption) ?nw530_1
  case hw530_1 => simp only [List.getElem?_toArray, List.getElem?_cons_succ, List.getElem?_cons_zero]; rfl
  case sw530_1 => rfl
  case yw530_1 => (intro w hSw; (try dsimp only at hSw); go_simp <;> with_reducible rfl)
  try simp only [Act.put, List.setIfInBounds_toArray, List.set_cons_zero, List.set_cons_succ]
  refine hR.take (i := 3) (oi := ?ow531_3) (v := ?vw531_3) (m' := 11) ?hw531_3 (by kernel_rfl) (by kernel_rfl) (fun _ _ _ h => h) (Or.inl ⟨?sw531_3, ?yw531_3⟩) (by assumption) ?nw531_3
  case hw531_3 => simp only [List.getElem?_toArray, List.getElem?_cons_succ, List.getElem?_cons_zero]; rfl
  case sw531_3 => rfl
  case yw531_3 => (intro w hSw; (try dsimp only at hSw); go_simp <;> with_reducible rfl)
  try simp only [Act.put, List.setIfInBounds_toArray, List.set_cons_zero, List.set_cons_succ]
  refine hR.take (i := 4) (oi := ?ow532_4) (v := ?vw532_4) (m' := 27) ?hw532_4 (by kernel_rfl) (by kernel_rfl) (fun _ _ _ h => h) (Or.inl ⟨?sw532_4, ?yw532_4⟩) (by assumption) ?nw532_4
  case hw532_4 => simp only [List.getElem?_toArray, List.getElem?_cons_succ, List.getElem?_cons_zero]; rfl
  case sw532_4 => rfl
  case yw532_4 => (intro w hSw; (try dsimp only at hSw); go_simp <;> with_reducible rfl)
  try simp only [Act.put, List.setIfInBounds_toArray, List.set_cons_zero, List.set_cons_succ]
  refine hR.take (i := 5) (oi := ?ow533_5) (v := ?vw533_5) (m' := 59) ?hw533_5 (by kernel_rfl) (by kernel_rfl) (fun _ _ _ h => h) (Or.inl ⟨?sw533_5, ?yw533_5⟩) (by assumption) ?nw533_5
  case hw533_5 => simp only [List.getElem?_toArray, List.getElem?_cons_succ, List.getElem?_cons_zero]; rfl
  case sw533_5 => rfl
  case yw533_5 => (intro w hSw; (try dsimp only at hSw); go_simp <;> with_reducible rfl)
  try simp only [Act.put, List.setIfInBounds_toArray, List.set_cons_zero, List.set_cons_succ]
  refine hR.come (rs := [2, 6]) (by kernel_rfl) (by simp) ?_
  refine AllReadyH.cons (o := ?o534_2) ?h534_2 (fun K hK => ?kw534_2) (AllReadyH.cons (o := ?o534_6) ?h534_6 (fun K hK => ?kw534_6) AllReadyH.nil)
  case h534_2 => simp only [List.getElem?_toArray, List.getElem?_cons_succ, List.getElem?_cons_zero]; rfl
  case h534_6 => simp only [List.getElem?_toArray, List.getElem?_cons_succ, List.getElem?_cons_zero]; rfl
  case kw534_2 =>
    go_simp <;> (try go_wp2_with fail)
    refine hK.out _ _ ?_ (fun hHeld => ?_)
    · (first | (repeat' (first | with_reducible assumption | with_reducible exact Gk.refl _ _ | with_reducible refine Gk.alloc ?_ _ | with_reducible refine Gk.drew ?_ | with_reducible refine Gk.set ?_ _ _ | with_reducible refine Gk.call ?_ (by with_reducible assumption))) | (first | with_reducible assumption | (with_reducible refine Below.drew ?_; with_reducible assumption) | (with_reducible refine ba _ _ ?_; with_reducible assumption) | (with_reducible refine Below.drew ?_; with_reducible refine ba _ _ ?_; with_reducible assumption) | exact Below.refl _ _ | exact (Below.refl _ _).drew | exact (Below.refl _ _).alloc (Nat.le_refl _) _ | (refine bc _ _ (by assumption) (by assumption))))
    clear hK K
    refine RegOk.put_ (m' := 63) (by kernel_rfl) ?_
    try simp only [Act.put, List.setIfInBounds_toArray, List.set_cons_zero, List.set_cons_succ]
    refine hR.come (rs := [6]) (by kernel_rfl) (by simp) ?_
    refine AllReadyH.cons (o := ?o535_6) ?h535_6 (fun K hK => ?kw535_6) AllReadyH.nil
    case h535_6 => simp only [List.getElem?_toArray, List.getElem?_cons_succ, List.getElem?_cons_zero]; rfl
    go_simp
    go_at_call 53; refine (columnE (r := r) _ hc0 hc3).mono ?_; rw [HY.out]; rintro e wC ⟨rfl, hC⟩; have HOC := Lib.hid (show Own .i64 (fun _ => False) wC base 2 (.slice (some ⟨k, 0, none⟩) n c) xs from (by repeat' (first | with_reducible exact HO1.out | with_reducible exact HO.out | with_reducible assumption | with_reducible refine i64_store ?_ _ | with_reducible refine Own.drew ?_ | with_reducible refine Own.call ?_ (by with_reducible assumption) | with_reducible refine Own.alloc ?_ _))); have v0C := i64_cell (k := 0) HOC.out (by have := HNL.out; omega); rw [HXX.out] at v0C; have fkC := HOC.out.frozen 0; have hkC := (HOC.out.lt k rfl).2
    refine hK.out _ _ ?_ (fun hHeld => ?_)
    · (first | (repeat' (first | with_reducible assumption | with_reducible exact Gk.refl _ _ | with_reducible refine Gk.alloc ?_ _ | with_reducible refine Gk.drew ?_ | with_reducible refine Gk.set ?_ _ _ | with_reducible refine Gk.call ?_ (by with_reducible assumption))) | (first | with_reducible assumption | (with_reducible refine Below.drew ?_; with_reducible assumption) | (with_reducible refine ba _ _ ?_; with_reducible assumption) | (with_reducible refine Below.drew ?_; with_reducible refine ba _ _ ?_; with_reducible assumption) | exact Below.refl _ _ | exact (Below.refl _ _).drew | exact (Below.refl _ _).alloc (Nat.le_refl _) _ | (refine bc _ _ (by assumption) (by assumption))))
    clear hK K
    refine RegOk.put_ (m' := 127) (by kernel_rfl) ?_
    try simp only [Act.put, List.setIfInBounds_toArray, List.set_cons_zero, List.set_cons_succ]
    refine hR.take (i := 7) (oi := ?ow536_7) (v := ?vw536_7) (m' := 255) ?hw536_7 (by kernel_rfl) (by kernel_rfl) (fun _ _ _ h => h) (Or.inl ⟨?sw536_7, ?yw536_7⟩) (by assumption) ?nw536_7
    case hw536_7 => simp only [List.getElem?_toArray, List.getElem?_cons_succ, List.getElem?_cons_zero]; rfl
    case sw536_7 => rfl
    case yw536_7 => (intro w hSw; (try dsimp only at hSw); go_simp <;> with_reducible rfl)
    try simp only [Act.put, List.setIfInBounds_toArray, List.set_cons_zero, List.set_cons_succ]
    refine hR.take (i := 8) (oi := ?ow537_8) (v := ?vw537_8) (m' := 511) ?hw537_8 (by kernel_rfl) (by kernel_rfl) (fun _ _ _ h => h) (Or.inl ⟨?sw537_8, ?yw537_8⟩) (by assumption) ?nw537_8
    case hw537_8 => simp only [List.getElem?_toArray, List.getElem?_cons_succ, List.getElem?_cons_zero]; rfl
    case sw537_8 => rfl
    case yw537_8 => (intro w hSw; (try dsimp only at hSw); go_simp <;> with_reducible rfl)
    try simp only [Act.put, List.setIfInBounds_toArray, List.set_cons_zero, List.set_cons_succ]
    refine hR.come (rs := [9]) (by kernel_rfl) (by simp) ?_
    refine AllReadyH.cons (o := ?o538_9) ?h538_9 (fun K hK => ?kw538_9) AllReadyH.nil
    case h538_9 => simp only [List.getElem?_toArray, List.getElem?_cons_succ, List.getElem?_cons_zero]; rfl
    go_simp <;> (try go_wp2_with fail)
    refine hK.out _ _ ?_ (fun hHeld => ?_)
    · (first | (repeat' (first | with_reducible assumption | with_reducible exact Gk.refl _ _ | with_reducible refine Gk.alloc ?_ _ | with_reducible refine Gk.drew ?_ | with_reducible refine Gk.set ?_ _ _ | with_reducible refine Gk.call ?_ (by with_reducible assumption))) | (first | with_reducible assumption | (with_reducible refine Below.drew ?_; with_reducible assumption) | (with_reducible refine ba _ _ ?_; with_reducible assumption) | (with_reducible refine Below.drew ?_; with_reducible refine ba _ _ ?_; with_reducible assumption) | exact Below.refl _ _ | exact (Below.refl _ _).drew | exact (Below.refl _ _).alloc (Nat.le_refl _) _ | (refine bc _ _ (by assumption) (by assumption))))
    clear hK K
    refine RegOk.put_ (m' := 1023) (by kernel_rfl) ?_
    try simp only [Act.put, List.setIfInBounds_toArray, List.set_cons_zero, List.set_cons_succ]
    refine hR.all (by kernel_rfl) ?_ _
    refine NoPanic.normal ?_
    go_wp2_with fail
    go_end0
    exact ⟨rfl, (by repeat' (first | with_reducible exact HO1.out | with_reducible exact HO.out | with_reducible assumption | with_reducible refine i64_store ?_ _ | with_reducible refine Own.drew ?_ | with_reducible refine Own.call ?_ (by with_reducible assumption) | with_reducible refine Own.alloc ?_ _)), ((Gk.refl k w).call B0.out).trans (by (repeat' (first | with_reducible assumption | with_reducible exact Gk.refl _ _ | with_reducible refine Gk.alloc ?_ _ | with_reducible refine Gk.drew ?_ | with_reducible refine Gk.set ?_ _ _ | with_reducible refine Gk.call ?_ (by with_reducible assumption))))⟩
  case kw534_6 =>
    go_simp
    go_at_call 53; refine (columnE (r := r) _ hc0 hc3).mono ?_; rw [HY.out]; rintro e wC ⟨rfl, hC⟩; have HOC := Lib.hid (show Own .i64 (fun _ => False) wC base 2 (.slice (some ⟨k, 0, none⟩) n c) xs from (by repeat' (first | with_reducible exact HO1.out | with_reducible exact HO.out | with_reducible assumption | with_reducible refine i64_store ?_ _ | with_reducible refine Own.drew ?_ | with_reducible refine Own.call ?_ (by with_reducible assumption) | with_reducible refine Own.alloc ?_ _))); have v0C := i64_cell (k := 0) HOC.out (by have := HNL.out; omega); rw [HXX.out] at v0C; have fkC := HOC.out.frozen 0; have hkC := (HOC.out.lt k rfl).2
    refine hK.out _ _ ?_ (fun hHeld => ?_)
    · (first | (repeat' (first | with_reducible assumption | with_reducible exact Gk.refl _ _ | with_reducible refine Gk.alloc ?_ _ | with_reducible refine Gk.drew ?_ | with_reducible refine Gk.set ?_ _ _ | with_reducible refine Gk.call ?_ (by with_reducible assumption))) | (first | with_reducible assumption | (with_reducible refine Below.drew ?_; with_reducible assumption) | (with_reducible refine ba _ _ ?_; with_reducible assumption) | (with_reducible refine Below.drew ?_; with_reducible refine ba _ _ ?_; with_reducible assumption) | exact Below.refl _ _ | exact (Below.refl _ _).drew | exact (Below.refl _ _).alloc (Nat.le_refl _) _ | (refine bc _ _ (by assumption) (by assumption))))
    clear hK K
    refine RegOk.put_ (m' := 123) (by kernel_rfl) ?_
    try simp only [Act.put, List.setIfInBounds_toArray, List.set_cons_zero, List.set_cons_succ]
    refine hR.come (rs := [2]) (by kernel_rfl) (by simp) ?_
    refine AllReadyH.cons (o := ?o539_2) ?h539_2 (fun K hK => ?kw539_2) AllReadyH.nil
    case h539_2 => simp only [List.getElem?_toArray, List.getElem?_cons_succ, List.getElem?_cons_zero]; rfl
    go_simp <;> (try go_wp2_with fail)
    refine hK.out _ _ ?_ (fun hHeld => ?_)
    · (first | (repeat' (first | with_reducible assumption | with_reducible exact Gk.refl _ _ | with_reducible refine Gk.alloc ?_ _ | with_reducible refine Gk.drew ?_ | with_reducible refine Gk.set ?_ _ _ | with_reducible refine Gk.call ?_ (by with_reducible assumption))) | (first | with_reducible assumption | (with_reducible refine Below.drew ?_; with_reducible assumption) | (with_reducible refine ba _ _ ?_; with_reducible assumption) | (with_reducible refine Below.drew ?_; with_reducible refine ba _ _ ?_; with_reducible assumption) | exact Below.refl _ _ | exact (Below.refl _ _).drew | exact (Below.refl _ _).alloc (Nat.le_refl _) _ | (refine bc _ _ (by assumption) (by assumption))))
    clear hK K
    refine RegOk.put_ (m' := 127) (by kernel_rfl) ?_
    try simp only [Act.put, List.setIfInBounds_toArray, List.set_cons_zero, List.set_cons_succ]
    refine hR.take (i := 7) (oi := ?ow540_7) (v := ?vw540_7) (m' := 255) ?hw540_7 (by kernel_rfl) (by kernel_rfl) (fun _ _ _ h => h) (Or.inl ⟨?sw540_7, ?yw540_7⟩) (by assumption) ?nw540_7
    case hw540_7 => simp only [List.getElem?_toArray, List.getElem?_cons_succ, List.getElem?_cons_zero]; rfl
    case sw540_7 => rfl
    case yw540_7 => (intro w hSw; (try dsimp only at hSw); go_simp <;> with_reducible rfl)
    try simp only [Act.put, List.setIfInBounds_toArray, List.set_cons_zero, List.set_cons_succ]
    refine hR.take (i := 8) (oi := ?ow541_8) (v := ?vw541_8) (m' := 511) ?hw541_8 (by kernel_rfl) (by kernel_rfl) (fun _ _ _ h => h) (Or.inl ⟨?sw541_8, ?yw541_8⟩) (by assumption) ?nw541_8
    case hw541_8 => simp only [List.getElem?_toArray, List.getElem?_cons_succ, List.getElem?_cons_zero]; rfl
    case sw541_8 => rfl
    case yw541_8 => (intro w hSw; (try dsimp only at hSw); go_simp <;> with_reducible rfl)
    try simp only [Act.put, List.setIfInBounds_toArray, List.set_cons_zero, List.set_cons_succ]
    refine hR.come (rs := [9]) (by kernel_rfl) (by simp) ?_
    refine AllReadyH.cons (o := ?o542_9) ?h542_9 (fun K hK => ?kw542_9) AllReadyH.nil
    case h542_9 => simp only [List.getElem?_toArray, List.getElem?_cons_succ, List.getElem?_cons_zero]; rfl
    go_simp <;> (try go_wp2_with fail)
    refine hK.out _ _ ?_ (fun hHeld => ?_)
    · (first | (repeat' (first | with_reducible assumption | with_reducible exact Gk.refl _ _ | with_reducible refine Gk.alloc ?_ _ | with_reducible refine Gk.drew ?_ | with_reducible refine Gk.set ?_ _ _ | with_reducible refine Gk.call ?_ (by with_reducible assumption))) | (first | with_reducible assumption | (with_reducible refine Below.drew ?_; with_reducible assumption) | (with_reducible refine ba _ _ ?_; with_reducible assumption) | (with_reducible refine Below.drew ?_; with_reducible refine ba _ _ ?_; with_reducible assumption) | exact Below.refl _ _ | exact (Below.refl _ _).drew | exact (Below.refl _ _).alloc (Nat.le_refl _) _ | (refine bc _ _ (by assumption) (by assumption))))
    clear hK K
    refine RegOk.put_ (m' := 1023) (by kernel_rfl) ?_
    try simp only [Act.put, List.setIfInBounds_toArray, List.set_cons_zero, List.set_cons_succ]
    refine hR.all (by kernel_rfl) ?_ _
    refine NoPanic.normal ?_
    go_wp2_with fail
    go_end0
    exact ⟨rfl, (by repeat' (first | with_reducible exact HO1.out | with_reducible exact HO.out | with_reducible assumption | with_reducible refine i64_store ?_ _ | with_reducible refine Own.drew ?_ | with_reducible refine Own.call ?_ (by with_reducible assumption) | with_reducible refine Own.alloc ?_ _)), ((Gk.refl k w).call B0.out).trans (by (repeat' (first | with_reducible assumption | with_reducible exact Gk.refl _ _ | with_reducible refine Gk.alloc ?_ _ | with_reducible refine Gk.drew ?_ | with_reducible refine Gk.set ?_ _ _ | with_reducible refine Gk.call ?_ (by with_reducible assumption))))⟩
set_option maxHeartbeats 2000000 in
theorem add3 {q : Qy} {r : Rd} {A : Option Addr} {cc gs gq k n c base kk : Nat} {xs : List Int} (w : World) (hs : w.heap[gs]? = some (.cells #[(.slice (some ⟨k, 0, none⟩) n c)] 33 (0, 0))) (hq : w.heap[gq]? = some (.cells #[.int .i64 q.kind, .int .i64 q.col, .int .i64 q.k, .slice A q.fs.length cc] 24 (0, 0))) (ho : Own .i64 (fun _ => False) w base 2 (.slice (some ⟨k, 0, none⟩) n c) xs) (hn : 0 < n)
    (hsk : gs ≠ k) (hqk : gq ≠ k) (hc0 : 0 ≤ q.col) (hc3 : q.col ≤ 3) (hr : ValidR r) (hkk : q.k = kk) (hk6 : kk ≤ 6)
    (hx : 0 ≤ xs.getD 0 0 ∧ xs.getD 0 0 ≤ 274941996890625000) : Calls Tryd.prog 54 #[(.agg #[.int .i64 r.who, .int .i64 r.whn, .int .i64 r.knd, .int .i64 r.val]), .pointer (some ⟨gs, 0, none⟩), .pointer (some ⟨gq, 0, none⟩)] w (AddR w base k n c (xs.set 0 (xs.getD 0 0 + fldI r q.col ^ kk))) := by
  obtain ⟨x, hxx⟩ : ∃ x, xs.getD 0 0 = x := ⟨_, rfl⟩
  obtain ⟨y, hy⟩ : ∃ y, fldI r q.col = y := ⟨_, rfl⟩
  have hyb := fldI_255 hr q.col
  rw [hxx] at hx ⊢
  rw [hy] at hyb ⊢
  obtain ⟨z, hz⟩ : ∃ z, y ^ kk = z := ⟨_, rfl⟩
  have hzb := pow_le_6 hyb.1 hyb.2 hk6
  rw [hz] at hzb ⊢
  have HZ := Lib.hid hz
  have HXX := Lib.hid hxx
  have HY := Lib.hid hy
  have HO := Lib.hid ho
  obtain ⟨_, e, -, hk, hnl⟩ := ho.block hn
  injection e with e; injection e with e; subst e
  have ls := heap_lt hs
  have lq := heap_lt hq
  have HS := Lib.hid hs
  rw [hkk] at hq
  have HQ := Lib.hid hq
  have hw : IntKind.i64.wrap (x + z) = x + z := IntWalk.i64_in _ (by omega)
  have hn0 : (0 : Int) < (n : Int) := by omega
  have HNL := Lib.hid hnl
  clear ho hs hq hxx hy hnl hz hkk
  go_enter Tryd.func54, Tryd.ntmps54
  go_upto_region 1 with fail
  refine wp_world (F := fun wx => Below w.heap.size w wx ∧ Hid (wx.heap[w.heap.size]? = some (.cells #[.int .i64 r.who, .int .i64 r.whn, .int .i64 r.knd, .int .i64 r.val] 47 (0, 0)))) ⟨(by repeat' (first | with_reducible exact Below.refl _ _ | with_reducible assumption | with_reducible refine Below.setCell ?_ ?_ _ | with_reducible refine Below.drew ?_ | with_reducible refine below_drewN ?_ _ | with_reducible refine Below.alloc ?_ ?_ _ | (rintro _ ⟨⟩; simp <;> omega) | omega | (simp <;> omega))), Lib.hid (heap_alloc_at rfl)⟩ ?_
  rintro wr ⟨bb, gr⟩
  have B0 := Lib.hid bb
  have gs1 := mvQ HS bb
  have gq1 := mvQ HQ bb
  have HO1 := Lib.hid (HO.out.call bb)
  have hkr : k < wr.heap.size := Nat.lt_of_lt_of_le hk bb.size
  have v0 := i64_cell (k := 0) HO1.out (by have := HNL.out; omega)
  rw [HXX.out] at v0
  have fk := HO1.out.frozen 0
  have hrk : w.heap.size ≠ k := by omega
  have zs : ∀ W, Gk k wr W → W.cell? ⟨gs, 0, none⟩ = _ := fun W hW => (one (Lib.hid (hW.row gs1.out hsk))).1
  have zq : ∀ W, Gk k wr W → _ ∧ _ ∧ _ ∧ _ := fun W hW => row4 (Lib.hid (hW.row gq1.out hqk))
  have zr : ∀ W, Gk k wr W → _ ∧ _ ∧ _ ∧ _ := fun W hW => row4 (Lib.hid (hW.row gr.out hrk))
  have gr0 : Gk k wr wr := Gk.refl _ _
  clear bb gr
  refine wp_region_noPanic ?_
  refine wp_region_held_drew (S := fun X => Gk k wr X) (by kernel_rfl) ?_ (fun hHeld => ?_)
  · (first | (repeat' (first | with_reducible assumption | with_reducible exact Gk.refl _ _ | with_reducible refine Gk.alloc ?_ _ | with_reducible refine Gk.drew ?_ | with_reducible refine Gk.set ?_ _ _ | with_reducible refine Gk.call ?_ (by with_reducible assumption))) | (first | with_reducible assumption | (with_reducible refine Below.drew ?_; with_reducible assumption) | (with_reducible refine ba _ _ ?_; with_reducible assumption) | (with_reducible refine Below.drew ?_; with_reducible refine ba _ _ ?_; with_reducible assumption) | exact Below.refl _ _ | exact (Below.refl _ _).drew | exact (Below.refl _ _).alloc (Nat.le_refl _) _ | (refine bc _ _ (by assumption) (by assumption))))
  refine RegOk.begin_ (n := 13) (T := ev2C) ⟨by kernel_rfl, by kernel_rfl, by kernel_rfl, by kernel_rfl⟩ fun hR => ?_
  refine hR.take (i := 0) (oi := ?ow543_0) (v := ?vw543_0) (m' := 1) ?hw543_0 (by kernel_rfl) (by kernel_rfl) (fun _ _ _ h => h) (Or.inl ⟨?sw543_0, ?yw543_0⟩) (by assumption) ?nw543_0
  case hw543_0 => simp only [List.getElem?_toArray, List.getElem?_cons_succ, List.getElem?_cons_zero]; rfl
  case sw543_0 => rfl
  case yw543_0 => (intro w hSw; (try dsimp only at hSw); go_simp <;> with_reducible rfl)
  try simp only [Act.put, List.setIfInBounds_toArray, List.set_cons_zero, List.set_cons_succ]
  refine hR.take (i := 1) (oi := ?ow544_1) (v := ?vw544_1) (m' := 3) ?hw544_1 (by kernel_rfl) (by kernel_rfl) (fun _ _ _ h => h) (Or.inl ⟨?sw544_1, ?yw544_1⟩) (by assumption) ?nw544_1
  case hw544_1 => simp only [List.getElem?_toArray, List.getElem?_cons_succ, List.getElem?_cons_zero]; rfl
  case sw544_1 => rfl
  case yw544_1 => (intro w hSw; (try dsimp only at hSw); go_simp <;> with_reducible rfl)
  try simp only [Act.put, List.setIfInBounds_toArray, List.set_cons_zero, List.set_cons_succ]
  refine hR.take (i := 3) (oi := ?ow545_3) (v := ?vw545_3) (m' := 11) ?hw545_3 (by kernel_rfl) (by kernel_rfl) (fun _ _ _ h => h) (Or.inl ⟨?sw545_3, ?yw545_3⟩) (by assumption) ?nw545_3
  case hw545_3 => simp only [List.getElem?_toArray, List.getElem?_cons_succ, List.getElem?_cons_zero]; rfl
  case sw545_3 => rfl
  case yw545_3 => (intro w hSw; (try dsimp only at hSw); go_simp <;> with_reducible rfl)
  try simp only [Act.put, List.setIfInBounds_toArray, List.set_cons_zero, List.set_cons_succ]
  refine hR.take (i := 4) (oi := ?ow546_4) (v := ?vw546_4) (m' := 27) ?hw546_4 (by kernel_rfl) (by kernel_rfl) (fun _ _ _ h => h) (Or.inl ⟨?sw546_4, ?yw546_4⟩) (by assumption) ?nw546_4
  case hw546_4 => simp only [List.getElem?_toArray, List.getElem?_cons_succ, List.getElem?_cons_zero]; rfl
  case sw546_4 => rfl
  case yw546_4 => (intro w hSw; (try dsimp only at hSw); go_simp <;> with_reducible rfl)
  try simp only [Act.put, List.setIfInBounds_toArray, List.set_cons_zero, List.set_cons_succ]
  refine hR.take (i := 5) (oi := ?ow547_5) (v := ?vw547_5) (m' := 59) ?hw547_5 (by kernel_rfl) (by kernel_rfl) (fun _ _ _ h => h) (Or.inl ⟨?sw547_5, ?yw547_5⟩) (by assumption) ?nw547_5
  case hw547_5 => simp only [List.getElem?_toArray, List.getElem?_cons_succ, List.getElem?_cons_zero]; rfl
  case sw547_5 => rfl
  case yw547_5 => (intro w hSw; (try dsimp only at hSw); go_simp <;> with_reducible rfl)
  try simp only [Act.put, List.setIfInBounds_toArray, List.set_cons_zero, List.set_cons_succ]
  refine hR.take (i := 7) (oi := ?ow548_7) (v := ?vw548_7) (m' := 187) ?hw548_7 (by kernel_rfl) (by kernel_rfl) (fun _ _ _ h => h) (Or.inl ⟨?sw548_7, ?yw548_7⟩) (by assumption) ?nw548_7
  case hw548_7 => simp only [List.getElem?_toArray, List.getElem?_cons_succ, List.getElem?_cons_zero]; rfl
  case sw548_7 => rfl
  case yw548_7 => (intro w hSw; (try dsimp only at hSw); go_simp <;> with_reducible rfl)
  try simp only [Act.put, List.setIfInBounds_toArray, List.set_cons_zero, List.set_cons_succ]
  refine hR.take (i := 8) (oi := ?ow549_8) (v := ?vw549_8) (m' := 443) ?hw549_8 (by kernel_rfl) (by kernel_rfl) (fun _ _ _ h => h) (Or.inl ⟨?sw549_8, ?yw549_8⟩) (by assumption) ?nw549_8
  case hw549_8 => simp only [List.getElem?_toArray, List.getElem?_cons_succ, List.getElem?_cons_zero]; rfl
  case sw549_8 => rfl
  case yw549_8 => (intro w hSw; (try dsimp only at hSw); go_simp <;> with_reducible rfl)
  try simp only [Act.put, List.setIfInBounds_toArray, List.set_cons_zero, List.set_cons_succ]
  refine hR.come (rs := [2, 6]) (by kernel_rfl) (by simp) ?_
  refine AllReadyH.cons (o := ?o550_2) ?h550_2 (fun K hK => ?kw550_2) (AllReadyH.cons (o := ?o550_6) ?h550_6 (fun K hK => ?kw550_6) AllReadyH.nil)
  case h550_2 => simp only [List.getElem?_toArray, List.getElem?_cons_succ, List.getElem?_cons_zero]; rfl
  case h550_6 => simp only [List.getElem?_toArray, List.getElem?_cons_succ, List.getElem?_cons_zero]; rfl
  case kw550_2 =>
    go_simp <;> (try go_wp2_with fail)
    refine hK.out _ _ ?_ (fun hHeld => ?_)
    · (first | (repeat' (first | with_reducible assumption | with_reducible exact Gk.refl _ _ | with_reducible refine Gk.alloc ?_ _ | with_reducible refine Gk.drew ?_ | with_reducible refine Gk.set ?_ _ _ | with_reducible refine Gk.call ?_ (by with_reducible assumption))) | (first | with_reducible assumption | (with_reducible refine Below.drew ?_; with_reducible assumption) | (with_reducible refine ba _ _ ?_; with_reducible assumption) | (with_reducible refine Below.drew ?_; with_reducible refine ba _ _ ?_; with_reducible assumption) | exact Below.refl _ _ | exact (Below.refl _ _).drew | exact (Below.refl _ _).alloc (Nat.le_refl _) _ | (refine bc _ _ (by assumption) (by assumption))))
    clear hK K
    refine RegOk.put_ (m' := 447) (by kernel_rfl) ?_
    try simp only [Act.put, List.setIfInBounds_toArray, List.set_cons_zero, List.set_cons_succ]
    refine hR.come (rs := [6]) (by kernel_rfl) (by simp) ?_
    refine AllReadyH.cons (o := ?o551_6) ?h551_6 (fun K hK => ?kw551_6) AllReadyH.nil
    case h551_6 => simp only [List.getElem?_toArray, List.getElem?_cons_succ, List.getElem?_cons_zero]; rfl
    go_simp
    go_at_call 53; refine (columnE (r := r) _ hc0 hc3).mono ?_; rw [HY.out]; rintro e wC ⟨rfl, hC⟩; have HOC := Lib.hid (show Own .i64 (fun _ => False) wC base 2 (.slice (some ⟨k, 0, none⟩) n c) xs from (by repeat' (first | with_reducible exact HO1.out | with_reducible exact HO.out | with_reducible assumption | with_reducible refine i64_store ?_ _ | with_reducible refine Own.drew ?_ | with_reducible refine Own.call ?_ (by with_reducible assumption) | with_reducible refine Own.alloc ?_ _))); have v0C := i64_cell (k := 0) HOC.out (by have := HNL.out; omega); rw [HXX.out] at v0C; have fkC := HOC.out.frozen 0; have hkC := (HOC.out.lt k rfl).2
    refine hK.out _ _ ?_ (fun hHeld => ?_)
    · (first | (repeat' (first | with_reducible assumption | with_reducible exact Gk.refl _ _ | with_reducible refine Gk.alloc ?_ _ | with_reducible refine Gk.drew ?_ | with_reducible refine Gk.set ?_ _ _ | with_reducible refine Gk.call ?_ (by with_reducible assumption))) | (first | with_reducible assumption | (with_reducible refine Below.drew ?_; with_reducible assumption) | (with_reducible refine ba _ _ ?_; with_reducible assumption) | (with_reducible refine Below.drew ?_; with_reducible refine ba _ _ ?_; with_reducible assumption) | exact Below.refl _ _ | exact (Below.refl _ _).drew | exact (Below.refl _ _).alloc (Nat.le_refl _) _ | (refine bc _ _ (by assumption) (by assumption))))
    clear hK K
    refine RegOk.put_ (m' := 511) (by kernel_rfl) ?_
    try simp only [Act.put, List.setIfInBounds_toArray, List.set_cons_zero, List.set_cons_succ]
    refine hR.come (rs := [9]) (by kernel_rfl) (by simp) ?_
    refine AllReadyH.cons (o := ?o552_9) ?h552_9 (fun K hK => ?kw552_9) AllReadyH.nil
    case h552_9 => simp only [List.getElem?_toArray, List.getElem?_cons_succ, List.getElem?_cons_zero]; rfl
    go_simp
    go_at_call 55; refine (powerE _ hyb.1 hyb.2 hk6).mono ?_; rw [HZ.out]; rintro e wP ⟨rfl, rfl⟩
    refine hK.out _ _ ?_ (fun hHeld => ?_)
    · (first | (repeat' (first | with_reducible assumption | with_reducible exact Gk.refl _ _ | with_reducible refine Gk.alloc ?_ _ | with_reducible refine Gk.drew ?_ | with_reducible refine Gk.set ?_ _ _ | with_reducible refine Gk.call ?_ (by with_reducible assumption))) | (first | with_reducible assumption | (with_reducible refine Below.drew ?_; with_reducible assumption) | (with_reducible refine ba _ _ ?_; with_reducible assumption) | (with_reducible refine Below.drew ?_; with_reducible refine ba _ _ ?_; with_reducible assumption) | exact Below.refl _ _ | exact (Below.refl _ _).drew | exact (Below.refl _ _).alloc (Nat.le_refl _) _ | (refine bc _ _ (by assumption) (by assumption))))
    clear hK K
    refine RegOk.put_ (m' := 1023) (by kernel_rfl) ?_
    try simp only [Act.put, List.setIfInBounds_toArray, List.set_cons_zero, List.set_cons_succ]
    refine hR.take (i := 10) (oi := ?ow553_10) (v := ?vw553_10) (m' := 2047) ?hw553_10 (by kernel_rfl) (by kernel_rfl) (fun _ _ _ h => h) (Or.inl ⟨?sw553_10, ?yw553_10⟩) (by assumption) ?nw553_10
    case hw553_10 => simp only [List.getElem?_toArray, List.getElem?_cons_succ, List.getElem?_cons_zero]; rfl
    case sw553_10 => rfl
    case yw553_10 => (intro w hSw; (try dsimp only at hSw); go_simp <;> with_reducible rfl)
    try simp only [Act.put, List.setIfInBounds_toArray, List.set_cons_zero, List.set_cons_succ]
    refine hR.take (i := 11) (oi := ?ow554_11) (v := ?vw554_11) (m' := 4095) ?hw554_11 (by kernel_rfl) (by kernel_rfl) (fun _ _ _ h => h) (Or.inl ⟨?sw554_11, ?yw554_11⟩) (by assumption) ?nw554_11
    case hw554_11 => simp only [List.getElem?_toArray, List.getElem?_cons_succ, List.getElem?_cons_zero]; rfl
    case sw554_11 => rfl
    case yw554_11 => (intro w hSw; (try dsimp only at hSw); go_simp <;> with_reducible rfl)
    try simp only [Act.put, List.setIfInBounds_toArray, List.set_cons_zero, List.set_cons_succ]
    refine hR.come (rs := [12]) (by kernel_rfl) (by simp) ?_
    refine AllReadyH.cons (o := ?o555_12) ?h555_12 (fun K hK => ?kw555_12) AllReadyH.nil
    case h555_12 => simp only [List.getElem?_toArray, List.getElem?_cons_succ, List.getElem?_cons_zero]; rfl
    go_simp <;> (try go_wp2_with fail)
    refine hK.out _ _ ?_ (fun hHeld => ?_)
    · (first | (repeat' (first | with_reducible assumption | with_reducible exact Gk.refl _ _ | with_reducible refine Gk.alloc ?_ _ | with_reducible refine Gk.drew ?_ | with_reducible refine Gk.set ?_ _ _ | with_reducible refine Gk.call ?_ (by with_reducible assumption))) | (first | with_reducible assumption | (with_reducible refine Below.drew ?_; with_reducible assumption) | (with_reducible refine ba _ _ ?_; with_reducible assumption) | (with_reducible refine Below.drew ?_; with_reducible refine ba _ _ ?_; with_reducible assumption) | exact Below.refl _ _ | exact (Below.refl _ _).drew | exact (Below.refl _ _).alloc (Nat.le_refl _) _ | (refine bc _ _ (by assumption) (by assumption))))
    clear hK K
    refine RegOk.put_ (m' := 8191) (by kernel_rfl) ?_
    try simp only [Act.put, List.setIfInBounds_toArray, List.set_cons_zero, List.set_cons_succ]
    refine hR.all (by kernel_rfl) ?_ _
    refine NoPanic.normal ?_
    go_wp2_with fail
    go_end0
    exact ⟨rfl, (by repeat' (first | with_reducible exact HO1.out | with_reducible exact HO.out | with_reducible assumption | with_reducible refine i64_store ?_ _ | with_reducible refine Own.drew ?_ | with_reducible refine Own.call ?_ (by with_reducible assumption) | with_reducible refine Own.alloc ?_ _)), ((Gk.refl k w).call B0.out).trans (by (repeat' (first | with_reducible assumption | with_reducible exact Gk.refl _ _ | with_reducible refine Gk.alloc ?_ _ | with_reducible refine Gk.drew ?_ | with_reducible refine Gk.set ?_ _ _ | with_reducible refine Gk.call ?_ (by with_reducible assumption))))⟩
  case kw550_6 =>
    go_simp
    go_at_call 53; refine (columnE (r := r) _ hc0 hc3).mono ?_; rw [HY.out]; rintro e wC ⟨rfl, hC⟩; have HOC := Lib.hid (show Own .i64 (fun _ => False) wC base 2 (.slice (some ⟨k, 0, none⟩) n c) xs from (by repeat' (first | with_reducible exact HO1.out | with_reducible exact HO.out | with_reducible assumption | with_reducible refine i64_store ?_ _ | with_reducible refine Own.drew ?_ | with_reducible refine Own.call ?_ (by with_reducible assumption) | with_reducible refine Own.alloc ?_ _))); have v0C := i64_cell (k := 0) HOC.out (by have := HNL.out; omega); rw [HXX.out] at v0C; have fkC := HOC.out.frozen 0; have hkC := (HOC.out.lt k rfl).2
    refine hK.out _ _ ?_ (fun hHeld => ?_)
    · (first | (repeat' (first | with_reducible assumption | with_reducible exact Gk.refl _ _ | with_reducible refine Gk.alloc ?_ _ | with_reducible refine Gk.drew ?_ | with_reducible refine Gk.set ?_ _ _ | with_reducible refine Gk.call ?_ (by with_reducible assumption))) | (first | with_reducible assumption | (with_reducible refine Below.drew ?_; with_reducible assumption) | (with_reducible refine ba _ _ ?_; with_reducible assumption) | (with_reducible refine Below.drew ?_; with_reducible refine ba _ _ ?_; with_reducible assumption) | exact Below.refl _ _ | exact (Below.refl _ _).drew | exact (Below.refl _ _).alloc (Nat.le_refl _) _ | (refine bc _ _ (by assumption) (by assumption))))
    clear hK K
    refine RegOk.put_ (m' := 507) (by kernel_rfl) ?_
    try simp only [Act.put, List.setIfInBounds_toArray, List.set_cons_zero, List.set_cons_succ]
    refine hR.come (rs := [2, 9]) (by kernel_rfl) (by simp) ?_
    refine AllReadyH.cons (o := ?o556_2) ?h556_2 (fun K hK => ?kw556_2) (AllReadyH.cons (o := ?o556_9) ?h556_9 (fun K hK => ?kw556_9) AllReadyH.nil)
    case h556_2 => simp only [List.getElem?_toArray, List.getElem?_cons_succ, List.getElem?_cons_zero]; rfl
    case h556_9 => simp only [List.getElem?_toArray, List.getElem?_cons_succ, List.getElem?_cons_zero]; rfl
    case kw556_2 =>
      go_simp <;> (try go_wp2_with fail)
      refine hK.out _ _ ?_ (fun hHeld => ?_)
      · (first | (repeat' (first | with_reducible assumption | with_reducible exact Gk.refl _ _ | with_reducible refine Gk.alloc ?_ _ | with_reducible refine Gk.drew ?_ | with_reducible refine Gk.set ?_ _ _ | with_reducible refine Gk.call ?_ (by with_reducible assumption))) | (first | with_reducible assumption | (with_reducible refine Below.drew ?_; with_reducible assumption) | (with_reducible refine ba _ _ ?_; with_reducible assumption) | (with_reducible refine Below.drew ?_; with_reducible refine ba _ _ ?_; with_reducible assumption) | exact Below.refl _ _ | exact (Below.refl _ _).drew | exact (Below.refl _ _).alloc (Nat.le_refl _) _ | (refine bc _ _ (by assumption) (by assumption))))
      clear hK K
      refine RegOk.put_ (m' := 511) (by kernel_rfl) ?_
      try simp only [Act.put, List.setIfInBounds_toArray, List.set_cons_zero, List.set_cons_succ]
      refine hR.come (rs := [9]) (by kernel_rfl) (by simp) ?_
      refine AllReadyH.cons (o := ?o557_9) ?h557_9 (fun K hK => ?kw557_9) AllReadyH.nil
      case h557_9 => simp only [List.getElem?_toArray, List.getElem?_cons_succ, List.getElem?_cons_zero]; rfl
      go_simp
      go_at_call 55; refine (powerE _ hyb.1 hyb.2 hk6).mono ?_; rw [HZ.out]; rintro e wP ⟨rfl, rfl⟩
      refine hK.out _ _ ?_ (fun hHeld => ?_)
      · (first | (repeat' (first | with_reducible assumption | with_reducible exact Gk.refl _ _ | with_reducible refine Gk.alloc ?_ _ | with_reducible refine Gk.drew ?_ | with_reducible refine Gk.set ?_ _ _ | with_reducible refine Gk.call ?_ (by with_reducible assumption))) | (first | with_reducible assumption | (with_reducible refine Below.drew ?_; with_reducible assumption) | (with_reducible refine ba _ _ ?_; with_reducible assumption) | (with_reducible refine Below.drew ?_; with_reducible refine ba _ _ ?_; with_reducible assumption) | exact Below.refl _ _ | exact (Below.refl _ _).drew | exact (Below.refl _ _).alloc (Nat.le_refl _) _ | (refine bc _ _ (by assumption) (by assumption))))
      clear hK K
      refine RegOk.put_ (m' := 1023) (by kernel_rfl) ?_
      try simp only [Act.put, List.setIfInBounds_toArray, List.set_cons_zero, List.set_cons_succ]
      refine hR.take (i := 10) (oi := ?ow558_10) (v := ?vw558_10) (m' := 2047) ?hw558_10 (by kernel_rfl) (by kernel_rfl) (fun _ _ _ h => h) (Or.inl ⟨?sw558_10, ?yw558_10⟩) (by assumption) ?nw558_10
      case hw558_10 => simp only [List.getElem?_toArray, List.getElem?_cons_succ, List.getElem?_cons_zero]; rfl
      case sw558_10 => rfl
      case yw558_10 => (intro w hSw; (try dsimp only at hSw); go_simp <;> with_reducible rfl)
      try simp only [Act.put, List.setIfInBounds_toArray, List.set_cons_zero, List.set_cons_succ]
      refine hR.take (i := 11) (oi := ?ow559_11) (v := ?vw559_11) (m' := 4095) ?hw559_11 (by kernel_rfl) (by kernel_rfl) (fun _ _ _ h => h) (Or.inl ⟨?sw559_11, ?yw559_11⟩) (by assumption) ?nw559_11
      case hw559_11 => simp only [List.getElem?_toArray, List.getElem?_cons_succ, List.getElem?_cons_zero]; rfl
      case sw559_11 => rfl
      case yw559_11 => (intro w hSw; (try dsimp only at hSw); go_simp <;> with_reducible rfl)
      try simp only [Act.put, List.setIfInBounds_toArray, List.set_cons_zero, List.set_cons_succ]
      refine hR.come (rs := [12]) (by kernel_rfl) (by simp) ?_
      refine AllReadyH.cons (o := ?o560_12) ?h560_12 (fun K hK => ?kw560_12) AllReadyH.nil
      case h560_12 => simp only [List.getElem?_toArray, List.getElem?_cons_succ, List.getElem?_cons_zero]; rfl
      go_simp <;> (try go_wp2_with fail)
      refine hK.out _ _ ?_ (fun hHeld => ?_)
      · (first | (repeat' (first | with_reducible assumption | with_reducible exact Gk.refl _ _ | with_reducible refine Gk.alloc ?_ _ | with_reducible refine Gk.drew ?_ | with_reducible refine Gk.set ?_ _ _ | with_reducible refine Gk.call ?_ (by with_reducible assumption))) | (first | with_reducible assumption | (with_reducible refine Below.drew ?_; with_reducible assumption) | (with_reducible refine ba _ _ ?_; with_reducible assumption) | (with_reducible refine Below.drew ?_; with_reducible refine ba _ _ ?_; with_reducible assumption) | exact Below.refl _ _ | exact (Below.refl _ _).drew | exact (Below.refl _ _).alloc (Nat.le_refl _) _ | (refine bc _ _ (by assumption) (by assumption))))
      clear hK K
      refine RegOk.put_ (m' := 8191) (by kernel_rfl) ?_
      try simp only [Act.put, List.setIfInBounds_toArray, List.set_cons_zero, List.set_cons_succ]
      refine hR.all (by kernel_rfl) ?_ _
      refine NoPanic.normal ?_
      go_wp2_with fail
      go_end0
      exact ⟨rfl, (by repeat' (first | with_reducible exact HO1.out | with_reducible exact HO.out | with_reducible assumption | with_reducible refine i64_store ?_ _ | with_reducible refine Own.drew ?_ | with_reducible refine Own.call ?_ (by with_reducible assumption) | with_reducible refine Own.alloc ?_ _)), ((Gk.refl k w).call B0.out).trans (by (repeat' (first | with_reducible assumption | with_reducible exact Gk.refl _ _ | with_reducible refine Gk.alloc ?_ _ | with_reducible refine Gk.drew ?_ | with_reducible refine Gk.set ?_ _ _ | with_reducible refine Gk.call ?_ (by with_reducible assumption))))⟩
    case kw556_9 =>
      go_simp
      go_at_call 55; refine (powerE _ hyb.1 hyb.2 hk6).mono ?_; rw [HZ.out]; rintro e wP ⟨rfl, rfl⟩
      refine hK.out _ _ ?_ (fun hHeld => ?_)
      · (first | (repeat' (first | with_reducible assumption | with_reducible exact Gk.refl _ _ | with_reducible refine Gk.alloc ?_ _ | with_reducible refine Gk.drew ?_ | with_reducible refine Gk.set ?_ _ _ | with_reducible refine Gk.call ?_ (by with_reducible assumption))) | (first | with_reducible assumption | (with_reducible refine Below.drew ?_; with_reducible assumption) | (with_reducible refine ba _ _ ?_; with_reducible assumption) | (with_reducible refine Below.drew ?_; with_reducible refine ba _ _ ?_; with_reducible assumption) | exact Below.refl _ _ | exact (Below.refl _ _).drew | exact (Below.refl _ _).alloc (Nat.le_refl _) _ | (refine bc _ _ (by assumption) (by assumption))))
      clear hK K
      refine RegOk.put_ (m' := 1019) (by kernel_rfl) ?_
      try simp only [Act.put, List.setIfInBounds_toArray, List.set_cons_zero, List.set_cons_succ]
      refine hR.come (rs := [2]) (by kernel_rfl) (by simp) ?_
      refine AllReadyH.cons (o := ?o561_2) ?h561_2 (fun K hK => ?kw561_2) AllReadyH.nil
      case h561_2 => simp only [List.getElem?_toArray, List.getElem?_cons_succ, List.getElem?_cons_zero]; rfl
      go_simp <;> (try go_wp2_with fail)
      refine hK.out _ _ ?_ (fun hHeld => ?_)
      · (first | (repeat' (first | with_reducible assumption | with_reducible exact Gk.refl _ _ | with_reducible refine Gk.alloc ?_ _ | with_reducible refine Gk.drew ?_ | with_reducible refine Gk.set ?_ _ _ | with_reducible refine Gk.call ?_ (by with_reducible assumption))) | (first | with_reducible assumption | (with_reducible refine Below.drew ?_; with_reducible assumption) | (with_reducible refine ba _ _ ?_; with_reducible assumption) | (with_reducible refine Below.drew ?_; with_reducible refine ba _ _ ?_; with_reducible assumption) | exact Below.refl _ _ | exact (Below.refl _ _).drew | exact (Below.refl _ _).alloc (Nat.le_refl _) _ | (refine bc _ _ (by assumption) (by assumption))))
      clear hK K
      refine RegOk.put_ (m' := 1023) (by kernel_rfl) ?_
      try simp only [Act.put, List.setIfInBounds_toArray, List.set_cons_zero, List.set_cons_succ]
      refine hR.take (i := 10) (oi := ?ow562_10) (v := ?vw562_10) (m' := 2047) ?hw562_10 (by kernel_rfl) (by kernel_rfl) (fun _ _ _ h => h) (Or.inl ⟨?sw562_10, ?yw562_10⟩) (by assumption) ?nw562_10
      case hw562_10 => simp only [List.getElem?_toArray, List.getElem?_cons_succ, List.getElem?_cons_zero]; rfl
      case sw562_10 => rfl
      case yw562_10 => (intro w hSw; (try dsimp only at hSw); go_simp <;> with_reducible rfl)
      try simp only [Act.put, List.setIfInBounds_toArray, List.set_cons_zero, List.set_cons_succ]
      refine hR.take (i := 11) (oi := ?ow563_11) (v := ?vw563_11) (m' := 4095) ?hw563_11 (by kernel_rfl) (by kernel_rfl) (fun _ _ _ h => h) (Or.inl ⟨?sw563_11, ?yw563_11⟩) (by assumption) ?nw563_11
      case hw563_11 => simp only [List.getElem?_toArray, List.getElem?_cons_succ, List.getElem?_cons_zero]; rfl
      case sw563_11 => rfl
      case yw563_11 => (intro w hSw; (try dsimp only at hSw); go_simp <;> with_reducible rfl)
      try simp only [Act.put, List.setIfInBounds_toArray, List.set_cons_zero, List.set_cons_succ]
      refine hR.come (rs := [12]) (by kernel_rfl) (by simp) ?_
      refine AllReadyH.cons (o := ?o564_12) ?h564_12 (fun K hK => ?kw564_12) AllReadyH.nil
      case h564_12 => simp only [List.getElem?_toArray, List.getElem?_cons_succ, List.getElem?_cons_zero]; rfl
      go_simp <;> (try go_wp2_with fail)
      refine hK.out _ _ ?_ (fun hHeld => ?_)
      · (first | (repeat' (first | with_reducible assumption | with_reducible exact Gk.refl _ _ | with_reducible refine Gk.alloc ?_ _ | with_reducible refine Gk.drew ?_ | with_reducible refine Gk.set ?_ _ _ | with_reducible refine Gk.call ?_ (by with_reducible assumption))) | (first | with_reducible assumption | (with_reducible refine Below.drew ?_; with_reducible assumption) | (with_reducible refine ba _ _ ?_; with_reducible assumption) | (with_reducible refine Below.drew ?_; with_reducible refine ba _ _ ?_; with_reducible assumption) | exact Below.refl _ _ | exact (Below.refl _ _).drew | exact (Below.refl _ _).alloc (Nat.le_refl _) _ | (refine bc _ _ (by assumption) (by assumption))))
      clear hK K
      refine RegOk.put_ (m' := 8191) (by kernel_rfl) ?_
      try simp only [Act.put, List.setIfInBounds_toArray, List.set_cons_zero, List.set_cons_succ]
      refine hR.all (by kernel_rfl) ?_ _
      refine NoPanic.normal ?_
      go_wp2_with fail
      go_end0
      exact ⟨rfl, (by repeat' (first | with_reducible exact HO1.out | with_reducible exact HO.out | with_reducible assumption | with_reducible refine i64_store ?_ _ | with_reducible refine Own.drew ?_ | with_reducible refine Own.call ?_ (by with_reducible assumption) | with_reducible refine Own.alloc ?_ _)), ((Gk.refl k w).call B0.out).trans (by (repeat' (first | with_reducible assumption | with_reducible exact Gk.refl _ _ | with_reducible refine Gk.alloc ?_ _ | with_reducible refine Gk.drew ?_ | with_reducible refine Gk.set ?_ _ _ | with_reducible refine Gk.call ?_ (by with_reducible assumption))))⟩
set_option maxHeartbeats 2000000 in
theorem add5 {q : Qy} {r : Rd} {A : Option Addr} {cc gs gq k n c base j : Nat} {xs : List Int} (w : World) (hs : w.heap[gs]? = some (.cells #[(.slice (some ⟨k, 0, none⟩) n c)] 33 (0, 0))) (hq : w.heap[gq]? = some (.cells #[.int .i64 q.kind, .int .i64 q.col, .int .i64 q.k, .slice A q.fs.length cc] 24 (0, 0))) (ho : Own .i64 (fun _ => False) w base 2 (.slice (some ⟨k, 0, none⟩) n c) xs) (hn : j < n)
    (hsk : gs ≠ k) (hqk : gq ≠ k) (hc0 : 0 ≤ q.col) (hc3 : q.col ≤ 3) (hj : fldI r q.col = j)
    (hx : 0 ≤ xs.getD j 0 ∧ xs.getD j 0 ≤ 274941996890625000) : Calls Tryd.prog 57 #[(.agg #[.int .i64 r.who, .int .i64 r.whn, .int .i64 r.knd, .int .i64 r.val]), .pointer (some ⟨gs, 0, none⟩), .pointer (some ⟨gq, 0, none⟩)] w (AddR w base k n c (xs.set j (xs.getD j 0 + 1))) := by
  obtain ⟨x, hxx⟩ : ∃ x, xs.getD j 0 = x := ⟨_, rfl⟩
  rw [hxx] at hx ⊢
  have HXX := Lib.hid hxx
  have HY := Lib.hid hj
  have HO := Lib.hid ho
  obtain ⟨_, e, -, hk, hnl⟩ := ho.block (by omega)
  injection e with e; injection e with e; subst e
  have ls := heap_lt hs
  have lq := heap_lt hq
  have HS := Lib.hid hs
  have HQ := Lib.hid hq
  have hw : IntKind.i64.wrap (x + 1) = x + 1 := IntWalk.i64_in _ (by omega)
  have hn0 : (j : Int) < (n : Int) := by omega
  have hj0 : (0 : Int) ≤ (j : Int) := by omega
  have HNL := Lib.hid hnl
  clear ho hs hq hxx hnl hj
  go_enter Tryd.func57, Tryd.ntmps57
  go_upto_region 1 with fail
  refine wp_world (F := fun wx => Below w.heap.size w wx ∧ Hid (wx.heap[w.heap.size]? = some (.cells #[.int .i64 r.who, .int .i64 r.whn, .int .i64 r.knd, .int .i64 r.val] 47 (0, 0)))) ⟨(by repeat' (first | with_reducible exact Below.refl _ _ | with_reducible assumption | with_reducible refine Below.setCell ?_ ?_ _ | with_reducible refine Below.drew ?_ | with_reducible refine below_drewN ?_ _ | with_reducible refine Below.alloc ?_ ?_ _ | (rintro _ ⟨⟩; simp <;> omega) | omega | (simp <;> omega))), Lib.hid (heap_alloc_at rfl)⟩ ?_
  rintro wr ⟨bb, gr⟩
  have B0 := Lib.hid bb
  have gs1 := mvQ HS bb
  have gq1 := mvQ HQ bb
  have HO1 := Lib.hid (HO.out.call bb)
  have hkr : k < wr.heap.size := Nat.lt_of_lt_of_le hk bb.size
  have v0 := i64_cell (k := j) HO1.out (by have := HNL.out; omega)
  rw [HXX.out] at v0
  have fk := HO1.out.frozen j
  have hrk : w.heap.size ≠ k := by omega
  have zs : ∀ W, Gk k wr W → W.cell? ⟨gs, 0, none⟩ = _ := fun W hW => (one (Lib.hid (hW.row gs1.out hsk))).1
  have zq : ∀ W, Gk k wr W → _ ∧ _ ∧ _ ∧ _ := fun W hW => row4 (Lib.hid (hW.row gq1.out hqk))
  have zr : ∀ W, Gk k wr W → _ ∧ _ ∧ _ ∧ _ := fun W hW => row4 (Lib.hid (hW.row gr.out hrk))
  have gr0 : Gk k wr wr := Gk.refl _ _
  clear bb gr
  refine wp_region_noPanic ?_
  refine wp_region_held_drew (S := fun X => Gk k wr X) (by kernel_rfl) ?_ (fun hHeld => ?_)
  · (first | (repeat' (first | with_reducible assumption | with_reducible exact Gk.refl _ _ | with_reducible refine Gk.alloc ?_ _ | with_reducible refine Gk.drew ?_ | with_reducible refine Gk.set ?_ _ _ | with_reducible refine Gk.call ?_ (by with_reducible assumption))) | (first | with_reducible assumption | (with_reducible refine Below.drew ?_; with_reducible assumption) | (with_reducible refine ba _ _ ?_; with_reducible assumption) | (with_reducible refine Below.drew ?_; with_reducible refine ba _ _ ?_; with_reducible assumption) | exact Below.refl _ _ | exact (Below.refl _ _).drew | exact (Below.refl _ _).alloc (Nat.le_refl _) _ | (refine bc _ _ (by assumption) (by assumption))))
  refine RegOk.begin_ (n := 10) (T := ev2E) ⟨by kernel_rfl, by kernel_rfl, by kernel_rfl, by kernel_rfl⟩ fun hR => ?_
  refine hR.take (i := 0) (oi := ?ow565_0) (v := ?vw565_0) (m' := 1) ?hw565_0 (by kernel_rfl) (by kernel_rfl) (fun _ _ _ h => h) (Or.inl ⟨?sw565_0, ?yw565_0⟩) (by assumption) ?nw565_0
  case hw565_0 => simp only [List.getElem?_toArray, List.getElem?_cons_succ, List.getElem?_cons_zero]; rfl
  case sw565_0 => rfl
  case yw565_0 => (intro w hSw; (try dsimp only at hSw); go_simp <;> with_reducible rfl)
  try simp only [Act.put, List.setIfInBounds_toArray, List.set_cons_zero, List.set_cons_succ]
  refine hR.take (i := 1) (oi := ?ow566_1) (v := ?vw566_1) (m' := 3) ?hw566_1 (by kernel_rfl) (by kernel_rfl) (fun _ _ _ h => h) (Or.inl ⟨?sw566_1, ?yw566_1⟩) (by assumption) ?nw566_1
  case hw566_1 => simp only [List.getElem?_toArray, List.getElem?_cons_succ, List.getElem?_cons_zero]; rfl
  case sw566_1 => rfl
  case yw566_1 => (intro w hSw; (try dsimp only at hSw); go_simp <;> with_reducible rfl)
  try simp only [Act.put, List.setIfInBounds_toArray, List.set_cons_zero, List.set_cons_succ]
  refine hR.take (i := 2) (oi := ?ow567_2) (v := ?vw567_2) (m' := 7) ?hw567_2 (by kernel_rfl) (by kernel_rfl) (fun _ _ _ h => h) (Or.inl ⟨?sw567_2, ?yw567_2⟩) (by assumption) ?nw567_2
  case hw567_2 => simp only [List.getElem?_toArray, List.getElem?_cons_succ, List.getElem?_cons_zero]; rfl
  case sw567_2 => rfl
  case yw567_2 => (intro w hSw; (try dsimp only at hSw); go_simp <;> with_reducible rfl)
  try simp only [Act.put, List.setIfInBounds_toArray, List.set_cons_zero, List.set_cons_succ]
  refine hR.take (i := 3) (oi := ?ow568_3) (v := ?vw568_3) (m' := 15) ?hw568_3 (by kernel_rfl) (by kernel_rfl) (fun _ _ _ h => h) (Or.inl ⟨?sw568_3, ?yw568_3⟩) (by assumption) ?nw568_3
  case hw568_3 => simp only [List.getElem?_toArray, List.getElem?_cons_succ, List.getElem?_cons_zero]; rfl
  case sw568_3 => rfl
  case yw568_3 => (intro w hSw; (try dsimp only at hSw); go_simp <;> with_reducible rfl)
  try simp only [Act.put, List.setIfInBounds_toArray, List.set_cons_zero, List.set_cons_succ]
  refine hR.come (rs := [4]) (by kernel_rfl) (by simp) ?_
  refine AllReadyH.cons (o := ?o569_4) ?h569_4 (fun K hK => ?kw569_4) AllReadyH.nil
  case h569_4 => simp only [List.getElem?_toArray, List.getElem?_cons_succ, List.getElem?_cons_zero]; rfl
  go_simp
  go_at_call 53; refine (columnE (r := r) _ hc0 hc3).mono ?_; rw [HY.out]; rintro e wC ⟨rfl, hC⟩; have HOC := Lib.hid (show Own .i64 (fun _ => False) wC base 2 (.slice (some ⟨k, 0, none⟩) n c) xs from (by repeat' (first | with_reducible exact HO1.out | with_reducible exact HO.out | with_reducible assumption | with_reducible refine i64_store ?_ _ | with_reducible refine Own.drew ?_ | with_reducible refine Own.call ?_ (by with_reducible assumption) | with_reducible refine Own.alloc ?_ _))); have v0C := i64_cell (k := j) HOC.out (by have := HNL.out; omega); rw [HXX.out] at v0C; have fkC := HOC.out.frozen j; have hkC := (HOC.out.lt k rfl).2
  refine hK.out _ _ ?_ (fun hHeld => ?_)
  · (first | (repeat' (first | with_reducible assumption | with_reducible exact Gk.refl _ _ | with_reducible refine Gk.alloc ?_ _ | with_reducible refine Gk.drew ?_ | with_reducible refine Gk.set ?_ _ _ | with_reducible refine Gk.call ?_ (by with_reducible assumption))) | (first | with_reducible assumption | (with_reducible refine Below.drew ?_; with_reducible assumption) | (with_reducible refine ba _ _ ?_; with_reducible assumption) | (with_reducible refine Below.drew ?_; with_reducible refine ba _ _ ?_; with_reducible assumption) | exact Below.refl _ _ | exact (Below.refl _ _).drew | exact (Below.refl _ _).alloc (Nat.le_refl _) _ | (refine bc _ _ (by assumption) (by assumption))))
  clear hK K
  refine RegOk.put_ (m' := 31) (by kernel_rfl) ?_
  try simp only [Act.put, List.setIfInBounds_toArray, List.set_cons_zero, List.set_cons_succ]
  refine hR.take (i := 5) (oi := ?ow570_5) (v := ?vw570_5) (m' := 63) ?hw570_5 (by kernel_rfl) (by kernel_rfl) (fun _ _ _ h => h) (Or.inl ⟨?sw570_5, ?yw570_5⟩) (by assumption) ?nw570_5
  case hw570_5 => simp only [List.getElem?_toArray, List.getElem?_cons_succ, List.getElem?_cons_zero]; rfl
  case sw570_5 => rfl
  case yw570_5 => (intro w hSw; (try dsimp only at hSw); go_simp <;> with_reducible rfl)
  try simp only [Act.put, List.setIfInBounds_toArray, List.set_cons_zero, List.set_cons_succ]
  refine hR.come (rs := [6]) (by kernel_rfl) (by simp) ?_
  refine AllReadyH.cons (o := ?o571_6) ?h571_6 (fun K hK => ?kw571_6) AllReadyH.nil
  case h571_6 => simp only [List.getElem?_toArray, List.getElem?_cons_succ, List.getElem?_cons_zero]; rfl
  go_simp <;> (try go_wp2_with fail)
  refine hK.out _ _ ?_ (fun hHeld => ?_)
  · (first | (repeat' (first | with_reducible assumption | with_reducible exact Gk.refl _ _ | with_reducible refine Gk.alloc ?_ _ | with_reducible refine Gk.drew ?_ | with_reducible refine Gk.set ?_ _ _ | with_reducible refine Gk.call ?_ (by with_reducible assumption))) | (first | with_reducible assumption | (with_reducible refine Below.drew ?_; with_reducible assumption) | (with_reducible refine ba _ _ ?_; with_reducible assumption) | (with_reducible refine Below.drew ?_; with_reducible refine ba _ _ ?_; with_reducible assumption) | exact Below.refl _ _ | exact (Below.refl _ _).drew | exact (Below.refl _ _).alloc (Nat.le_refl _) _ | (refine bc _ _ (by assumption) (by assumption))))
  clear hK K
  refine RegOk.put_ (m' := 127) (by kernel_rfl) ?_
  try simp only [Act.put, List.setIfInBounds_toArray, List.set_cons_zero, List.set_cons_succ]
  refine hR.take (i := 7) (oi := ?ow572_7) (v := ?vw572_7) (m' := 255) ?hw572_7 (by kernel_rfl) (by kernel_rfl) (fun _ _ _ h => h) (Or.inl ⟨?sw572_7, ?yw572_7⟩) (by assumption) ?nw572_7
  case hw572_7 => simp only [List.getElem?_toArray, List.getElem?_cons_succ, List.getElem?_cons_zero]; rfl
  case sw572_7 => rfl
  case yw572_7 => (intro w hSw; (try dsimp only at hSw); go_simp <;> with_reducible rfl)
  try simp only [Act.put, List.setIfInBounds_toArray, List.set_cons_zero, List.set_cons_succ]
  refine hR.take (i := 8) (oi := ?ow573_8) (v := ?vw573_8) (m' := 511) ?hw573_8 (by kernel_rfl) (by kernel_rfl) (fun _ _ _ h => h) (Or.inl ⟨?sw573_8, ?yw573_8⟩) (by assumption) ?nw573_8
  case hw573_8 => simp only [List.getElem?_toArray, List.getElem?_cons_succ, List.getElem?_cons_zero]; rfl
  case sw573_8 => rfl
  case yw573_8 => (intro w hSw; (try dsimp only at hSw); go_simp <;> with_reducible rfl)
  try simp only [Act.put, List.setIfInBounds_toArray, List.set_cons_zero, List.set_cons_succ]
  refine hR.come (rs := [9]) (by kernel_rfl) (by simp) ?_
  refine AllReadyH.cons (o := ?o574_9) ?h574_9 (fun K hK => ?kw574_9) AllReadyH.nil
  case h574_9 => simp only [List.getElem?_toArray, List.getElem?_cons_succ, List.getElem?_cons_zero]; rfl
  go_simp <;> (try go_wp2_with fail)
  refine hK.out _ _ ?_ (fun hHeld => ?_)
  · (first | (repeat' (first | with_reducible assumption | with_reducible exact Gk.refl _ _ | with_reducible refine Gk.alloc ?_ _ | with_reducible refine Gk.drew ?_ | with_reducible refine Gk.set ?_ _ _ | with_reducible refine Gk.call ?_ (by with_reducible assumption))) | (first | with_reducible assumption | (with_reducible refine Below.drew ?_; with_reducible assumption) | (with_reducible refine ba _ _ ?_; with_reducible assumption) | (with_reducible refine Below.drew ?_; with_reducible refine ba _ _ ?_; with_reducible assumption) | exact Below.refl _ _ | exact (Below.refl _ _).drew | exact (Below.refl _ _).alloc (Nat.le_refl _) _ | (refine bc _ _ (by assumption) (by assumption))))
  clear hK K
  refine RegOk.put_ (m' := 1023) (by kernel_rfl) ?_
  try simp only [Act.put, List.setIfInBounds_toArray, List.set_cons_zero, List.set_cons_succ]
  refine hR.all (by kernel_rfl) ?_ _
  refine NoPanic.normal ?_
  go_wp2_with fail
  go_end0
  exact ⟨rfl, (by repeat' (first | with_reducible exact HO1.out | with_reducible exact HO.out | with_reducible assumption | with_reducible refine i64_store ?_ _ | with_reducible refine Own.drew ?_ | with_reducible refine Own.call ?_ (by with_reducible assumption) | with_reducible refine Own.alloc ?_ _)), ((Gk.refl k w).call B0.out).trans (by (repeat' (first | with_reducible assumption | with_reducible exact Gk.refl _ _ | with_reducible refine Gk.alloc ?_ _ | with_reducible refine Gk.drew ?_ | with_reducible refine Gk.set ?_ _ _ | with_reducible refine Gk.call ?_ (by with_reducible assumption))))⟩
end Go.Proofs.YtmkpaolbejlodaaDoor
