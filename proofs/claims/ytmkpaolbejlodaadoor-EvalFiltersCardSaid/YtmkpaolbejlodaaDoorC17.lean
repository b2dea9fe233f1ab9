/-
  Texts of this claim, merged: Raw, EvW. Conditions: as each theorem says.
-/
import Derived.Lib.Mul64
import Derived.Laws.Bits64b
import Derived.Shelf.Bits.Mul64
import Derived.Test.YtmkpaolbejlodaaDoorC1
import Derived.Test.YtmkpaolbejlodaaDoorC2
import Derived.Test.YtmkpaolbejlodaaDoorC3
import Derived.Test.YtmkpaolbejlodaaDoorC4
import Derived.Test.YtmkpaolbejlodaaDoorC5
import Derived.Test.YtmkpaolbejlodaaDoorC6
import Derived.Test.YtmkpaolbejlodaaDoorC7
import Derived.Test.YtmkpaolbejlodaaDoorC8
import Derived.Test.YtmkpaolbejlodaaDoorC9
import Derived.Test.YtmkpaolbejlodaaDoorC10
import Derived.Test.YtmkpaolbejlodaaDoorC11
import Derived.Test.YtmkpaolbejlodaaDoorC12
import Derived.Test.YtmkpaolbejlodaaDoorC13
import Derived.Test.YtmkpaolbejlodaaDoorC14
import Derived.Test.YtmkpaolbejlodaaDoorC15
set_option linter.unusedSimpArgs false
set_option linter.unusedVariables false
namespace Go.Proofs.YtmkpaolbejlodaaDoor
open Go.RowKit

def Enc.raw : Enc Value := ⟨1, fun _ _ cs x => cs = [x] ∧ x.oneCell' = true, by rintro _ _ _ _ ⟨rfl, _⟩; rfl, fun h _ => h, fun h _ => h, by rintro _ _ _ _ ⟨rfl, h⟩ u hu; simp at hu; subst hu; exact h⟩
theorem raw_flat : Enc.raw.Flat := fun h => h
theorem SlT.raw {α : Type} {P : Program} {t e : TypeId} {E : Enc α} {bytes : Nat} (T : SlT P t e E bytes) (h1 : E.size = 1) : SlT P t e Enc.raw bytes :=
  ⟨T.und, by rw [T.info, h1]; rfl, Nat.one_pos⟩
section
variable {α : Type} {E : Enc α} {S T : Nat → Prop} {w : World}
theorem Elems.toRaw : ∀ {xs : List (List α)} {cs : List Value}, Elems E.slice S w cs xs → Elems Enc.raw T w cs cs ∧ cs.length = xs.length ∧ ∀ (i : Nat) x, xs[i]? = some x → ∃ A c, cs[i]? = some (.slice A x.length c) ∧ Sl E S w A c x
  | [], cs, h => by have h' : cs = [] := h; subst h'; exact ⟨rfl, rfl, by simp⟩
  | x :: xs, cs, ⟨c, d, e, ⟨A, k, h1, h2⟩, h3⟩ => by
    subst h1; subst e
    obtain ⟨g1, g2, g3⟩ := Elems.toRaw h3
    refine ⟨⟨_, _, rfl, ⟨rfl, rfl⟩, g1⟩, by simp [g2], fun i y hy => ?_⟩
    cases i with
    | zero => simp at hy; subst hy; exact ⟨A, k, rfl, h2⟩
    | succ i => exact g3 i y (by simpa using hy)
theorem Elems.ofRaw : ∀ {xs : List (List α)} {cs : List Value}, cs.length = xs.length → (∀ (i : Nat) x, xs[i]? = some x → ∃ A c, cs[i]? = some (.slice A x.length c) ∧ Sl E S w A c x) → Elems E.slice S w cs xs
  | [], cs, h, _ => by have h' : cs = [] := List.eq_nil_of_length_eq_zero h; exact h'
  | x :: xs, [], h, _ => by simp at h
  | x :: xs, c :: cs, h, g => by
    obtain ⟨A, k, h1, h2⟩ := g 0 x rfl
    have h1' : c = .slice A x.length k := by simpa using h1
    subst h1'
    exact ⟨[_], cs, rfl, ⟨A, k, rfl, h2⟩, Elems.ofRaw (by simpa using h) fun i y hy => by simpa using g (i + 1) y (by simpa using hy)⟩
theorem raw_cells : ∀ {vs cs : List Value}, Elems Enc.raw S w cs vs → cs = vs
  | [], cs, h => h
  | v :: vs, cs, ⟨c, d, e, ⟨h1, _⟩, h2⟩ => by rw [e, h1, raw_cells h2]; rfl
theorem Own.toRaw {base : Nat} {e : TypeId} {v : Value} {xs : List (List α)} (h : Own E.slice S w base e v xs) :
    ∃ vs : List Value, Own Enc.raw (fun _ => False) w base e v vs ∧ vs.length = xs.length ∧ ∀ (i : Nat) x, xs[i]? = some x → ∃ A c, vs[i]? = some (.slice A x.length c) ∧ Sl E S w A c x := by
  obtain ⟨cs, hown, hel⟩ := h
  obtain ⟨g1, g2, g3⟩ := hel.toRaw
  exact ⟨cs, ⟨cs, by rw [g2]; exact hown, g1⟩, g2, g3⟩
theorem Own.ofRaw {base : Nat} {e : TypeId} {v : Value} {vs : List Value} {xs : List (List α)} (h : Own Enc.raw T w base e v vs) (hl : vs.length = xs.length) (hx : ∀ (i : Nat) x, xs[i]? = some x → ∃ A c, vs[i]? = some (.slice A x.length c) ∧ Sl E S w A c x) : Own E.slice S w base e v xs := by
  obtain ⟨cs, hown, hel⟩ := h
  obtain rfl := raw_cells hel
  exact ⟨cs, by rw [← hl]; exact hown, Elems.ofRaw hl hx⟩
theorem Own.rawCell {base n c g k : Nat} {e : TypeId} {vs : List Value} {u : Value} (h : Own Enc.raw S w base e (.slice (some ⟨g, 0, none⟩) n c) vs) (hk : vs[k]? = some u) : w.cell? ⟨g, k, none⟩ = some u := by
  obtain ⟨cs, ⟨rfl, _⟩, hc⟩ := h.at_ hk
  have h1 := hc 0 _ rfl
  simpa [Enc.raw] using h1
end
end Go.Proofs.YtmkpaolbejlodaaDoor
namespace Go.Proofs.YtmkpaolbejlodaaDoor
open Go.RowKit

theorem Sl.toRawW {α : Type} {E : Enc α} {S : Nat → Prop} {w : World} {A : Option Addr} {c : Nat} {xs : List (List α)} (h : Sl E.slice S w A c xs) :
    ∃ vs : List Value, vs.length = xs.length ∧ Sl Enc.raw S w A c vs ∧ ∀ (i : Nat) x, xs[i]? = some x → ∃ A c, vs[i]? = some (.slice A x.length c) ∧ Sl E S w A c x := by
  obtain ⟨h1, h2, cs, hr, he⟩ := h
  obtain ⟨g1, g2, g3⟩ := he.toRaw (T := S)
  exact ⟨cs, g2, ⟨by rw [g2]; exact h1, h2, cs, hr, g1⟩, g3⟩
theorem rawTW : SlT Tryd.prog 22 49 Enc.raw 24 := cfsT.raw rfl
theorem raw_set0W {S : Nat → Prop} {w : World} {vs : List Value} {u : Value} (hu : u.oneCell' = true) (h : Elems Enc.raw S w vs vs) : Elems Enc.raw S w (vs.set 0 u) (vs.set 0 u) := by
  cases vs with
  | nil => exact h
  | cons v vs =>
    obtain ⟨c, d, e, ⟨hc, _⟩, hd⟩ := h
    subst hc
    have e2 : vs = d := by injection e
    exact ⟨[u], vs, rfl, ⟨rfl, hu⟩, by rw [e2] at hd ⊢; exact hd⟩
theorem own_set0W {w w' : World} {base n c k m c1 : Nat} {e : TypeId} {A1 : Option Addr} {S : Nat → Prop} {vs : List Value} {x : Qy} {l : List Cd} (h : Own Enc.raw (fun _ => False) w base e (.slice (some ⟨k, 0, none⟩) n c) vs) (hl : vs.length = x.fs.length) (hm : l.length = m)
    (hx : ∀ (i : Nat) y, x.fs[i]? = some y → ∃ A c, vs[i]? = some (.slice A y.length c) ∧ Sl cdE S (w.setCell ⟨k, 0, none⟩ (.slice A1 m c1)) A c y) (h1 : Sl cdE S (w.setCell ⟨k, 0, none⟩ (.slice A1 m c1)) A1 c1 l) (hw : w' = w.setCell ⟨k, 0, none⟩ (.slice A1 m c1)) :
    Own cdE.slice S w' base e (.slice (some ⟨k, 0, none⟩) n c) (setQ x l).fs := by
  subst hw; subst hm
  have hraw := (h.stored (j := 0) (u := .slice A1 l.length c1) (ys := vs.set 0 (.slice A1 l.length c1)) (fun h => h) (by simp) (fun cs hel => by obtain rfl := raw_cells hel; exact raw_set0W rfl hel) rfl)
  refine hraw.ofRaw (by simp [setQ, hl]) fun i y hy => ?_
  have hy' : (x.fs.set 0 l)[i]? = some y := hy
  cases i with
  | zero =>
    have h0 : 0 < x.fs.length := by
      have := (List.getElem?_eq_some_iff.1 hy').1
      simpa using this
    rw [List.getElem?_set_self h0] at hy'
    injection hy' with hy'
    subst hy'
    exact ⟨A1, c1, by rw [List.getElem?_set_self (by rw [hl]; exact h0)], h1⟩
  | succ i =>
    rw [List.getElem?_set_ne (by omega)] at hy'
    obtain ⟨A, c, h2, h3⟩ := hx (i + 1) y hy'
    exact ⟨A, c, by rw [List.getElem?_set_ne (by omega)]; exact h2, h3⟩
theorem row3W {W : World} {g : Nat} {u v x : Value} {t : TypeId} (h : Hid (W.heap[g]? = some (.cells #[u, v, x] t (0, 0)))) :
    W.cell? ⟨g, 0, none⟩ = some u ∧ W.cell? ⟨g, 1, none⟩ = some v ∧ W.cell? ⟨g, 2, none⟩ = some x :=
  ⟨cell_of_row _ _ 0 _ _ _ h.out, cell_of_row _ _ 1 _ _ _ h.out, cell_of_row _ _ 2 _ _ _ h.out⟩
theorem set4W {W : World} {g : Nat} {t : TypeId} {a b c d u v x y : Value} (h : W.heap[g]? = some (.cells #[a, b, c, d] t (0, 0))) :
    ((((W.setCell ⟨g, 0, none⟩ u).setCell ⟨g, 1, none⟩ v).setCell ⟨g, 2, none⟩ x).setCell ⟨g, 3, none⟩ y).heap[g]? = some (.cells #[u, v, x, y] t (0, 0)) :=
  heap_set (i := 3) (heap_set (i := 2) (heap_set (i := 1) (heap_set (i := 0) h)))
def evW : List FRow := [(0, ([], (20, [5]))), (1, ([0], (21, [19]))), (2, ([], (22, [6]))), (3, ([], (23, [3]))), (4, ([3], (24, [22]))), (5, ([2, 4], (25, [21, 23]))), (6, ([1, 0, 1, 2, 3, 4, 5], (26, [20]))), (7, ([6, 5, 5, 0, 1, 2, 3, 4, 5], (0, [25, 24])))]
set_option maxRecDepth 100000 in
set_option maxHeartbeats 4000000 in
theorem withP {x : Qy} {cx : Cd} {B : Option Addr} {d : Nat} {S : Nat → Prop} (w : World) (h : Sl cdE.slice S w B d x.fs) (h0 : 0 < x.fs.length) (h2 : x.fs.length ≤ 2) (h3 : (fl x 0).length ≤ 3) :
    Calls Tryd.prog 28 #[.agg #[.int .i64 x.kind, .int .i64 x.col, .int .i64 x.k, .slice B x.fs.length d], .agg #[.int .i64 cx.col, .int .i64 cx.lo, .int .i64 cx.hi]] w
      fun e w' => ∃ B' d', e = .returned (.agg #[.int .i64 x.kind, .int .i64 x.col, .int .i64 x.k, .slice B' x.fs.length d']) ∧ Sl cdE.slice (fun _ => True) w' B' d' (setQ x (fl x 0 ++ [cx])).fs ∧ Below w.heap.size w w' := by
  have H := Lib.hid (h.sub (T := fun b => b < w.heap.size) fun _ _ h => h)
  have hm := h.max
  clear h
  go_enter Tryd.func28, Tryd.ntmps28
  go_upto_region 2 with fail
  refine wp_world (F := fun wx => wx.heap.size = w.heap.size + 1 + 1 + 1 + 1 ∧ Below w.heap.size w wx ∧ Hid (wx.heap[w.heap.size]? = some (.cells #[.int .i64 x.kind, .int .i64 x.col, .int .i64 x.k, .slice B x.fs.length d] 24 (0, 0))) ∧ Hid (wx.heap[w.heap.size + 1]? = some (.cells #[.int .i64 cx.col, .int .i64 cx.lo, .int .i64 cx.hi] 58 (0, 0))) ∧ Hid (wx.heap[w.heap.size + 1 + 1]? = some (.cells #[.int .i64 0, .int .i64 0, .int .i64 0, .slice none 0 0] 24 (0, 0))) ∧ Hid (wx.heap[w.heap.size + 1 + 1 + 1]? = some (.cells #[.int .i64 x.kind, .int .i64 x.col, .int .i64 x.k, .slice B x.fs.length d] 24 (0, 0)))) ⟨by simp, (by repeat' (first | with_reducible exact Below.refl _ _ | with_reducible assumption | with_reducible refine Below.setCell ?_ ?_ _ | with_reducible refine Below.drew ?_ | with_reducible refine below_drewN ?_ _ | with_reducible refine Below.alloc ?_ ?_ _ | (rintro _ ⟨⟩; simp <;> omega) | omega | (simp <;> omega))), Lib.hid ((Below.heap_alloc _ _ _ (by simp <;> omega)).trans ((Below.heap_alloc _ _ _ (by simp <;> omega)).trans ((Below.heap_alloc _ _ _ (by simp)).trans (heap_alloc_at rfl)))), Lib.hid ((Below.heap_alloc _ _ _ (by simp <;> omega)).trans ((Below.heap_alloc _ _ _ (by simp)).trans (heap_alloc_at (by simp)))), Lib.hid ((Below.heap_alloc _ _ _ (by simp)).trans (heap_alloc_at (by simp))), Lib.hid (heap_alloc_at (by simp))⟩ ?_
  rintro w1 ⟨hz1, bb, gq, gc, gr, go_⟩
  have Z1 := Lib.hid hz1
  have B1 := Lib.hid bb
  have F1 := Lib.hid (H.out.keep (Below.agree bb))
  obtain ⟨vs, hvl, hrs, hvf⟩ := F1.out.toRawW
  have HVL := Lib.hid hvl
  have HRS := Lib.hid hrs
  have HVF := Lib.hid hvf
  have hl0 : x.fs[0]? = some (fl x 0) := by unfold fl; rw [List.getD_eq_getElem?_getD, List.getElem?_eq_getElem h0]; rfl
  have HL0 := Lib.hid hl0
  clear hz1 bb H hvl hrs hvf hl0
  obtain ⟨q0, q1, q2, q3⟩ := row4 gq
  have lgq := heap_lt gq.out
  go_cut [5] (fun p wx => ∃ (k : Nat) (cy : Nat), p = .pointer (some ⟨w.heap.size + 1 + 1 + 1, 0, none⟩) ∧ Hid (wx.heap[w.heap.size + 1 + 1 + 1]? = some (.cells #[.int .i64 x.kind, .int .i64 x.col, .int .i64 x.k, .slice (some ⟨k, 0, none⟩) x.fs.length cy] 24 (0, 0))) ∧ Own Enc.raw (fun _ => False) wx w1.heap.size 49 (.slice (some ⟨k, 0, none⟩) x.fs.length cy) vs ∧ w1.heap.size ≤ k ∧ Below (w.heap.size + 1 + 1 + 1) w1 wx)
  case first =>
    go_wp2_with (at_builtin; go_must ((refine wpList_append_E (E := Enc.raw) (S := fun b => b < w.heap.size) rfl (.tmp 8) (.tmp 10) rfl rawTW (base := w1.heap.size) (v := .slice (some ⟨w1.heap.size, 0, none⟩) 0 0) (xs := []) (ys := vs) (by rfl) (by rfl) HVL.out (nz := x.fs.length) (by simp [HVL.out]) (Own.litAt _ _ _ _ rfl (Nat.le_refl _)) (HRS.out.alloc_ _) (by unfold maxLen; simp [HVL.out]; omega) (by simp [HVL.out]; omega) (by simp) (fun g' hg' (hlt : g' < w.heap.size) => by have h1 : some w1.heap.size = some g' := hg'; injection h1 with h1; have := B1.out.size; omega) ?_); intro A7 c7 w7 hown7 hg7 hor7; obtain ⟨k7, rfl, hk7, hkl7, -⟩ := hown7.block h0; have ho7 := Lib.hid (hown7.flat raw_flat (T := fun _ => False)); have hb7 : Below w1.heap.size w1 w7 := ((Below.refl w1.heap.size w1).alloc (Nat.le_refl _) _).grown hg7 (by simp) (fun k hk => by have h2 : some w1.heap.size = some k := hk; injection h2 with h2; omega); have gy7 := mvQ go_ hb7; have fg7 := frz gy7.out; have lg7 := heap_lt gy7.out; have vg7 := (row4 gy7).2.2.2))
    go_meet
    case rel =>
      have lo7 := ho7.out.lt
      have z1 := Z1.out
      exact ⟨k7, c7, rfl, Lib.hid (heap_set (i := 3) gy7.out), ho7.out.set (fun e => by have h1 := (lo7 _ e).1; dsimp only at h1; omega) (fun h => h) _, hk7, (hb7.mono (by omega)).setCell (by dsimp only; omega) _⟩
  obtain ⟨k, cy, rfl, gy, hraw, hk, hb⟩ := hcut
  obtain ⟨w2, hwv⟩ : ∃ x, x = wc := ⟨_, rfl⟩
  subst hwv
  have hz := Z1.out
  have HRAW := Lib.hid hraw
  have B2 := Lib.hid (B1.out.trans (hb.mono (by omega)))
  have gq2 : Hid (w2.heap[w.heap.size]? = some (.cells #[.int .i64 x.kind, .int .i64 x.col, .int .i64 x.k, .slice B x.fs.length d] 24 (0, 0))) := Lib.hid ((hb.block _ (by omega)).trans gq.out)
  have gc2 : Hid (w2.heap[w.heap.size + 1]? = some (.cells #[.int .i64 cx.col, .int .i64 cx.lo, .int .i64 cx.hi] 58 (0, 0))) := Lib.hid ((hb.block _ (by omega)).trans gc.out)
  have gr2 : Hid (w2.heap[w.heap.size + 1 + 1]? = some (.cells #[.int .i64 0, .int .i64 0, .int .i64 0, .slice none 0 0] 24 (0, 0))) := Lib.hid ((hb.block _ (by omega)).trans gr.out)
  have F2 := Lib.hid (F1.out.belowE hb (fun b h => by have h' : b < w.heap.size := h; omega))
  have HV2 : Hid (∀ (i : Nat) y, x.fs[i]? = some y → ∃ A c, vs[i]? = some (.slice A y.length c) ∧ Sl cdE (fun b => b < w.heap.size) w2 A c y) := Lib.hid fun i y hy => by
    obtain ⟨A, c, h1, h2⟩ := HVF.out i y hy
    exact ⟨A, c, h1, h2.belowE hb (fun b h => by have h' : b < w.heap.size := h; omega)⟩
  have hz2 : w.heap.size + 1 + 1 + 1 + 1 ≤ w2.heap.size := by have := hb.size; omega
  have HK := Lib.hid (show w.heap.size + 1 + 1 + 1 + 1 ≤ k ∧ k < w2.heap.size from ⟨by omega, (hraw.lt k rfl).2⟩)
  obtain ⟨b1, o1, C1, d1, rfl, hSb1, l1, u1, hs1⟩ := flt_at F2.out HL0.out
  simp only [Nat.add_zero] at u1
  have HS1 := Lib.hid hs1
  have hm1 := hs1.max
  clear hraw hk hb gq gc gr F1 HRS HVF q0 q1 q2 q3 lgq hz hs1 go_
  obtain ⟨q0, q1, q2, q3⟩ := row4 gq2
  have lgq := heap_lt gq2.out
  have lb1 : b1 < w2.heap.size + 1 := by omega
  have hi0 : (0 : Int) < (x.fs.length : Int) := by omega
  go_upto_region 3 with fail
  go_cut [6] (fun v wx => ∃ (A8 : Option Addr) (c8 : Nat), v = .slice A8 (fl x 0).length c8 ∧ Own cdE (fun _ => False) wx w2.heap.size 58 (.slice A8 (fl x 0).length c8) (fl x 0) ∧ Below w2.heap.size w2 wx)
  case first =>
    go_wp2_with (at_builtin; go_must ((refine wpList_append_E (E := cdE) (S := fun b => b < w.heap.size) rfl (.tmp 13) (.tmp 17) rfl cdsT (base := w2.heap.size) (v := .slice (some ⟨w2.heap.size, 0, none⟩) 0 0) (xs := []) (ys := fl x 0) (by rfl) (by rfl) rfl (nz := (fl x 0).length) (by simp) (Own.litAt _ _ _ _ rfl (Nat.le_refl _)) (HS1.out.alloc_ _) (by unfold maxLen; simp; omega) (by simp; omega) (by simp) (fun g' hg' (hlt : g' < w.heap.size) => by have h1 : some w2.heap.size = some g' := hg'; injection h1 with h1; omega) ?_); intro A7 c7 w7 hown7 hg7 hor7; have ho7 := Lib.hid (hown7.flat cdE_flat (T := fun _ => False)); have hb7 : Below w2.heap.size w2 w7 := ((Below.refl w2.heap.size w2).alloc (Nat.le_refl _) _).grown hg7 (by simp) (fun k hk => by have h2 : some w2.heap.size = some k := hk; injection h2 with h2; omega)))
    go_meet
    case rel => exact ⟨A7, c7, rfl, ho7.out, hb7⟩
  obtain ⟨A8, c8, rfl, ho8, hb⟩ := hcut
  obtain ⟨w3, hwv⟩ : ∃ x, x = wc := ⟨_, rfl⟩
  subst hwv
  have HO8 := Lib.hid ho8
  have lo8 := ho8.lt
  have B3 := Lib.hid (B2.out.trans (hb.mono (by omega)))
  have gc3 := mvQ gc2 hb
  have gr3 := mvQ gr2 hb
  have gy3 := mvQ gy hb
  have HR3 := Lib.hid (HRAW.out.call hb)
  have HV3 : Hid (∀ (i : Nat) y, x.fs[i]? = some y → ∃ A c, vs[i]? = some (.slice A y.length c) ∧ Sl cdE (fun b => b < w.heap.size) w3 A c y) := Lib.hid fun i y hy => by
    obtain ⟨A, c, h1, h2⟩ := HV2.out i y hy
    exact ⟨A, c, h1, h2.keep (Below.agree hb)⟩
  obtain ⟨Av, cv, hv0, -⟩ := HV3.out 0 _ HL0.out
  have HV0 := Lib.hid hv0
  have lz3 := hb.size
  obtain ⟨N, hN⟩ : ∃ N, w.heap.size + 1 + 1 + 1 + 1 = N := ⟨_, rfl⟩
  have HN := Lib.hid hN
  have hk2 := HK.out
  have lN3 : N ≤ w3.heap.size := by omega
  have lk3 : N ≤ k := by omega
  have lk4 : k < w3.heap.size := by omega
  have lw2 : N ≤ w2.heap.size := by omega
  have ly3 : w.heap.size + 1 + 1 + 1 < N := by omega
  have lc3 : w.heap.size + 1 < N := by omega
  have lr3 : w.heap.size + 1 + 1 < N := by omega
  clear hN hk2 hz2 hb ho8 hv0 gq2 gc2 gr2 gy HRAW HV2 q0 q1 q2 q3 lgq lb1 u1 l1 HS1
  have zy : ∀ W, Below N w3 W → _ ∧ _ ∧ _ ∧ _ := fun W hW => row4 (Lib.hid ((hW.block _ ly3).trans gy3.out))
  have zc : ∀ W, Below N w3 W → _ ∧ _ ∧ _ := fun W hW => row3W (Lib.hid ((hW.block _ lc3).trans gc3.out))
  have br : Below N w3 w3 := Below.refl _ _
  have ba : ∀ W o, Below N w3 W → Below N w3 (W.alloc o) := fun W o h => h.alloc (Nat.le_trans lN3 h.size) o
  have bc : ∀ W W', Below N w3 W → Below W.heap.size W W' → Below N w3 W' := fun W W' h k => h.trans (k.mono (Nat.le_trans lN3 h.size))
  go_upto_region 4 with fail
  go_cut [6] (fun _ wx => ∃ cy', Hid (wx.heap[w.heap.size + 1 + 1 + 1]? = some (.cells #[.int .i64 x.kind, .int .i64 x.col, .int .i64 x.k, .slice (some ⟨k, 0, none⟩) x.fs.length cy'] 24 (0, 0))) ∧ Hid (wx.heap[w.heap.size + 1 + 1]? = some (.cells #[.int .i64 0, .int .i64 0, .int .i64 0, .slice none 0 0] 24 (0, 0))) ∧ Sl cdE.slice (fun b => b ≠ w.heap.size + 1 + 1) wx (some ⟨k, 0, none⟩) cy' (setQ x (fl x 0 ++ [cx])).fs ∧ Below w.heap.size w wx)
  case first =>
    refine wp_region_noPanic ?_
    refine wp_region_held_drew (S := fun X => Below N w3 X) (by kernel_rfl) ?_ (fun hHeld => ?_)
    · (first | (repeat' (first | with_reducible assumption | exact Below.refl _ _ | with_reducible refine Below.setCell ?_ ?_ _ | with_reducible refine Below.drew ?_ | with_reducible refine ba _ _ ?_ | (simp; omega) | omega)) | (first | with_reducible assumption | (with_reducible refine Below.drew ?_; with_reducible assumption) | (with_reducible refine ba _ _ ?_; with_reducible assumption) | (with_reducible refine Below.drew ?_; with_reducible refine ba _ _ ?_; with_reducible assumption) | exact Below.refl _ _ | exact (Below.refl _ _).drew | exact (Below.refl _ _).alloc (Nat.le_refl _) _ | (refine bc _ _ (by assumption) (by assumption))))
    refine RegOk.begin_ (n := 8) (T := evW) ⟨by kernel_rfl, by kernel_rfl, by kernel_rfl, by kernel_rfl⟩ fun hR => ?_
    refine hR.take (i := 0) (oi := ?ow878_0) (v := ?vw878_0) (m' := 1) ?hw878_0 (by kernel_rfl) (by kernel_rfl) (fun _ _ _ h => h) (Or.inl ⟨?sw878_0, ?yw878_0⟩) (by assumption) ?nw878_0
    case hw878_0 => simp only [List.getElem?_toArray, List.getElem?_cons_succ, List.getElem?_cons_zero]; rfl
    case sw878_0 => rfl
    case yw878_0 => (intro w hSw; (try dsimp only at hSw); go_simp <;> with_reducible rfl)
    try simp only [Act.put, List.setIfInBounds_toArray, List.set_cons_zero, List.set_cons_succ]
    refine hR.take (i := 1) (oi := ?ow879_1) (v := ?vw879_1) (m' := 3) ?hw879_1 (by kernel_rfl) (by kernel_rfl) (fun _ _ _ h => h) (Or.inl ⟨?sw879_1, ?yw879_1⟩) (by assumption) ?nw879_1
    case hw879_1 => simp only [List.getElem?_toArray, List.getElem?_cons_succ, List.getElem?_cons_zero]; rfl
    case sw879_1 => rfl
    case yw879_1 => (intro w hSw; (try dsimp only at hSw); go_simp <;> with_reducible rfl)
    try simp only [Act.put, List.setIfInBounds_toArray, List.set_cons_zero, List.set_cons_succ]
    refine hR.take (i := 2) (oi := ?ow880_2) (v := ?vw880_2) (m' := 7) ?hw880_2 (by kernel_rfl) (by kernel_rfl) (fun _ _ _ h => h) (Or.inl ⟨?sw880_2, ?yw880_2⟩) (by assumption) ?nw880_2
    case hw880_2 => simp only [List.getElem?_toArray, List.getElem?_cons_succ, List.getElem?_cons_zero]; rfl
    case sw880_2 => rfl
    case yw880_2 => (intro w hSw; (try dsimp only at hSw); go_simp <;> with_reducible rfl)
    try simp only [Act.put, List.setIfInBounds_toArray, List.set_cons_zero, List.set_cons_succ]
    refine hR.take (i := 3) (oi := ?ow881_3) (v := ?vw881_3) (m' := 15) ?hw881_3 (by kernel_rfl) (by kernel_rfl) (fun _ _ _ h => h) (Or.inl ⟨?sw881_3, ?yw881_3⟩) (by assumption) ?nw881_3
    case hw881_3 => simp only [List.getElem?_toArray, List.getElem?_cons_succ, List.getElem?_cons_zero]; rfl
    case sw881_3 => rfl
    case yw881_3 => (intro w hSw; (try dsimp only at hSw); go_simp <;> with_reducible rfl)
    try simp only [Act.put, List.setIfInBounds_toArray, List.set_cons_zero, List.set_cons_succ]
    refine hR.come (rs := [4]) (by kernel_rfl) (by simp) ?_
    refine AllReadyH.cons (o := ?o882_4) ?h882_4 (fun K hK => ?kw882_4) AllReadyH.nil
    case h882_4 => simp only [List.getElem?_toArray, List.getElem?_cons_succ, List.getElem?_cons_zero]; rfl
    go_simp <;> (try go_wp2_with fail)
    refine hK.out _ _ ?_ (fun hHeld => ?_)
    · (first | (repeat' (first | with_reducible assumption | exact Below.refl _ _ | with_reducible refine Below.setCell ?_ ?_ _ | with_reducible refine Below.drew ?_ | with_reducible refine ba _ _ ?_ | (simp; omega) | omega)) | (first | with_reducible assumption | (with_reducible refine Below.drew ?_; with_reducible assumption) | (with_reducible refine ba _ _ ?_; with_reducible assumption) | (with_reducible refine Below.drew ?_; with_reducible refine ba _ _ ?_; with_reducible assumption) | exact Below.refl _ _ | exact (Below.refl _ _).drew | exact (Below.refl _ _).alloc (Nat.le_refl _) _ | (refine bc _ _ (by assumption) (by assumption))))
    clear hK K
    refine RegOk.put_ (m' := 31) (by kernel_rfl) ?_
    try simp only [Act.put, List.setIfInBounds_toArray, List.set_cons_zero, List.set_cons_succ]
    refine hR.come (rs := [5]) (by kernel_rfl) (by simp) ?_
    refine AllReadyH.cons (o := ?o883_5) ?h883_5 (fun K hK => ?kw883_5) AllReadyH.nil
    case h883_5 => simp only [List.getElem?_toArray, List.getElem?_cons_succ, List.getElem?_cons_zero]; rfl
    refine step_append_E (E := cdE) (S := fun b => b = w3.heap.size) rfl (.tmp 21) (.tmp 23) rfl cdsT (base := w2.heap.size) (v := .slice A8 (fl x 0).length c8) (xs := fl x 0) (ys := [cx]) (by rfl) (by rfl) rfl (nz := (fl x 0).length + 1) (by simp) (by repeat' (first | with_reducible refine Own.alloc ?_ _ | with_reducible refine Own.drew ?_ | exact HO8.out.flat cdE_flat)) (by repeat' (first | with_reducible refine Sl.drew ?_ | exact Sl.litAt (S := fun b => b = w3.heap.size) (by first | rfl | simp) (.single cdE_shut) (by unfold maxLen; simp) (fun _ h _ => h) rfl)) (by unfold maxLen; simp; omega) (by simp; omega) (by simp; omega) (fun g' hg' (hlt : g' = w3.heap.size) => by have h1 := (lo8 g' hg').2; omega) ?_; intro A9 c9 w9 hown9 hg9 hor9; have hk9 : Below N w3 w9 := ((br.drew).alloc (by simp; omega) _).grown hg9 (by simp; omega) (fun g' hg' => by have := (lo8 g' hg').1; omega); have HR9 := Lib.hid ((HR3.out.drew.alloc _).grown hg9 (.inr (by intro e; have := (lo8 k e.symm).1; have := HK.out; omega)) (fun _ _ h => h.elim)); have v9 := HR9.out.rawCell HV0.out; have f9 := HR9.out.frozen 0; have l9 := (HR9.out.lt k rfl).2; have HO9 := Lib.hid hown9; have HK9 := Lib.hid hk9; clear hown9 hg9 hor9
    refine hK.out _ _ ?_ (fun hHeld => ?_)
    · (first | (repeat' (first | with_reducible assumption | exact Below.refl _ _ | with_reducible refine Below.setCell ?_ ?_ _ | with_reducible refine Below.drew ?_ | with_reducible refine ba _ _ ?_ | (simp; omega) | omega)) | (first | with_reducible assumption | (with_reducible refine Below.drew ?_; with_reducible assumption) | (with_reducible refine ba _ _ ?_; with_reducible assumption) | (with_reducible refine Below.drew ?_; with_reducible refine ba _ _ ?_; with_reducible assumption) | exact Below.refl _ _ | exact (Below.refl _ _).drew | exact (Below.refl _ _).alloc (Nat.le_refl _) _ | (refine bc _ _ (by assumption) (by assumption))))
    clear hK K
    refine RegOk.put_ (m' := 63) (by kernel_rfl) ?_
    try simp only [Act.put, List.setIfInBounds_toArray, List.set_cons_zero, List.set_cons_succ]
    refine hR.take (i := 6) (oi := ?ow884_6) (v := ?vw884_6) (m' := 127) ?hw884_6 (by kernel_rfl) (by kernel_rfl) (fun _ _ _ h => h) (Or.inl ⟨?sw884_6, ?yw884_6⟩) (by assumption) ?nw884_6
    case hw884_6 => simp only [List.getElem?_toArray, List.getElem?_cons_succ, List.getElem?_cons_zero]; rfl
    case sw884_6 => rfl
    case yw884_6 => (intro w hSw; (try dsimp only at hSw); go_simp <;> with_reducible rfl)
    try simp only [Act.put, List.setIfInBounds_toArray, List.set_cons_zero, List.set_cons_succ]
    refine hR.come (rs := [7]) (by kernel_rfl) (by simp) ?_
    refine AllReadyH.cons (o := ?o885_7) ?h885_7 (fun K hK => ?kw885_7) AllReadyH.nil
    case h885_7 => simp only [List.getElem?_toArray, List.getElem?_cons_succ, List.getElem?_cons_zero]; rfl
    go_simp <;> (try go_wp2_with fail)
    refine hK.out _ _ ?_ (fun hHeld => ?_)
    · (first | (repeat' (first | with_reducible assumption | exact Below.refl _ _ | with_reducible refine Below.setCell ?_ ?_ _ | with_reducible refine Below.drew ?_ | with_reducible refine ba _ _ ?_ | (simp; omega) | omega)) | (first | with_reducible assumption | (with_reducible refine Below.drew ?_; with_reducible assumption) | (with_reducible refine ba _ _ ?_; with_reducible assumption) | (with_reducible refine Below.drew ?_; with_reducible refine ba _ _ ?_; with_reducible assumption) | exact Below.refl _ _ | exact (Below.refl _ _).drew | exact (Below.refl _ _).alloc (Nat.le_refl _) _ | (refine bc _ _ (by assumption) (by assumption))))
    clear hK K
    refine RegOk.put_ (m' := 255) (by kernel_rfl) ?_
    try simp only [Act.put, List.setIfInBounds_toArray, List.set_cons_zero, List.set_cons_succ]
    refine hR.all (by kernel_rfl) ?_ _
    refine NoPanic.normal ?_
    go_wp2_with fail
    go_meet
    case rel =>
      have hk2 := HK.out
      have hnn := HN.out
      have hz := Z1.out
      have gz9 := (Gk.refl k w9).set 0 (.slice A9 ((fl x 0).length + 1) c9)
      refine ⟨cy, Lib.hid (gz9.row ((HK9.out.block _ ly3).trans gy3.out) (by omega)), Lib.hid (gz9.row ((HK9.out.block _ lr3).trans gr3.out) (by omega)), ?_, (B3.out.trans (HK9.out.mono (by omega))).setCell (by dsimp only; omega) _⟩
      have ho := own_set0W (x := x) (l := fl x 0 ++ [cx]) (S := fun b => b < w.heap.size ∨ w2.heap.size ≤ b) HR9.out HVL.out (by simp) (fun i y hy => by
        obtain ⟨A, c, h1, h2⟩ := HV3.out i y hy
        exact ⟨A, c, h1, (gz9.slKeep (h2.belowE HK9.out (fun b hb => by have h' : b < w.heap.size := hb; omega)) (by show ¬ k < w.heap.size; omega)).sub fun b hb _ => .inl hb⟩) (gz9.slKeep (HO9.out.flatSl cdE_flat (T := fun b => w2.heap.size ≤ b) (fun b hb => hb)) (by show ¬ w2.heap.size ≤ k; omega) |>.sub fun b hb _ => .inr hb) rfl
      exact ho.toSl (fun b hb _ => by rcases hb with hb | hb <;> omega) (fun b hb _ _ => by omega)
  obtain ⟨cy', gyF, grF, hsF, hbF⟩ := hcut
  obtain ⟨w4, hwv⟩ : ∃ x, x = wc := ⟨_, rfl⟩
  subst hwv
  have HSF := Lib.hid hsF
  have HBF := Lib.hid hbF
  clear hsF hbF zy zc br ba bc gc3 gr3 gy3 HR3 HV3 HO8 lo8
  obtain ⟨y0, y1, y2, y3⟩ := row4 gyF
  obtain ⟨r0, r1, r2, r3⟩ := row4 grF
  have fr := frz grF.out
  have lr := heap_lt grF.out
  go_wp2_with fail
  have hset := set4W (u := .int .i64 x.kind) (v := .int .i64 x.col) (x := .int .i64 x.k) (y := .slice (some ⟨k, 0, none⟩) x.fs.length cy') grF.out
  obtain ⟨t0, t1, t2, t3⟩ := row4 (Lib.hid hset)
  refine bodyPost_ret (v := .agg #[.int .i64 x.kind, .int .i64 x.col, .int .i64 x.k, .slice (some ⟨k, 0, none⟩) x.fs.length cy']) (by simp [results, Tryd.results28, go_sem, *]) rfl ⟨some ⟨k, 0, none⟩, cy', rfl, ?_, ?_⟩
  · exact (HSF.out.keep (by repeat' (first | with_reducible exact Agree.refl _ _ | with_reducible refine Agree.set ?_ ?_ _ | (intro h; exact h rfl)))).sub (fun _ _ _ => trivial)
  · repeat' (first | exact HBF.out | with_reducible refine Below.setCell ?_ ?_ _ | (dsimp only; omega))
end Go.Proofs.YtmkpaolbejlodaaDoor
