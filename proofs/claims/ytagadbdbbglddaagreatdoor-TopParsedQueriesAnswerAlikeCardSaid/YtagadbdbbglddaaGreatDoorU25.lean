/-
  Texts of this claim, merged: Pa9. Conditions: as each theorem says.
-/
import Derived.Test.YtagadbdbbglddaaGreatDoorU1
import Derived.Test.YtagadbdbbglddaaGreatDoorU2
import Derived.Test.YtagadbdbbglddaaGreatDoorU3
import Derived.Test.YtagadbdbbglddaaGreatDoorU4
import Derived.Test.YtagadbdbbglddaaGreatDoorU5
import Derived.Test.YtagadbdbbglddaaGreatDoorU6
import Derived.Test.YtagadbdbbglddaaGreatDoorU7
import Derived.Test.YtagadbdbbglddaaGreatDoorU8
import Derived.Test.YtagadbdbbglddaaGreatDoorU9
import Derived.Test.YtagadbdbbglddaaGreatDoorU10
import Derived.Test.YtagadbdbbglddaaGreatDoorU11
import Derived.Test.YtagadbdbbglddaaGreatDoorU12
import Derived.Test.YtagadbdbbglddaaGreatDoorU13
import Derived.Test.YtagadbdbbglddaaGreatDoorShelf
import Derived.Test.YtagadbdbbglddaaGreatDoorU22
import Derived.Test.YtagadbdbbglddaaGreatDoorU23
import Derived.Test.YtagadbdbbglddaaGreatDoorU24
set_option linter.unusedSimpArgs false
set_option linter.unusedVariables false
namespace Go.Proofs.YtagadbdbbglddaaGreatDoor
open Go.RowKit

def kwL (k : Int) : List UInt8 := (kwF k).data.toList
theorem kw_ne {j k : Int} (hj : 1 ≤ j ∧ j ≤ 7) (hk : 1 ≤ k ∧ k ≤ 7) (h : j ≠ k) : kwL k ≠ kwL j := by
  rcases (by omega : j = 1 ∨ j = 2 ∨ j = 3 ∨ j = 4 ∨ j = 5 ∨ j = 6 ∨ j = 7) with rfl | rfl | rfl | rfl | rfl | rfl | rfl <;> rcases (by omega : k = 1 ∨ k = 2 ∨ k = 3 ∨ k = 4 ∨ k = 5 ∨ k = 6 ∨ k = 7) with rfl | rfl | rfl | rfl | rfl | rfl | rfl <;> first | exact absurd rfl h | decide
theorem forms_look0 {W : World} {b : Nat} (h : MapIs W b formsE) (k : Int) : (Instr.lookup 84 (.map (some b)) (.int .i64 k) false).run Tryz.prog W = .ok (.agg #[.string (kwF k), .bool (hasColB k), .int .i64 (maxKF k), .int .i64 (nFormF k)]) W := by
  have := run_lookup_I Tryz.underlying84 Tryz.underlying3 h rfl (z := formV ⟨#[]⟩ false 0 0) (by kernel_rfl) k false
  rw [this, (forms_find k).1]
  rfl
theorem kw_eq (k : Int) : kwF k = ⟨(kwL k).toArray⟩ := by
  unfold kwL
  cases kwF k
  simp
/-- The text of a query. -/
structure QTx (q : Qy) (l l1 l2 l3 l4 l' : List UInt8) : Prop where
  hk : 1 ≤ q.kind ∧ q.kind ≤ 7
  n1 : Nx 1 (kwL q.kind) l l1
  c : if hasColB q.kind then ∃ n : Nat, q.col = n ∧ n < 4 ∧ Nx 1 (nmF n) l1 l2 else q.col = 0 ∧ l2 = l1
  k : if 0 < maxKF q.kind then ∃ t, Nx 2 t l2 l3 ∧ Num t q.k ∧ 1 ≤ q.k ∧ q.k ≤ maxKF q.kind else q.k = 0 ∧ l3 = l2
  f : FTx whereJ (fl q 0) 0 l3 l4
  g : if nFormF q.kind = 2 then q.fs.length = 2 ∧ ∃ l5, (∀ lf, skipW lf = skipW l4 → Nx 1 [119, 105, 116, 104] lf l5) ∧ FTx whereJ (fl q 1) 0 l5 l' else q.fs.length = 1 ∧ l' = l4
theorem row4s {W : World} {g : Nat} {v x y : Value} {t : TypeId} (h : ∃ u, W.heap[g]? = some (.cells #[u, v, x, y] t (0, 0))) :
    W.cell? ⟨g, 1, none⟩ = some v ∧ W.cell? ⟨g, 2, none⟩ = some x ∧ W.cell? ⟨g, 3, none⟩ = some y := by
  obtain ⟨u, h⟩ := h
  exact ⟨cell_of_row _ _ 1 _ _ _ h, cell_of_row _ _ 2 _ _ _ h, cell_of_row _ _ 3 _ _ _ h⟩
/-- How query stands behind its keyword. -/
structure QSt (w1 : World) (g gq gf r : Nat) (bs l : List UInt8) (kd col k : Int) (fv : Value) (fs : List (List Cd)) (wx : World) : Prop where
  row : wx.heap[gq]? = some (.cells #[.int .i64 kd, .int .i64 col, .int .i64 k, fv] 24 (0, 0))
  frm : ∃ s, wx.heap[gf]? = some (.cells #[s, .bool (hasColB kd), .int .i64 (maxKF kd), .int .i64 (nFormF kd)] 83 (0, 0))
  res : wx.heap[r]? = some (.cells #[.int .i64 0, .int .i64 0, .int .i64 0, .slice none 0 0] 24 (0, 0))
  p : PAt bs g l wx
  gk : Gk g w1 wx
  own : Own cdE.slice (FtS (gq + 1) fv) wx (gq + 1) 55 fv fs
  hq : w1.heap.size ≤ gf
  hf : gf < gq
  hr : r < w1.heap.size
  hrg : r ≠ g
  hg : g < w1.heap.size
section
variable {w1 wx w' : World} {g gq gf r : Nat} {bs l l' : List UInt8} {kd col k : Int} {fv v' : Value} {fs : List (List Cd)} {ys : List Cd}
theorem QSt.lt (h : QSt w1 g gq gf r bs l kd col k fv fs wx) : gq < wx.heap.size := heap_lt h.row
theorem QSt.call (h : QSt w1 g gq gf r bs l kd col k fv fs wx) (hp : PAt bs g l' w') (hG : Gk g wx w') : QSt w1 g gq gf r bs l' kd col k fv fs w' := by
  have h1 := h.hq
  have h2 := h.hf
  have h3 := h.hg
  obtain ⟨s, hs⟩ := h.frm
  refine ⟨hG.row h.row (by omega), ⟨s, hG.row hs (by omega)⟩, hG.row h.res h.hrg, hp, h.gk.trans hG, h.own.grown hG.g (.inr fun e => ?_) (fun b e hS => ?_), h1, h2, h.hr, h.hrg, h3⟩
  · have := (h.own.lt g e).1; omega
  · injection e with e; have := hS.1; omega
theorem QSt.other (h : QSt w1 g gq gf r bs l kd col k fv fs wx) {i : Nat} {u : Value} {col' k' : Int} (hrow : (wx.setCell ⟨gq, i, none⟩ u).heap[gq]? = some (.cells #[.int .i64 kd, .int .i64 col', .int .i64 k', fv] 24 (0, 0))) : QSt w1 g gq gf r bs l kd col' k' fv fs (wx.setCell ⟨gq, i, none⟩ u) := by
  have h1 := h.hq
  have h2 := h.hf
  have h3 := h.hg
  have h4 := h.hr
  obtain ⟨s, hs⟩ := h.frm
  refine ⟨hrow, ⟨s, (Below.heap_setCell _ _ _ _ (by dsimp only; omega)).trans hs⟩, (Below.heap_setCell _ _ _ _ (by dsimp only; omega)).trans h.res, ?_, h.gk.belowR ((Below.refl _ _).setCell (by dsimp only; omega) _), h.own.set (fun e => ?_) (fun hS => ?_) _, h1, h2, h4, h.hrg, h3⟩
  · obtain ⟨i, a, b, d⟩ := h.p
    exact ⟨i, a, b, (Below.heap_setCell _ _ _ _ (by dsimp only; omega)).trans d⟩
  · have := (h.own.lt _ e).1; dsimp only at this; omega
  · have := hS.1; dsimp only at this; omega
theorem QSt.app (h : QSt w1 g gq gf r bs l kd col k fv fs wx) {w5 w7 : World} {o : Obj} (hp : PAt bs g l' w5) (hG : Gk g wx w5) (ho : Own cdE.slice (fun b => FtS (gq + 1) fv b ∧ b ≤ w5.heap.size) w7 (gq + 1) 55 v' (fs ++ [ys]))
    (hg : (w5.alloc o).grownBy w7 fv.ownBlock) (hor : ∀ g, v'.ownBlock = some g → fv.ownBlock = some g ∨ (w5.alloc o).heap.size = g) : QSt w1 g gq gf r bs l' kd col k v' (fs ++ [ys]) (w7.setCell ⟨gq, 3, none⟩ v') := by
  have H5 := h.call hp hG
  have h1 := h.hq
  have h2 := h.hf
  have h3 := h.hg
  have h4 := h.hr
  have hlo := h.own.lt
  have hz := hg.size
  simp at hz
  have l5 := H5.lt
  have bk : ∀ b, b < gq + 1 → w7.heap[b]? = w5.heap[b]? := fun b hb => (hg.block b (by simp; omega) (fun e => by have := (hlo b e.symm).1; omega)).trans (Below.heap_alloc _ _ _ (by omega))
  obtain ⟨s, hs⟩ := H5.frm
  have hrow : w7.heap[gq]? = some (.cells #[.int .i64 kd, .int .i64 col, .int .i64 k, fv] 24 (0, 0)) := (bk gq (by omega)).trans H5.row
  refine ⟨heap_set (i := 3) hrow, ⟨s, (Below.heap_setCell _ _ _ _ (by dsimp only; omega)).trans ((bk gf (by omega)).trans hs)⟩, (Below.heap_setCell _ _ _ _ (by dsimp only; omega)).trans ((bk r (by omega)).trans H5.res), ?_, ?_, (ho.sub fun b hb1 _ => ?_).set ?_ ?_ _, h1, h2, h4, h.hrg, h3⟩
  · obtain ⟨i, a, b, d⟩ := hp
    exact ⟨i, a, b, (Below.heap_setCell _ _ _ _ (by dsimp only; omega)).trans ((bk g (by omega)).trans d)⟩
  · exact ((H5.gk.alloc o).grownOwn hg (fun b hb => by have := (hlo b hb).1; omega)).belowR ((Below.refl _ _).setCell (by dsimp only; omega) _)
  · obtain ⟨⟨a1, a2⟩, a3⟩ := hb1
    refine ⟨a1, fun k hk => ?_⟩
    rcases hor k hk with h6 | h6
    · exact a2 k h6
    · simp at h6; omega
  · intro e
    rcases hor _ e with h6 | h6
    · have := (hlo _ h6).1; simp at this; omega
    · simp at h6; omega
  · intro hS
    have := hS.1
    simp at this; omega
end
def pa9A : List FRow := [(0, ([], (37, [6]))), (1, ([0], (38, [36]))), (2, ([], (39, [0]))), (3, ([2], (40, [38]))), (4, ([3], (41, [39]))), (5, ([1, 4, 3], (42, [37, 40]))), (6, ([0, 1, 2, 3, 4, 5], (43, [6]))), (7, ([6, 5, 5, 0, 1, 2, 3, 4, 5], (0, [42, 41])))]
def pa9B : List FRow := [(0, ([], (50, [6]))), (1, ([0], (51, [49]))), (2, ([], (52, [0]))), (3, ([2], (53, [51]))), (4, ([3], (54, [52]))), (5, ([1, 4, 3], (55, [50, 53]))), (6, ([0, 1, 2, 3, 4, 5], (56, [6]))), (7, ([6, 5, 5, 0, 1, 2, 3, 4, 5], (0, [55, 54])))]
set_option maxRecDepth 100000 in
set_option maxHeartbeats 4000000 in
theorem queryP {bs l l1 l2 l3 l4 l' : List UInt8} {q : Qy} {g : Nat} (w : World) (hp : PAt bs g l w) (hl : bs.length ≤ 1000) (h : QTx q l l1 l2 l3 l4 l') :
    Calls Tryz.prog 28 #[.pointer (some ⟨g, 0, none⟩)] w fun e w' => ∃ A c, e = .returned (.agg #[.int .i64 q.kind, .int .i64 q.col, .int .i64 q.k, .slice A q.fs.length c]) ∧ Sl cdE.slice (fun b => w.heap.size ≤ b) w' A c q.fs ∧ (∃ lf, skipW lf = skipW l' ∧ PAt bs g lf w') ∧ Gk g w w' := by
  have HP := Lib.hid hp
  have lg := hp.lt
  have HX := Lib.hid h
  obtain ⟨kd, hkd⟩ : ∃ n : Nat, q.kind = n := ⟨q.kind.toNat, by have := h.hk; omega⟩
  have hk1 : 1 ≤ kd ∧ kd ≤ 7 := by have := h.hk; omega
  have HKD := Lib.hid hkd
  clear hp h hkd
  go_enter Tryz.func28, Tryz.ntmps28
  go_upto_region 1 with fail
  refine wp_world (F := fun wx => Below w.heap.size w wx ∧ Hid (wx.heap[w.heap.size]? = some (.cells #[.int .i64 0, .int .i64 0, .int .i64 0, .slice none 0 0] 24 (0, 0)))) ⟨(by repeat' (first | with_reducible exact Below.refl _ _ | with_reducible assumption | with_reducible refine Below.setCell ?_ ?_ _ | with_reducible refine Below.drew ?_ | with_reducible refine below_drewN ?_ _ | with_reducible refine Below.alloc ?_ ?_ _ | (rintro _ ⟨⟩; simp <;> omega) | omega | (simp <;> omega))), Lib.hid (heap_alloc_at rfl)⟩ ?_
  rintro w1 ⟨bb, gr⟩
  have B1 := Lib.hid bb
  have P1 := Lib.hid (HP.out.below bb)
  clear bb HP
  go_wp2_with (go_at_call 31; refine (formsP _).mono ?_; rintro e w2 ⟨b, rfl, hb, hM, hb2⟩; have HM := Lib.hid hM; have HB2 := Lib.hid hb2; clear hM hb2)
  have hlr := heap_lt gr.out
  go_loopw [4] (fun i wr => ∃ (j : Nat) (lf : List UInt8), 1 ≤ j ∧ j ≤ kd ∧ i = .int .i64 (j : Nat) ∧ Hid (skipW lf = skipW l) ∧ Hid (PAt bs g lf wr) ∧ Hid (MapIs wr b formsE) ∧ Hid (wr.heap[w.heap.size]? = some (.cells #[.int .i64 0, .int .i64 0, .int .i64 0, .slice none 0 0] 24 (0, 0))) ∧ Hid (Gk g w1 wr)) (fun i _ => 8 - (intOf i).toNat)
  case atStart => exact ⟨1, l, by omega, by omega, rfl, Lib.hid rfl, Lib.hid (P1.out.below HB2.out), HM, mvP gr HB2.out, Lib.hid (Gk.ofBelow HB2.out)⟩
  case round =>
    obtain ⟨j, lf, hj1, hjk, rfl, HE, HPr, HMr, HRr, HG⟩ := hrel
    have hj7 : (j : Int) ≤ 7 := by omega
    have hlook := forms_look0 HMr.out (j : Int)
    by_cases hjc : j = kd
    · subst hjc
      obtain ⟨kw, hkw⟩ : ∃ t, kwL (j : Int) = t := ⟨_, rfl⟩
      have HN1 := Lib.hid (show Nx 1 kw lf l1 by have h := HX.out.n1; rw [HKD.out, hkw] at h; unfold Nx at h ⊢; rw [HE.out]; exact h)
      rw [kw_eq, hkw] at hlook
      clear hkw
      go_upto_region 6 with (refine step_lookup (by rfl) (by rfl) (by rfl) (by rfl) hlook ?_)
      clear hlook
      have hlg := HPr.out.lt
      have hbr : Below wr.heap.size wr (wr.alloc (.cells #[.string ⟨kw.toArray⟩, .bool (hasColB (j : Int)), .int .i64 (maxKF (j : Int)), .int .i64 (nFormF (j : Int))] 83)) := (Below.refl _ _).alloc (Nat.le_refl _) _
      have HBR := Lib.hid hbr
      have HP2 := Lib.hid (HPr.out.below hbr)
      clear hbr
      have hz := HG.out.g.size
      have HRZ := Lib.hid (show w.heap.size < wr.heap.size by omega)
      go_cut [5, 20] (fun p v wx => p = .pointer (some ⟨wr.heap.size, 0, none⟩) ∧ v = .bool false ∧ Hid (∃ s, wx.heap[wr.heap.size]? = some (.cells #[s, .bool (hasColB (j : Int)), .int .i64 (maxKF (j : Int)), .int .i64 (nFormF (j : Int))] 83 (0, 0))) ∧ Hid (wx.heap[w.heap.size]? = some (.cells #[.int .i64 0, .int .i64 0, .int .i64 0, .slice none 0 0] 24 (0, 0))) ∧ Hid (PAt bs g l1 wx) ∧ Hid (Gk g wr wx) ∧ wr.heap.size < wx.heap.size)
      case first =>
        go_wp2_with (go_at_call 67; refine (acceptNx (t := kw) _ HP2.out hl HN1.out).mono ?_; rintro e w3 ⟨rfl, hP3, hG3⟩; have HP3 := Lib.hid hP3; have HG3 := Lib.hid hG3; clear hP3 hG3)
        go_meet
        case rel =>
          have hz3 := HG3.out.g.size
          simp at hz3
          exact ⟨rfl, rfl, Lib.hid ⟨_, HG3.out.row (heap_alloc_at rfl) (by omega)⟩, Lib.hid (HG3.out.row ((mvP HRr HBR.out).out) (by omega)), HP3, Lib.hid ((Gk.ofBelow HBR.out).trans HG3.out), by omega⟩
      obtain ⟨rfl, rfl, hfr, hre, HP3, HG3, hz3⟩ := hcut
      obtain ⟨w3, hwv⟩ : ∃ x, x = wc := ⟨_, rfl⟩
      subst hwv
      clear HP2 HN1
      go_upto_region 8 with fail
      refine wp_world (F := fun wx => Hid (QSt wr g w3.heap.size wr.heap.size w.heap.size bs l1 j 0 0 (.slice none 0 0) [] wx)) (by
        have hb : Below w3.heap.size w3 (w3.alloc (.cells #[.int .i64 (j : Int), .int .i64 0, .int .i64 0, .slice none 0 0] 24)) := (Below.refl _ _).alloc (Nat.le_refl _) _
        obtain ⟨s, hs⟩ := hfr.out
        exact Lib.hid ⟨heap_alloc_at rfl, ⟨s, (hb.block _ hz3).trans hs⟩, (hb.block _ (by omega)).trans hre.out, HP3.out.below hb, HG3.out.alloc _, Own.nil_ _ _ _ _ _, Nat.le_refl _, hz3, HRZ.out, by omega, hlg⟩) ?_
      intro w4 S4
      have HGR := Lib.hid ((Gk.ofBelow B1.out).trans HG.out)
      clear HG
      clear hfr hre HP3 HG3 HPr HMr HRr HBR
      obtain ⟨v1, v2, v3⟩ := row4s S4.out.frm
      obtain ⟨q0, q1, q2, q3⟩ := row4 (Lib.hid S4.out.row)
      have fq := frz S4.out.row
      have lq := S4.out.lt
      obtain ⟨gq, hgq⟩ : ∃ x, x = w3.heap.size := ⟨_, rfl⟩
      rw [← hgq] at S4 q0 q1 q2 q3 fq lq ⊢
      clear hgq
      go_upto_if 24 with fail
      go_cut [6] (fun p wx => p = .pointer (some ⟨gq, 0, none⟩) ∧ QSt wr g gq wr.heap.size w.heap.size bs l2 j q.col 0 (.slice none 0 0) [] wx)
      case first =>
        have hcx := HX.out.c
        rw [HKD.out] at hcx
        cases hc : hasColB (j : Int) with
        | false =>
          rw [hc, if_neg (by simp)] at hcx
          obtain ⟨hc1, hc2⟩ := hcx
          have HC := Lib.hid (show QSt wr g gq wr.heap.size w.heap.size bs l2 j q.col 0 (.slice none 0 0) [] w4 by rw [hc1, hc2]; exact S4.out)
          clear hc1 hc2
          go_wp2_with fail
          go_meet
          case rel => exact ⟨rfl, HC.out⟩
        | true =>
          rw [hc, if_pos rfl] at hcx
          obtain ⟨n, hc1, hn4, hn⟩ := hcx
          have HN := Lib.hid hn
          have HC1 := Lib.hid hc1
          clear hn hc1
          go_wp2_with (go_at_call 68; refine (columnNx (c := n) _ S4.out.p hl HN.out hn4).mono ?_; rintro e w5 ⟨rfl, hP5, hG5⟩; have HC5 := Lib.hid (S4.out.call hP5 hG5); obtain ⟨a0, a1, a2, a3⟩ := row4 (Lib.hid HC5.out.row); have fa := frz HC5.out.row; have la := HC5.out.lt; clear hP5 hG5)
          go_meet
          case rel => exact ⟨rfl, by rw [HC1.out]; exact HC5.out.other (heap_set (i := 1) HC5.out.row)⟩
      obtain ⟨rfl, hst⟩ := hcut
      obtain ⟨w5, hwv⟩ : ∃ x, x = wc := ⟨_, rfl⟩
      subst hwv
      have S5 := Lib.hid hst
      clear hst v1 v2 v3 q0 q1 q2 q3 fq lq S4
      obtain ⟨v1, v2, v3⟩ := row4s S5.out.frm
      obtain ⟨q0, q1, q2, q3⟩ := row4 (Lib.hid S5.out.row)
      have fq := frz S5.out.row
      have lq := S5.out.lt
      go_upto_if 30 with fail
      go_cut [6] (fun p wx => p = .pointer (some ⟨gq, 0, none⟩) ∧ QSt wr g gq wr.heap.size w.heap.size bs l3 j q.col q.k (.slice none 0 0) [] wx)
      case first =>
        have hkx := HX.out.k
        rw [HKD.out] at hkx
        obtain ⟨mk, hmk⟩ : ∃ m, maxKF (j : Int) = m := ⟨_, rfl⟩
        rw [hmk] at hkx v2
        (try rw [hmk])
        have hmk2 : mk ≤ 65536 := by rw [← hmk]; unfold maxKF; split <;> (try split) <;> decide
        clear hmk
        by_cases h0 : 0 < mk
        · rw [if_pos h0] at hkx
          obtain ⟨t, ht, hn, hk1', hk2'⟩ := hkx
          have HT := Lib.hid ht
          have HN := Lib.hid hn
          clear ht hn
          go_wp2_with (go_at_call 69; refine (numberNx (n := q.k) _ S5.out.p hl HT.out HN.out ⟨hk1', hk2'⟩ (by omega)).mono ?_; rintro e w6 ⟨rfl, hP5, hG5⟩; have HC5 := Lib.hid (S5.out.call hP5 hG5); obtain ⟨a0, a1, a2, a3⟩ := row4 (Lib.hid HC5.out.row); have fa := frz HC5.out.row; have la := HC5.out.lt; clear hP5 hG5)
          go_meet
          case rel => exact ⟨rfl, HC5.out.other (heap_set (i := 2) HC5.out.row)⟩
        · rw [if_neg h0] at hkx
          obtain ⟨hc1, hc2⟩ := hkx
          have HC := Lib.hid (show QSt wr g gq wr.heap.size w.heap.size bs l3 j q.col q.k (.slice none 0 0) [] w5 by rw [hc1, hc2]; exact S5.out)
          clear hc1 hc2
          go_wp2_with fail
          go_meet
          case rel => exact ⟨rfl, HC.out⟩
      obtain ⟨rfl, hst⟩ := hcut
      obtain ⟨w6, hwv⟩ : ∃ x, x = wc := ⟨_, rfl⟩
      subst hwv
      have S6 := Lib.hid hst
      clear hst v1 v2 v3 q0 q1 q2 q3 fq lq S5
      obtain ⟨v1, v2, v3⟩ := row4s S6.out.frm
      obtain ⟨q0, q1, q2, q3⟩ := row4 (Lib.hid S6.out.row)
      have fq := frz S6.out.row
      have lq := S6.out.lt
      go_upto_region 12 with fail
      go_cut [6] (fun p wx => p = .pointer (some ⟨gq, 0, none⟩) ∧ ∃ A c lf, skipW lf = skipW l4 ∧ QSt wr g gq wr.heap.size w.heap.size bs lf j q.col q.k (.slice A 1 c) (([] : List (List Cd)) ++ [fl q 0]) wx)
      case first =>
        have lo := S6.out.own.lt
        refine wp_region_noPanic ?_
        refine wp_region_held_drew (S := fun _ => True) (by kernel_rfl) ?_ (fun hHeld => ?_)
        · (first | trivial | (first | with_reducible assumption | (with_reducible refine Below.drew ?_; with_reducible assumption) | (with_reducible refine ba _ _ ?_; with_reducible assumption) | (with_reducible refine Below.drew ?_; with_reducible refine ba _ _ ?_; with_reducible assumption) | exact Below.refl _ _ | exact (Below.refl _ _).drew | exact (Below.refl _ _).alloc (Nat.le_refl _) _ | (refine bc _ _ (by assumption) (by assumption))))
        refine RegOk.begin_ (n := 8) (T := pa9A) ⟨by kernel_rfl, by kernel_rfl, by kernel_rfl, by kernel_rfl⟩ fun hR => ?_
        refine hR.take (i := 0) (oi := ?ow809_0) (v := ?vw809_0) (m' := 1) ?hw809_0 (by kernel_rfl) (by kernel_rfl) (fun _ _ _ h => h) (Or.inl ⟨?sw809_0, ?yw809_0⟩) (by assumption) ?nw809_0
        case hw809_0 => simp only [List.getElem?_toArray, List.getElem?_cons_succ, List.getElem?_cons_zero]; rfl
        case sw809_0 => rfl
        case yw809_0 => (intro w hSw; (try dsimp only at hSw); go_simp <;> with_reducible rfl)
        try simp only [Act.put, List.setIfInBounds_toArray, List.set_cons_zero, List.set_cons_succ]
        refine hR.take (i := 2) (oi := ?ow810_2) (v := ?vw810_2) (m' := 5) ?hw810_2 (by kernel_rfl) (by kernel_rfl) (fun _ _ _ h => h) (Or.inl ⟨?sw810_2, ?yw810_2⟩) (by assumption) ?nw810_2
        case hw810_2 => simp only [List.getElem?_toArray, List.getElem?_cons_succ, List.getElem?_cons_zero]; rfl
        case sw810_2 => rfl
        case yw810_2 => (intro w hSw; (try dsimp only at hSw); go_simp <;> with_reducible rfl)
        try simp only [Act.put, List.setIfInBounds_toArray, List.set_cons_zero, List.set_cons_succ]
        refine hR.come (rs := [1, 3]) (by kernel_rfl) (by simp) ?_
        refine AllReadyH.cons (o := ?o811_1) ?h811_1 (fun K hK => ?kw811_1) (AllReadyH.cons (o := ?o811_3) ?h811_3 (fun K hK => ?kw811_3) AllReadyH.nil)
        case h811_1 => simp only [List.getElem?_toArray, List.getElem?_cons_succ, List.getElem?_cons_zero]; rfl
        case h811_3 => simp only [List.getElem?_toArray, List.getElem?_cons_succ, List.getElem?_cons_zero]; rfl
        case kw811_1 =>
          go_simp <;> (try go_wp2_with fail)
          refine hK.out _ _ ?_ (fun hHeld => ?_)
          · (first | trivial | (first | with_reducible assumption | (with_reducible refine Below.drew ?_; with_reducible assumption) | (with_reducible refine ba _ _ ?_; with_reducible assumption) | (with_reducible refine Below.drew ?_; with_reducible refine ba _ _ ?_; with_reducible assumption) | exact Below.refl _ _ | exact (Below.refl _ _).drew | exact (Below.refl _ _).alloc (Nat.le_refl _) _ | (refine bc _ _ (by assumption) (by assumption))))
          clear hK K
          refine RegOk.put_ (m' := 7) (by kernel_rfl) ?_
          try simp only [Act.put, List.setIfInBounds_toArray, List.set_cons_zero, List.set_cons_succ]
          refine hR.come (rs := [3]) (by kernel_rfl) (by simp) ?_
          refine AllReadyH.cons (o := ?o812_3) ?h812_3 (fun K hK => ?kw812_3) AllReadyH.nil
          case h812_3 => simp only [List.getElem?_toArray, List.getElem?_cons_succ, List.getElem?_cons_zero]; rfl
          go_simp
          go_at_call 70; refine (filterP (cs := fl q 0) w6.drew S6.out.p hl HX.out.f).mono ?_; rintro e w7 ⟨A7, c7, rfl, hs7, ⟨lf, hlf, hP7⟩, hG7⟩; have HP7 := Lib.hid hP7; have HG7 := Lib.hid ((Gk.refl g w6).drew.trans hG7); have HC7 := Lib.hid (S6.out.call hP7 HG7.out); obtain ⟨a0, a1, a2, a3⟩ := row4 (Lib.hid HC7.out.row); have fa := frz HC7.out.row; have la := HC7.out.lt; have lz7 := HG7.out.g.size; have HS7 := Lib.hid (hs7.sub (T := fun b => FtS (gq + 1) (.slice none 0 0) b ∧ b ≤ w7.heap.size) (fun b h hlt => ⟨⟨Nat.le_trans (show gq + 1 ≤ w6.heap.size by omega) h, fun k hk e => by have h1 := (lo k hk).2; have h2 : w6.heap.size ≤ b := h; omega⟩, Nat.le_of_lt hlt⟩)); have HLF := Lib.hid hlf; clear hs7 hP7 hG7 hlf
          refine hK.out _ _ ?_ (fun hHeld => ?_)
          · (first | trivial | (first | with_reducible assumption | (with_reducible refine Below.drew ?_; with_reducible assumption) | (with_reducible refine ba _ _ ?_; with_reducible assumption) | (with_reducible refine Below.drew ?_; with_reducible refine ba _ _ ?_; with_reducible assumption) | exact Below.refl _ _ | exact (Below.refl _ _).drew | exact (Below.refl _ _).alloc (Nat.le_refl _) _ | (refine bc _ _ (by assumption) (by assumption))))
          clear hK K
          refine RegOk.put_ (m' := 15) (by kernel_rfl) ?_
          try simp only [Act.put, List.setIfInBounds_toArray, List.set_cons_zero, List.set_cons_succ]
          refine hR.come (rs := [4]) (by kernel_rfl) (by simp) ?_
          refine AllReadyH.cons (o := ?o813_4) ?h813_4 (fun K hK => ?kw813_4) AllReadyH.nil
          case h813_4 => simp only [List.getElem?_toArray, List.getElem?_cons_succ, List.getElem?_cons_zero]; rfl
          go_simp <;> (try go_wp2_with fail)
          refine hK.out _ _ ?_ (fun hHeld => ?_)
          · (first | trivial | (first | with_reducible assumption | (with_reducible refine Below.drew ?_; with_reducible assumption) | (with_reducible refine ba _ _ ?_; with_reducible assumption) | (with_reducible refine Below.drew ?_; with_reducible refine ba _ _ ?_; with_reducible assumption) | exact Below.refl _ _ | exact (Below.refl _ _).drew | exact (Below.refl _ _).alloc (Nat.le_refl _) _ | (refine bc _ _ (by assumption) (by assumption))))
          clear hK K
          refine RegOk.put_ (m' := 31) (by kernel_rfl) ?_
          try simp only [Act.put, List.setIfInBounds_toArray, List.set_cons_zero, List.set_cons_succ]
          refine hR.come (rs := [5]) (by kernel_rfl) (by simp) ?_
          refine AllReadyH.cons (o := ?o814_5) ?h814_5 (fun K hK => ?kw814_5) AllReadyH.nil
          case h814_5 => simp only [List.getElem?_toArray, List.getElem?_cons_succ, List.getElem?_cons_zero]; rfl
          refine step_append_E (E := cdE.slice) (S := fun b => FtS (gq + 1) (.slice none 0 0) b ∧ b ≤ w7.heap.size) rfl (.tmp 37) (.tmp 40) rfl cfsT (base := gq + 1) (v := .slice none 0 0) (xs := ([] : List (List Cd))) (ys := [fl q 0]) (by rfl) (by rfl) rfl (nz := 1) (by simp) ((HC7.out.own.sub (fun b h hlt => ⟨h, Nat.le_of_lt hlt⟩)).alloc _) (Sl.litAt (S := fun b => FtS (gq + 1) (.slice none 0 0) b ∧ b ≤ w7.heap.size) rfl (.single ⟨A7, c7, rfl, HS7.out⟩) (by unfold maxLen; simp) (fun _ h _ => h) ⟨⟨la, fun k hk e => by have := (lo k hk).2; omega⟩, Nat.le_refl _⟩) (by unfold maxLen; simp) (by simp) (by simp; omega) (fun k hk hs => hs.1.2 k hk rfl) ?_; intro A8 c8 w8 hown8 hg8 hor8; have hz8 := hg8.size; simp at hz8; have lq8 : gq < w8.heap.size := (by omega); have HR8 := Lib.hid ((hg8.block gq (by simp; omega) (fun e => by have := (lo gq e.symm).1; omega)).trans ((Below.heap_alloc _ _ _ la).trans HC7.out.row)); obtain ⟨b0, b1, b2, b3⟩ := row4 HR8; have fb := frz HR8.out; have HF8 := Lib.hid (S6.out.app HP7.out HG7.out hown8 hg8 hor8); clear hown8 hg8 hor8 HR8 HC7
          refine hK.out _ _ ?_ (fun hHeld => ?_)
          · (first | trivial | (first | with_reducible assumption | (with_reducible refine Below.drew ?_; with_reducible assumption) | (with_reducible refine ba _ _ ?_; with_reducible assumption) | (with_reducible refine Below.drew ?_; with_reducible refine ba _ _ ?_; with_reducible assumption) | exact Below.refl _ _ | exact (Below.refl _ _).drew | exact (Below.refl _ _).alloc (Nat.le_refl _) _ | (refine bc _ _ (by assumption) (by assumption))))
          clear hK K
          refine RegOk.put_ (m' := 63) (by kernel_rfl) ?_
          try simp only [Act.put, List.setIfInBounds_toArray, List.set_cons_zero, List.set_cons_succ]
          refine hR.take (i := 6) (oi := ?ow815_6) (v := ?vw815_6) (m' := 127) ?hw815_6 (by kernel_rfl) (by kernel_rfl) (fun _ _ _ h => h) (Or.inl ⟨?sw815_6, ?yw815_6⟩) (by assumption) ?nw815_6
          case hw815_6 => simp only [List.getElem?_toArray, List.getElem?_cons_succ, List.getElem?_cons_zero]; rfl
          case sw815_6 => rfl
          case yw815_6 => (intro w hSw; (try dsimp only at hSw); go_simp <;> with_reducible rfl)
          try simp only [Act.put, List.setIfInBounds_toArray, List.set_cons_zero, List.set_cons_succ]
          refine hR.come (rs := [7]) (by kernel_rfl) (by simp) ?_
          refine AllReadyH.cons (o := ?o816_7) ?h816_7 (fun K hK => ?kw816_7) AllReadyH.nil
          case h816_7 => simp only [List.getElem?_toArray, List.getElem?_cons_succ, List.getElem?_cons_zero]; rfl
          go_simp <;> (try go_wp2_with fail)
          refine hK.out _ _ ?_ (fun hHeld => ?_)
          · (first | trivial | (first | with_reducible assumption | (with_reducible refine Below.drew ?_; with_reducible assumption) | (with_reducible refine ba _ _ ?_; with_reducible assumption) | (with_reducible refine Below.drew ?_; with_reducible refine ba _ _ ?_; with_reducible assumption) | exact Below.refl _ _ | exact (Below.refl _ _).drew | exact (Below.refl _ _).alloc (Nat.le_refl _) _ | (refine bc _ _ (by assumption) (by assumption))))
          clear hK K
          refine RegOk.put_ (m' := 255) (by kernel_rfl) ?_
          try simp only [Act.put, List.setIfInBounds_toArray, List.set_cons_zero, List.set_cons_succ]
          refine hR.all (by kernel_rfl) ?_ _
          refine NoPanic.normal ?_
          go_wp2_with fail
          go_meet
          case rel => exact ⟨rfl, A8, c8, lf, HLF.out, HF8.out⟩
        case kw811_3 =>
          go_simp
          go_at_call 70; refine (filterP (cs := fl q 0) w6.drew S6.out.p hl HX.out.f).mono ?_; rintro e w7 ⟨A7, c7, rfl, hs7, ⟨lf, hlf, hP7⟩, hG7⟩; have HP7 := Lib.hid hP7; have HG7 := Lib.hid ((Gk.refl g w6).drew.trans hG7); have HC7 := Lib.hid (S6.out.call hP7 HG7.out); obtain ⟨a0, a1, a2, a3⟩ := row4 (Lib.hid HC7.out.row); have fa := frz HC7.out.row; have la := HC7.out.lt; have lz7 := HG7.out.g.size; have HS7 := Lib.hid (hs7.sub (T := fun b => FtS (gq + 1) (.slice none 0 0) b ∧ b ≤ w7.heap.size) (fun b h hlt => ⟨⟨Nat.le_trans (show gq + 1 ≤ w6.heap.size by omega) h, fun k hk e => by have h1 := (lo k hk).2; have h2 : w6.heap.size ≤ b := h; omega⟩, Nat.le_of_lt hlt⟩)); have HLF := Lib.hid hlf; clear hs7 hP7 hG7 hlf
          refine hK.out _ _ ?_ (fun hHeld => ?_)
          · (first | trivial | (first | with_reducible assumption | (with_reducible refine Below.drew ?_; with_reducible assumption) | (with_reducible refine ba _ _ ?_; with_reducible assumption) | (with_reducible refine Below.drew ?_; with_reducible refine ba _ _ ?_; with_reducible assumption) | exact Below.refl _ _ | exact (Below.refl _ _).drew | exact (Below.refl _ _).alloc (Nat.le_refl _) _ | (refine bc _ _ (by assumption) (by assumption))))
          clear hK K
          refine RegOk.put_ (m' := 13) (by kernel_rfl) ?_
          try simp only [Act.put, List.setIfInBounds_toArray, List.set_cons_zero, List.set_cons_succ]
          refine hR.come (rs := [1, 4]) (by kernel_rfl) (by simp) ?_
          refine AllReadyH.cons (o := ?o817_1) ?h817_1 (fun K hK => ?kw817_1) (AllReadyH.cons (o := ?o817_4) ?h817_4 (fun K hK => ?kw817_4) AllReadyH.nil)
          case h817_1 => simp only [List.getElem?_toArray, List.getElem?_cons_succ, List.getElem?_cons_zero]; rfl
          case h817_4 => simp only [List.getElem?_toArray, List.getElem?_cons_succ, List.getElem?_cons_zero]; rfl
          case kw817_1 =>
            go_simp <;> (try go_wp2_with fail)
            refine hK.out _ _ ?_ (fun hHeld => ?_)
            · (first | trivial | (first | with_reducible assumption | (with_reducible refine Below.drew ?_; with_reducible assumption) | (with_reducible refine ba _ _ ?_; with_reducible assumption) | (with_reducible refine Below.drew ?_; with_reducible refine ba _ _ ?_; with_reducible assumption) | exact Below.refl _ _ | exact (Below.refl _ _).drew | exact (Below.refl _ _).alloc (Nat.le_refl _) _ | (refine bc _ _ (by assumption) (by assumption))))
            clear hK K
            refine RegOk.put_ (m' := 15) (by kernel_rfl) ?_
            try simp only [Act.put, List.setIfInBounds_toArray, List.set_cons_zero, List.set_cons_succ]
            refine hR.come (rs := [4]) (by kernel_rfl) (by simp) ?_
            refine AllReadyH.cons (o := ?o818_4) ?h818_4 (fun K hK => ?kw818_4) AllReadyH.nil
            case h818_4 => simp only [List.getElem?_toArray, List.getElem?_cons_succ, List.getElem?_cons_zero]; rfl
            go_simp <;> (try go_wp2_with fail)
            refine hK.out _ _ ?_ (fun hHeld => ?_)
            · (first | trivial | (first | with_reducible assumption | (with_reducible refine Below.drew ?_; with_reducible assumption) | (with_reducible refine ba _ _ ?_; with_reducible assumption) | (with_reducible refine Below.drew ?_; with_reducible refine ba _ _ ?_; with_reducible assumption) | exact Below.refl _ _ | exact (Below.refl _ _).drew | exact (Below.refl _ _).alloc (Nat.le_refl _) _ | (refine bc _ _ (by assumption) (by assumption))))
            clear hK K
            refine RegOk.put_ (m' := 31) (by kernel_rfl) ?_
            try simp only [Act.put, List.setIfInBounds_toArray, List.set_cons_zero, List.set_cons_succ]
            refine hR.come (rs := [5]) (by kernel_rfl) (by simp) ?_
            refine AllReadyH.cons (o := ?o819_5) ?h819_5 (fun K hK => ?kw819_5) AllReadyH.nil
            case h819_5 => simp only [List.getElem?_toArray, List.getElem?_cons_succ, List.getElem?_cons_zero]; rfl
            refine step_append_E (E := cdE.slice) (S := fun b => FtS (gq + 1) (.slice none 0 0) b ∧ b ≤ w7.heap.size) rfl (.tmp 37) (.tmp 40) rfl cfsT (base := gq + 1) (v := .slice none 0 0) (xs := ([] : List (List Cd))) (ys := [fl q 0]) (by rfl) (by rfl) rfl (nz := 1) (by simp) ((HC7.out.own.sub (fun b h hlt => ⟨h, Nat.le_of_lt hlt⟩)).alloc _) (Sl.litAt (S := fun b => FtS (gq + 1) (.slice none 0 0) b ∧ b ≤ w7.heap.size) rfl (.single ⟨A7, c7, rfl, HS7.out⟩) (by unfold maxLen; simp) (fun _ h _ => h) ⟨⟨la, fun k hk e => by have := (lo k hk).2; omega⟩, Nat.le_refl _⟩) (by unfold maxLen; simp) (by simp) (by simp; omega) (fun k hk hs => hs.1.2 k hk rfl) ?_; intro A8 c8 w8 hown8 hg8 hor8; have hz8 := hg8.size; simp at hz8; have lq8 : gq < w8.heap.size := (by omega); have HR8 := Lib.hid ((hg8.block gq (by simp; omega) (fun e => by have := (lo gq e.symm).1; omega)).trans ((Below.heap_alloc _ _ _ la).trans HC7.out.row)); obtain ⟨b0, b1, b2, b3⟩ := row4 HR8; have fb := frz HR8.out; have HF8 := Lib.hid (S6.out.app HP7.out HG7.out hown8 hg8 hor8); clear hown8 hg8 hor8 HR8 HC7
            refine hK.out _ _ ?_ (fun hHeld => ?_)
            · (first | trivial | (first | with_reducible assumption | (with_reducible refine Below.drew ?_; with_reducible assumption) | (with_reducible refine ba _ _ ?_; with_reducible assumption) | (with_reducible refine Below.drew ?_; with_reducible refine ba _ _ ?_; with_reducible assumption) | exact Below.refl _ _ | exact (Below.refl _ _).drew | exact (Below.refl _ _).alloc (Nat.le_refl _) _ | (refine bc _ _ (by assumption) (by assumption))))
            clear hK K
            refine RegOk.put_ (m' := 63) (by kernel_rfl) ?_
            try simp only [Act.put, List.setIfInBounds_toArray, List.set_cons_zero, List.set_cons_succ]
            refine hR.take (i := 6) (oi := ?ow820_6) (v := ?vw820_6) (m' := 127) ?hw820_6 (by kernel_rfl) (by kernel_rfl) (fun _ _ _ h => h) (Or.inl ⟨?sw820_6, ?yw820_6⟩) (by assumption) ?nw820_6
            case hw820_6 => simp only [List.getElem?_toArray, List.getElem?_cons_succ, List.getElem?_cons_zero]; rfl
            case sw820_6 => rfl
            case yw820_6 => (intro w hSw; (try dsimp only at hSw); go_simp <;> with_reducible rfl)
            try simp only [Act.put, List.setIfInBounds_toArray, List.set_cons_zero, List.set_cons_succ]
            refine hR.come (rs := [7]) (by kernel_rfl) (by simp) ?_
            refine AllReadyH.cons (o := ?o821_7) ?h821_7 (fun K hK => ?kw821_7) AllReadyH.nil
            case h821_7 => simp only [List.getElem?_toArray, List.getElem?_cons_succ, List.getElem?_cons_zero]; rfl
            go_simp <;> (try go_wp2_with fail)
            refine hK.out _ _ ?_ (fun hHeld => ?_)
            · (first | trivial | (first | with_reducible assumption | (with_reducible refine Below.drew ?_; with_reducible assumption) | (with_reducible refine ba _ _ ?_; with_reducible assumption) | (with_reducible refine Below.drew ?_; with_reducible refine ba _ _ ?_; with_reducible assumption) | exact Below.refl _ _ | exact (Below.refl _ _).drew | exact (Below.refl _ _).alloc (Nat.le_refl _) _ | (refine bc _ _ (by assumption) (by assumption))))
            clear hK K
            refine RegOk.put_ (m' := 255) (by kernel_rfl) ?_
            try simp only [Act.put, List.setIfInBounds_toArray, List.set_cons_zero, List.set_cons_succ]
            refine hR.all (by kernel_rfl) ?_ _
            refine NoPanic.normal ?_
            go_wp2_with fail
            go_meet
            case rel => exact ⟨rfl, A8, c8, lf, HLF.out, HF8.out⟩
          case kw817_4 =>
            go_simp <;> (try go_wp2_with fail)
            refine hK.out _ _ ?_ (fun hHeld => ?_)
            · (first | trivial | (first | with_reducible assumption | (with_reducible refine Below.drew ?_; with_reducible assumption) | (with_reducible refine ba _ _ ?_; with_reducible assumption) | (with_reducible refine Below.drew ?_; with_reducible refine ba _ _ ?_; with_reducible assumption) | exact Below.refl _ _ | exact (Below.refl _ _).drew | exact (Below.refl _ _).alloc (Nat.le_refl _) _ | (refine bc _ _ (by assumption) (by assumption))))
            clear hK K
            refine RegOk.put_ (m' := 29) (by kernel_rfl) ?_
            try simp only [Act.put, List.setIfInBounds_toArray, List.set_cons_zero, List.set_cons_succ]
            refine hR.come (rs := [1]) (by kernel_rfl) (by simp) ?_
            refine AllReadyH.cons (o := ?o822_1) ?h822_1 (fun K hK => ?kw822_1) AllReadyH.nil
            case h822_1 => simp only [List.getElem?_toArray, List.getElem?_cons_succ, List.getElem?_cons_zero]; rfl
            go_simp <;> (try go_wp2_with fail)
            refine hK.out _ _ ?_ (fun hHeld => ?_)
            · (first | trivial | (first | with_reducible assumption | (with_reducible refine Below.drew ?_; with_reducible assumption) | (with_reducible refine ba _ _ ?_; with_reducible assumption) | (with_reducible refine Below.drew ?_; with_reducible refine ba _ _ ?_; with_reducible assumption) | exact Below.refl _ _ | exact (Below.refl _ _).drew | exact (Below.refl _ _).alloc (Nat.le_refl _) _ | (refine bc _ _ (by assumption) (by assumption))))
            clear hK K
            refine RegOk.put_ (m' := 31) (by kernel_rfl) ?_
            try simp only [Act.put, List.setIfInBounds_toArray, List.set_cons_zero, List.set_cons_succ]
            refine hR.come (rs := [5]) (by kernel_rfl) (by simp) ?_
            refine AllReadyH.cons (o := ?o823_5) ?h823_5 (fun K hK => ?kw823_5) AllReadyH.nil
            case h823_5 => simp only [List.getElem?_toArray, List.getElem?_cons_succ, List.getElem?_cons_zero]; rfl
            refine step_append_E (E := cdE.slice) (S := fun b => FtS (gq + 1) (.slice none 0 0) b ∧ b ≤ w7.heap.size) rfl (.tmp 37) (.tmp 40) rfl cfsT (base := gq + 1) (v := .slice none 0 0) (xs := ([] : List (List Cd))) (ys := [fl q 0]) (by rfl) (by rfl) rfl (nz := 1) (by simp) ((HC7.out.own.sub (fun b h hlt => ⟨h, Nat.le_of_lt hlt⟩)).alloc _) (Sl.litAt (S := fun b => FtS (gq + 1) (.slice none 0 0) b ∧ b ≤ w7.heap.size) rfl (.single ⟨A7, c7, rfl, HS7.out⟩) (by unfold maxLen; simp) (fun _ h _ => h) ⟨⟨la, fun k hk e => by have := (lo k hk).2; omega⟩, Nat.le_refl _⟩) (by unfold maxLen; simp) (by simp) (by simp; omega) (fun k hk hs => hs.1.2 k hk rfl) ?_; intro A8 c8 w8 hown8 hg8 hor8; have hz8 := hg8.size; simp at hz8; have lq8 : gq < w8.heap.size := (by omega); have HR8 := Lib.hid ((hg8.block gq (by simp; omega) (fun e => by have := (lo gq e.symm).1; omega)).trans ((Below.heap_alloc _ _ _ la).trans HC7.out.row)); obtain ⟨b0, b1, b2, b3⟩ := row4 HR8; have fb := frz HR8.out; have HF8 := Lib.hid (S6.out.app HP7.out HG7.out hown8 hg8 hor8); clear hown8 hg8 hor8 HR8 HC7
            refine hK.out _ _ ?_ (fun hHeld => ?_)
            · (first | trivial | (first | with_reducible assumption | (with_reducible refine Below.drew ?_; with_reducible assumption) | (with_reducible refine ba _ _ ?_; with_reducible assumption) | (with_reducible refine Below.drew ?_; with_reducible refine ba _ _ ?_; with_reducible assumption) | exact Below.refl _ _ | exact (Below.refl _ _).drew | exact (Below.refl _ _).alloc (Nat.le_refl _) _ | (refine bc _ _ (by assumption) (by assumption))))
            clear hK K
            refine RegOk.put_ (m' := 63) (by kernel_rfl) ?_
            try simp only [Act.put, List.setIfInBounds_toArray, List.set_cons_zero, List.set_cons_succ]
            refine hR.take (i := 6) (oi := ?ow824_6) (v := ?vw824_6) (m' := 127) ?hw824_6 (by kernel_rfl) (by kernel_rfl) (fun _ _ _ h => h) (Or.inl ⟨?sw824_6, ?yw824_6⟩) (by assumption) ?nw824_6
            case hw824_6 => simp only [List.getElem?_toArray, List.getElem?_cons_succ, List.getElem?_cons_zero]; rfl
            case sw824_6 => rfl
            case yw824_6 => (intro w hSw; (try dsimp only at hSw); go_simp <;> with_reducible rfl)
            try simp only [Act.put, List.setIfInBounds_toArray, List.set_cons_zero, List.set_cons_succ]
            refine hR.come (rs := [7]) (by kernel_rfl) (by simp) ?_
            refine AllReadyH.cons (o := ?o825_7) ?h825_7 (fun K hK => ?kw825_7) AllReadyH.nil
            case h825_7 => simp only [List.getElem?_toArray, List.getElem?_cons_succ, List.getElem?_cons_zero]; rfl
            go_simp <;> (try go_wp2_with fail)
            refine hK.out _ _ ?_ (fun hHeld => ?_)
            · (first | trivial | (first | with_reducible assumption | (with_reducible refine Below.drew ?_; with_reducible assumption) | (with_reducible refine ba _ _ ?_; with_reducible assumption) | (with_reducible refine Below.drew ?_; with_reducible refine ba _ _ ?_; with_reducible assumption) | exact Below.refl _ _ | exact (Below.refl _ _).drew | exact (Below.refl _ _).alloc (Nat.le_refl _) _ | (refine bc _ _ (by assumption) (by assumption))))
            clear hK K
            refine RegOk.put_ (m' := 255) (by kernel_rfl) ?_
            try simp only [Act.put, List.setIfInBounds_toArray, List.set_cons_zero, List.set_cons_succ]
            refine hR.all (by kernel_rfl) ?_ _
            refine NoPanic.normal ?_
            go_wp2_with fail
            go_meet
            case rel => exact ⟨rfl, A8, c8, lf, HLF.out, HF8.out⟩
      obtain ⟨rfl, A9, c9, lf9, hlf9, hst⟩ := hcut
      obtain ⟨w9, hwv⟩ : ∃ x, x = wc := ⟨_, rfl⟩
      subst hwv
      have S9 := Lib.hid hst
      clear hst
      clear v1 v2 v3 q0 q1 q2 q3 fq lq S6
      obtain ⟨v1, v2, v3⟩ := row4s S9.out.frm
      obtain ⟨q0, q1, q2, q3⟩ := row4 (Lib.hid S9.out.row)
      have fq := frz S9.out.row
      have lq := S9.out.lt
      go_upto_if 45 with fail
      go_cut [6] (fun p wx => p = .pointer (some ⟨gq, 0, none⟩) ∧ ∃ A c lf, skipW lf = skipW l' ∧ QSt wr g gq wr.heap.size w.heap.size bs lf j q.col q.k (.slice A q.fs.length c) q.fs wx)
      case first =>
        have hgx := HX.out.g
        rw [HKD.out] at hgx
        by_cases hnf : nFormF (j : Int) = 2
        · rw [if_pos hnf] at hgx
          obtain ⟨hlen, l5, hwi, hft⟩ := hgx
          have e2 : (nFormF (j : Int) == 2) = true := beq_iff_eq.2 hnf
          have HWI := Lib.hid (hwi _ hlf9)
          have HFT := Lib.hid hft
          have HFS := Lib.hid (show q.fs.length = 2 ∧ q.fs = ([] ++ [fl q 0]) ++ [fl q 1] from ⟨hlen, by
            match hq : q.fs, hlen with
            | [a, b], _ => simp [fl, hq]⟩)
          clear hnf hlen hwi hft
          go_upto_region 15 with (go_at_call 71; refine (expectNx (t := [119, 105, 116, 104]) _ S9.out.p hl HWI.out).mono ?_; rintro e w10 ⟨rfl, hP5, hG5⟩; have S10 := Lib.hid (S9.out.call hP5 hG5); clear hP5 hG5)
          clear v1 v2 v3 q0 q1 q2 q3 fq lq
          obtain ⟨q0, q1, q2, q3⟩ := row4 (Lib.hid S10.out.row)
          have fq := frz S10.out.row
          have lq := S10.out.lt
          have lo := S10.out.own.lt
          refine wp_region_noPanic ?_
          refine wp_region_held_drew (S := fun _ => True) (by kernel_rfl) ?_ (fun hHeld => ?_)
          · (first | trivial | (first | with_reducible assumption | (with_reducible refine Below.drew ?_; with_reducible assumption) | (with_reducible refine ba _ _ ?_; with_reducible assumption) | (with_reducible refine Below.drew ?_; with_reducible refine ba _ _ ?_; with_reducible assumption) | exact Below.refl _ _ | exact (Below.refl _ _).drew | exact (Below.refl _ _).alloc (Nat.le_refl _) _ | (refine bc _ _ (by assumption) (by assumption))))
          refine RegOk.begin_ (n := 8) (T := pa9B) ⟨by kernel_rfl, by kernel_rfl, by kernel_rfl, by kernel_rfl⟩ fun hR => ?_
          refine hR.take (i := 0) (oi := ?ow826_0) (v := ?vw826_0) (m' := 1) ?hw826_0 (by kernel_rfl) (by kernel_rfl) (fun _ _ _ h => h) (Or.inl ⟨?sw826_0, ?yw826_0⟩) (by assumption) ?nw826_0
          case hw826_0 => simp only [List.getElem?_toArray, List.getElem?_cons_succ, List.getElem?_cons_zero]; rfl
          case sw826_0 => rfl
          case yw826_0 => (intro w hSw; (try dsimp only at hSw); go_simp <;> with_reducible rfl)
          try simp only [Act.put, List.setIfInBounds_toArray, List.set_cons_zero, List.set_cons_succ]
          refine hR.take (i := 2) (oi := ?ow827_2) (v := ?vw827_2) (m' := 5) ?hw827_2 (by kernel_rfl) (by kernel_rfl) (fun _ _ _ h => h) (Or.inl ⟨?sw827_2, ?yw827_2⟩) (by assumption) ?nw827_2
          case hw827_2 => simp only [List.getElem?_toArray, List.getElem?_cons_succ, List.getElem?_cons_zero]; rfl
          case sw827_2 => rfl
          case yw827_2 => (intro w hSw; (try dsimp only at hSw); go_simp <;> with_reducible rfl)
          try simp only [Act.put, List.setIfInBounds_toArray, List.set_cons_zero, List.set_cons_succ]
          refine hR.come (rs := [1, 3]) (by kernel_rfl) (by simp) ?_
          refine AllReadyH.cons (o := ?o828_1) ?h828_1 (fun K hK => ?kw828_1) (AllReadyH.cons (o := ?o828_3) ?h828_3 (fun K hK => ?kw828_3) AllReadyH.nil)
          case h828_1 => simp only [List.getElem?_toArray, List.getElem?_cons_succ, List.getElem?_cons_zero]; rfl
          case h828_3 => simp only [List.getElem?_toArray, List.getElem?_cons_succ, List.getElem?_cons_zero]; rfl
          case kw828_1 =>
            go_simp <;> (try go_wp2_with fail)
            refine hK.out _ _ ?_ (fun hHeld => ?_)
            · (first | trivial | (first | with_reducible assumption | (with_reducible refine Below.drew ?_; with_reducible assumption) | (with_reducible refine ba _ _ ?_; with_reducible assumption) | (with_reducible refine Below.drew ?_; with_reducible refine ba _ _ ?_; with_reducible assumption) | exact Below.refl _ _ | exact (Below.refl _ _).drew | exact (Below.refl _ _).alloc (Nat.le_refl _) _ | (refine bc _ _ (by assumption) (by assumption))))
            clear hK K
            refine RegOk.put_ (m' := 7) (by kernel_rfl) ?_
            try simp only [Act.put, List.setIfInBounds_toArray, List.set_cons_zero, List.set_cons_succ]
            refine hR.come (rs := [3]) (by kernel_rfl) (by simp) ?_
            refine AllReadyH.cons (o := ?o829_3) ?h829_3 (fun K hK => ?kw829_3) AllReadyH.nil
            case h829_3 => simp only [List.getElem?_toArray, List.getElem?_cons_succ, List.getElem?_cons_zero]; rfl
            go_simp
            go_at_call 70; refine (filterP (cs := fl q 1) w10.drew S10.out.p hl HFT.out).mono ?_; rintro e w7 ⟨A7, c7, rfl, hs7, ⟨lf, hlf, hP7⟩, hG7⟩; have HP7 := Lib.hid hP7; have HG7 := Lib.hid ((Gk.refl g w10).drew.trans hG7); have HC7 := Lib.hid (S10.out.call hP7 HG7.out); obtain ⟨a0, a1, a2, a3⟩ := row4 (Lib.hid HC7.out.row); have fa := frz HC7.out.row; have la := HC7.out.lt; have lz7 := HG7.out.g.size; have HS7 := Lib.hid (hs7.sub (T := fun b => FtS (gq + 1) (.slice A9 1 c9) b ∧ b ≤ w7.heap.size) (fun b h hlt => ⟨⟨Nat.le_trans (show gq + 1 ≤ w10.heap.size by omega) h, fun k hk e => by have h1 := (lo k hk).2; have h2 : w10.heap.size ≤ b := h; omega⟩, Nat.le_of_lt hlt⟩)); have HLF := Lib.hid hlf; clear hs7 hP7 hG7 hlf
            refine hK.out _ _ ?_ (fun hHeld => ?_)
            · (first | trivial | (first | with_reducible assumption | (with_reducible refine Below.drew ?_; with_reducible assumption) | (with_reducible refine ba _ _ ?_; with_reducible assumption) | (with_reducible refine Below.drew ?_; with_reducible refine ba _ _ ?_; with_reducible assumption) | exact Below.refl _ _ | exact (Below.refl _ _).drew | exact (Below.refl _ _).alloc (Nat.le_refl _) _ | (refine bc _ _ (by assumption) (by assumption))))
            clear hK K
            refine RegOk.put_ (m' := 15) (by kernel_rfl) ?_
            try simp only [Act.put, List.setIfInBounds_toArray, List.set_cons_zero, List.set_cons_succ]
            refine hR.come (rs := [4]) (by kernel_rfl) (by simp) ?_
            refine AllReadyH.cons (o := ?o830_4) ?h830_4 (fun K hK => ?kw830_4) AllReadyH.nil
            case h830_4 => simp only [List.getElem?_toArray, List.getElem?_cons_succ, List.getElem?_cons_zero]; rfl
            go_simp <;> (try go_wp2_with fail)
            refine hK.out _ _ ?_ (fun hHeld => ?_)
            · (first | trivial | (first | with_reducible assumption | (with_reducible refine Below.drew ?_; with_reducible assumption) | (with_reducible refine ba _ _ ?_; with_reducible assumption) | (with_reducible refine Below.drew ?_; with_reducible refine ba _ _ ?_; with_reducible assumption) | exact Below.refl _ _ | exact (Below.refl _ _).drew | exact (Below.refl _ _).alloc (Nat.le_refl _) _ | (refine bc _ _ (by assumption) (by assumption))))
            clear hK K
            refine RegOk.put_ (m' := 31) (by kernel_rfl) ?_
            try simp only [Act.put, List.setIfInBounds_toArray, List.set_cons_zero, List.set_cons_succ]
            refine hR.come (rs := [5]) (by kernel_rfl) (by simp) ?_
            refine AllReadyH.cons (o := ?o831_5) ?h831_5 (fun K hK => ?kw831_5) AllReadyH.nil
            case h831_5 => simp only [List.getElem?_toArray, List.getElem?_cons_succ, List.getElem?_cons_zero]; rfl
            refine step_append_E (E := cdE.slice) (S := fun b => FtS (gq + 1) (.slice A9 1 c9) b ∧ b ≤ w7.heap.size) rfl (.tmp 50) (.tmp 53) rfl cfsT (base := gq + 1) (v := .slice A9 1 c9) (xs := ([] ++ [fl q 0])) (ys := [fl q 1]) (by rfl) (by rfl) rfl (nz := 2) (by simp) ((HC7.out.own.sub (fun b h hlt => ⟨h, Nat.le_of_lt hlt⟩)).alloc _) (Sl.litAt (S := fun b => FtS (gq + 1) (.slice A9 1 c9) b ∧ b ≤ w7.heap.size) rfl (.single ⟨A7, c7, rfl, HS7.out⟩) (by unfold maxLen; simp) (fun _ h _ => h) ⟨⟨la, fun k hk e => by have := (lo k hk).2; omega⟩, Nat.le_refl _⟩) (by unfold maxLen; simp) (by simp) (by simp; omega) (fun k hk hs => hs.1.2 k hk rfl) ?_; intro A8 c8 w8 hown8 hg8 hor8; have hz8 := hg8.size; simp at hz8; have lq8 : gq < w8.heap.size := (by omega); have HR8 := Lib.hid ((hg8.block gq (by simp; omega) (fun e => by have := (lo gq e.symm).1; omega)).trans ((Below.heap_alloc _ _ _ la).trans HC7.out.row)); obtain ⟨b0, b1, b2, b3⟩ := row4 HR8; have fb := frz HR8.out; have HF8 := Lib.hid (S10.out.app HP7.out HG7.out hown8 hg8 hor8); clear hown8 hg8 hor8 HR8 HC7
            refine hK.out _ _ ?_ (fun hHeld => ?_)
            · (first | trivial | (first | with_reducible assumption | (with_reducible refine Below.drew ?_; with_reducible assumption) | (with_reducible refine ba _ _ ?_; with_reducible assumption) | (with_reducible refine Below.drew ?_; with_reducible refine ba _ _ ?_; with_reducible assumption) | exact Below.refl _ _ | exact (Below.refl _ _).drew | exact (Below.refl _ _).alloc (Nat.le_refl _) _ | (refine bc _ _ (by assumption) (by assumption))))
            clear hK K
            refine RegOk.put_ (m' := 63) (by kernel_rfl) ?_
            try simp only [Act.put, List.setIfInBounds_toArray, List.set_cons_zero, List.set_cons_succ]
            refine hR.take (i := 6) (oi := ?ow832_6) (v := ?vw832_6) (m' := 127) ?hw832_6 (by kernel_rfl) (by kernel_rfl) (fun _ _ _ h => h) (Or.inl ⟨?sw832_6, ?yw832_6⟩) (by assumption) ?nw832_6
            case hw832_6 => simp only [List.getElem?_toArray, List.getElem?_cons_succ, List.getElem?_cons_zero]; rfl
            case sw832_6 => rfl
            case yw832_6 => (intro w hSw; (try dsimp only at hSw); go_simp <;> with_reducible rfl)
            try simp only [Act.put, List.setIfInBounds_toArray, List.set_cons_zero, List.set_cons_succ]
            refine hR.come (rs := [7]) (by kernel_rfl) (by simp) ?_
            refine AllReadyH.cons (o := ?o833_7) ?h833_7 (fun K hK => ?kw833_7) AllReadyH.nil
            case h833_7 => simp only [List.getElem?_toArray, List.getElem?_cons_succ, List.getElem?_cons_zero]; rfl
            go_simp <;> (try go_wp2_with fail)
            refine hK.out _ _ ?_ (fun hHeld => ?_)
            · (first | trivial | (first | with_reducible assumption | (with_reducible refine Below.drew ?_; with_reducible assumption) | (with_reducible refine ba _ _ ?_; with_reducible assumption) | (with_reducible refine Below.drew ?_; with_reducible refine ba _ _ ?_; with_reducible assumption) | exact Below.refl _ _ | exact (Below.refl _ _).drew | exact (Below.refl _ _).alloc (Nat.le_refl _) _ | (refine bc _ _ (by assumption) (by assumption))))
            clear hK K
            refine RegOk.put_ (m' := 255) (by kernel_rfl) ?_
            try simp only [Act.put, List.setIfInBounds_toArray, List.set_cons_zero, List.set_cons_succ]
            refine hR.all (by kernel_rfl) ?_ _
            refine NoPanic.normal ?_
            go_wp2_with fail
            go_meet
            case rel => exact ⟨rfl, A8, c8, lf, HLF.out, by rw [HFS.out.1, HFS.out.2]; exact HF8.out⟩
          case kw828_3 =>
            go_simp
            go_at_call 70; refine (filterP (cs := fl q 1) w10.drew S10.out.p hl HFT.out).mono ?_; rintro e w7 ⟨A7, c7, rfl, hs7, ⟨lf, hlf, hP7⟩, hG7⟩; have HP7 := Lib.hid hP7; have HG7 := Lib.hid ((Gk.refl g w10).drew.trans hG7); have HC7 := Lib.hid (S10.out.call hP7 HG7.out); obtain ⟨a0, a1, a2, a3⟩ := row4 (Lib.hid HC7.out.row); have fa := frz HC7.out.row; have la := HC7.out.lt; have lz7 := HG7.out.g.size; have HS7 := Lib.hid (hs7.sub (T := fun b => FtS (gq + 1) (.slice A9 1 c9) b ∧ b ≤ w7.heap.size) (fun b h hlt => ⟨⟨Nat.le_trans (show gq + 1 ≤ w10.heap.size by omega) h, fun k hk e => by have h1 := (lo k hk).2; have h2 : w10.heap.size ≤ b := h; omega⟩, Nat.le_of_lt hlt⟩)); have HLF := Lib.hid hlf; clear hs7 hP7 hG7 hlf
            refine hK.out _ _ ?_ (fun hHeld => ?_)
            · (first | trivial | (first | with_reducible assumption | (with_reducible refine Below.drew ?_; with_reducible assumption) | (with_reducible refine ba _ _ ?_; with_reducible assumption) | (with_reducible refine Below.drew ?_; with_reducible refine ba _ _ ?_; with_reducible assumption) | exact Below.refl _ _ | exact (Below.refl _ _).drew | exact (Below.refl _ _).alloc (Nat.le_refl _) _ | (refine bc _ _ (by assumption) (by assumption))))
            clear hK K
            refine RegOk.put_ (m' := 13) (by kernel_rfl) ?_
            try simp only [Act.put, List.setIfInBounds_toArray, List.set_cons_zero, List.set_cons_succ]
            refine hR.come (rs := [1, 4]) (by kernel_rfl) (by simp) ?_
            refine AllReadyH.cons (o := ?o834_1) ?h834_1 (fun K hK => ?kw834_1) (AllReadyH.cons (o := ?o834_4) ?h834_4 (fun K hK => ?kw834_4) AllReadyH.nil)
            case h834_1 => simp only [List.getElem?_toArray, List.getElem?_cons_succ, List.getElem?_cons_zero]; rfl
            case h834_4 => simp only [List.getElem?_toArray, List.getElem?_cons_succ, List.getElem?_cons_zero]; rfl
            case kw834_1 =>
              go_simp <;> (try go_wp2_with fail)
              refine hK.out _ _ ?_ (fun hHeld => ?_)
              · (first | trivial | (first | with_reducible assumption | (with_reducible refine Below.drew ?_; with_reducible assumption) | (with_reducible refine ba _ _ ?_; with_reducible assumption) | (with_reducible refine Below.drew ?_; with_reducible refine ba _ _ ?_; with_reducible assumption) | exact Below.refl _ _ | exact (Below.refl _ _).drew | exact (Below.refl _ _).alloc (Nat.le_refl _) _ | (refine bc _ _ (by assumption) (by assumption))))
              clear hK K
              refine RegOk.put_ (m' := 15) (by kernel_rfl) ?_
              try simp only [Act.put, List.setIfInBounds_toArray, List.set_cons_zero, List.set_cons_succ]
              refine hR.come (rs := [4]) (by kernel_rfl) (by simp) ?_
              refine AllReadyH.cons (o := ?o835_4) ?h835_4 (fun K hK => ?kw835_4) AllReadyH.nil
              case h835_4 => simp only [List.getElem?_toArray, List.getElem?_cons_succ, List.getElem?_cons_zero]; rfl
              go_simp <;> (try go_wp2_with fail)
              refine hK.out _ _ ?_ (fun hHeld => ?_)
              · (first | trivial | (first | with_reducible assumption | (with_reducible refine Below.drew ?_; with_reducible assumption) | (with_reducible refine ba _ _ ?_; with_reducible assumption) | (with_reducible refine Below.drew ?_; with_reducible refine ba _ _ ?_; with_reducible assumption) | exact Below.refl _ _ | exact (Below.refl _ _).drew | exact (Below.refl _ _).alloc (Nat.le_refl _) _ | (refine bc _ _ (by assumption) (by assumption))))
              clear hK K
              refine RegOk.put_ (m' := 31) (by kernel_rfl) ?_
              try simp only [Act.put, List.setIfInBounds_toArray, List.set_cons_zero, List.set_cons_succ]
              refine hR.come (rs := [5]) (by kernel_rfl) (by simp) ?_
              refine AllReadyH.cons (o := ?o836_5) ?h836_5 (fun K hK => ?kw836_5) AllReadyH.nil
              case h836_5 => simp only [List.getElem?_toArray, List.getElem?_cons_succ, List.getElem?_cons_zero]; rfl
              refine step_append_E (E := cdE.slice) (S := fun b => FtS (gq + 1) (.slice A9 1 c9) b ∧ b ≤ w7.heap.size) rfl (.tmp 50) (.tmp 53) rfl cfsT (base := gq + 1) (v := .slice A9 1 c9) (xs := ([] ++ [fl q 0])) (ys := [fl q 1]) (by rfl) (by rfl) rfl (nz := 2) (by simp) ((HC7.out.own.sub (fun b h hlt => ⟨h, Nat.le_of_lt hlt⟩)).alloc _) (Sl.litAt (S := fun b => FtS (gq + 1) (.slice A9 1 c9) b ∧ b ≤ w7.heap.size) rfl (.single ⟨A7, c7, rfl, HS7.out⟩) (by unfold maxLen; simp) (fun _ h _ => h) ⟨⟨la, fun k hk e => by have := (lo k hk).2; omega⟩, Nat.le_refl _⟩) (by unfold maxLen; simp) (by simp) (by simp; omega) (fun k hk hs => hs.1.2 k hk rfl) ?_; intro A8 c8 w8 hown8 hg8 hor8; have hz8 := hg8.size; simp at hz8; have lq8 : gq < w8.heap.size := (by omega); have HR8 := Lib.hid ((hg8.block gq (by simp; omega) (fun e => by have := (lo gq e.symm).1; omega)).trans ((Below.heap_alloc _ _ _ la).trans HC7.out.row)); obtain ⟨b0, b1, b2, b3⟩ := row4 HR8; have fb := frz HR8.out; have HF8 := Lib.hid (S10.out.app HP7.out HG7.out hown8 hg8 hor8); clear hown8 hg8 hor8 HR8 HC7
              refine hK.out _ _ ?_ (fun hHeld => ?_)
              · (first | trivial | (first | with_reducible assumption | (with_reducible refine Below.drew ?_; with_reducible assumption) | (with_reducible refine ba _ _ ?_; with_reducible assumption) | (with_reducible refine Below.drew ?_; with_reducible refine ba _ _ ?_; with_reducible assumption) | exact Below.refl _ _ | exact (Below.refl _ _).drew | exact (Below.refl _ _).alloc (Nat.le_refl _) _ | (refine bc _ _ (by assumption) (by assumption))))
              clear hK K
              refine RegOk.put_ (m' := 63) (by kernel_rfl) ?_
              try simp only [Act.put, List.setIfInBounds_toArray, List.set_cons_zero, List.set_cons_succ]
              refine hR.take (i := 6) (oi := ?ow837_6) (v := ?vw837_6) (m' := 127) ?hw837_6 (by kernel_rfl) (by kernel_rfl) (fun _ _ _ h => h) (Or.inl ⟨?sw837_6, ?yw837_6⟩) (by assumption) ?nw837_6
              case hw837_6 => simp only [List.getElem?_toArray, List.getElem?_cons_succ, List.getElem?_cons_zero]; rfl
              case sw837_6 => rfl
              case yw837_6 => (intro w hSw; (try dsimp only at hSw); go_simp <;> with_reducible rfl)
              try simp only [Act.put, List.setIfInBounds_toArray, List.set_cons_zero, List.set_cons_succ]
              refine hR.come (rs := [7]) (by kernel_rfl) (by simp) ?_
              refine AllReadyH.cons (o := ?o838_7) ?h838_7 (fun K hK => ?kw838_7) AllReadyH.nil
              case h838_7 => simp only [List.getElem?_toArray, List.getElem?_cons_succ, List.getElem?_cons_zero]; rfl
              go_simp <;> (try go_wp2_with fail)
              refine hK.out _ _ ?_ (fun hHeld => ?_)
              · (first | trivial | (first | with_reducible assumption | (with_reducible refine Below.drew ?_; with_reducible assumption) | (with_reducible refine ba _ _ ?_; with_reducible assumption) | (with_reducible refine Below.drew ?_; with_reducible refine ba _ _ ?_; with_reducible assumption) | exact Below.refl _ _ | exact (Below.refl _ _).drew | exact (Below.refl _ _).alloc (Nat.le_refl _) _ | (refine bc _ _ (by assumption) (by assumption))))
              clear hK K
              refine RegOk.put_ (m' := 255) (by kernel_rfl) ?_
              try simp only [Act.put, List.setIfInBounds_toArray, List.set_cons_zero, List.set_cons_succ]
              refine hR.all (by kernel_rfl) ?_ _
              refine NoPanic.normal ?_
              go_wp2_with fail
              go_meet
              case rel => exact ⟨rfl, A8, c8, lf, HLF.out, by rw [HFS.out.1, HFS.out.2]; exact HF8.out⟩
            case kw834_4 =>
              go_simp <;> (try go_wp2_with fail)
              refine hK.out _ _ ?_ (fun hHeld => ?_)
              · (first | trivial | (first | with_reducible assumption | (with_reducible refine Below.drew ?_; with_reducible assumption) | (with_reducible refine ba _ _ ?_; with_reducible assumption) | (with_reducible refine Below.drew ?_; with_reducible refine ba _ _ ?_; with_reducible assumption) | exact Below.refl _ _ | exact (Below.refl _ _).drew | exact (Below.refl _ _).alloc (Nat.le_refl _) _ | (refine bc _ _ (by assumption) (by assumption))))
              clear hK K
              refine RegOk.put_ (m' := 29) (by kernel_rfl) ?_
              try simp only [Act.put, List.setIfInBounds_toArray, List.set_cons_zero, List.set_cons_succ]
              refine hR.come (rs := [1]) (by kernel_rfl) (by simp) ?_
              refine AllReadyH.cons (o := ?o839_1) ?h839_1 (fun K hK => ?kw839_1) AllReadyH.nil
              case h839_1 => simp only [List.getElem?_toArray, List.getElem?_cons_succ, List.getElem?_cons_zero]; rfl
              go_simp <;> (try go_wp2_with fail)
              refine hK.out _ _ ?_ (fun hHeld => ?_)
              · (first | trivial | (first | with_reducible assumption | (with_reducible refine Below.drew ?_; with_reducible assumption) | (with_reducible refine ba _ _ ?_; with_reducible assumption) | (with_reducible refine Below.drew ?_; with_reducible refine ba _ _ ?_; with_reducible assumption) | exact Below.refl _ _ | exact (Below.refl _ _).drew | exact (Below.refl _ _).alloc (Nat.le_refl _) _ | (refine bc _ _ (by assumption) (by assumption))))
              clear hK K
              refine RegOk.put_ (m' := 31) (by kernel_rfl) ?_
              try simp only [Act.put, List.setIfInBounds_toArray, List.set_cons_zero, List.set_cons_succ]
              refine hR.come (rs := [5]) (by kernel_rfl) (by simp) ?_
              refine AllReadyH.cons (o := ?o840_5) ?h840_5 (fun K hK => ?kw840_5) AllReadyH.nil
              case h840_5 => simp only [List.getElem?_toArray, List.getElem?_cons_succ, List.getElem?_cons_zero]; rfl
              refine step_append_E (E := cdE.slice) (S := fun b => FtS (gq + 1) (.slice A9 1 c9) b ∧ b ≤ w7.heap.size) rfl (.tmp 50) (.tmp 53) rfl cfsT (base := gq + 1) (v := .slice A9 1 c9) (xs := ([] ++ [fl q 0])) (ys := [fl q 1]) (by rfl) (by rfl) rfl (nz := 2) (by simp) ((HC7.out.own.sub (fun b h hlt => ⟨h, Nat.le_of_lt hlt⟩)).alloc _) (Sl.litAt (S := fun b => FtS (gq + 1) (.slice A9 1 c9) b ∧ b ≤ w7.heap.size) rfl (.single ⟨A7, c7, rfl, HS7.out⟩) (by unfold maxLen; simp) (fun _ h _ => h) ⟨⟨la, fun k hk e => by have := (lo k hk).2; omega⟩, Nat.le_refl _⟩) (by unfold maxLen; simp) (by simp) (by simp; omega) (fun k hk hs => hs.1.2 k hk rfl) ?_; intro A8 c8 w8 hown8 hg8 hor8; have hz8 := hg8.size; simp at hz8; have lq8 : gq < w8.heap.size := (by omega); have HR8 := Lib.hid ((hg8.block gq (by simp; omega) (fun e => by have := (lo gq e.symm).1; omega)).trans ((Below.heap_alloc _ _ _ la).trans HC7.out.row)); obtain ⟨b0, b1, b2, b3⟩ := row4 HR8; have fb := frz HR8.out; have HF8 := Lib.hid (S10.out.app HP7.out HG7.out hown8 hg8 hor8); clear hown8 hg8 hor8 HR8 HC7
              refine hK.out _ _ ?_ (fun hHeld => ?_)
              · (first | trivial | (first | with_reducible assumption | (with_reducible refine Below.drew ?_; with_reducible assumption) | (with_reducible refine ba _ _ ?_; with_reducible assumption) | (with_reducible refine Below.drew ?_; with_reducible refine ba _ _ ?_; with_reducible assumption) | exact Below.refl _ _ | exact (Below.refl _ _).drew | exact (Below.refl _ _).alloc (Nat.le_refl _) _ | (refine bc _ _ (by assumption) (by assumption))))
              clear hK K
              refine RegOk.put_ (m' := 63) (by kernel_rfl) ?_
              try simp only [Act.put, List.setIfInBounds_toArray, List.set_cons_zero, List.set_cons_succ]
              refine hR.take (i := 6) (oi := ?ow841_6) (v := ?vw841_6) (m' := 127) ?hw841_6 (by kernel_rfl) (by kernel_rfl) (fun _ _ _ h => h) (Or.inl ⟨?sw841_6, ?yw841_6⟩) (by assumption) ?nw841_6
              case hw841_6 => simp only [List.getElem?_toArray, List.getElem?_cons_succ, List.getElem?_cons_zero]; rfl
              case sw841_6 => rfl
              case yw841_6 => (intro w hSw; (try dsimp only at hSw); go_simp <;> with_reducible rfl)
              try simp only [Act.put, List.setIfInBounds_toArray, List.set_cons_zero, List.set_cons_succ]
              refine hR.come (rs := [7]) (by kernel_rfl) (by simp) ?_
              refine AllReadyH.cons (o := ?o842_7) ?h842_7 (fun K hK => ?kw842_7) AllReadyH.nil
              case h842_7 => simp only [List.getElem?_toArray, List.getElem?_cons_succ, List.getElem?_cons_zero]; rfl
              go_simp <;> (try go_wp2_with fail)
              refine hK.out _ _ ?_ (fun hHeld => ?_)
              · (first | trivial | (first | with_reducible assumption | (with_reducible refine Below.drew ?_; with_reducible assumption) | (with_reducible refine ba _ _ ?_; with_reducible assumption) | (with_reducible refine Below.drew ?_; with_reducible refine ba _ _ ?_; with_reducible assumption) | exact Below.refl _ _ | exact (Below.refl _ _).drew | exact (Below.refl _ _).alloc (Nat.le_refl _) _ | (refine bc _ _ (by assumption) (by assumption))))
              clear hK K
              refine RegOk.put_ (m' := 255) (by kernel_rfl) ?_
              try simp only [Act.put, List.setIfInBounds_toArray, List.set_cons_zero, List.set_cons_succ]
              refine hR.all (by kernel_rfl) ?_ _
              refine NoPanic.normal ?_
              go_wp2_with fail
              go_meet
              case rel => exact ⟨rfl, A8, c8, lf, HLF.out, by rw [HFS.out.1, HFS.out.2]; exact HF8.out⟩
        · rw [if_neg hnf] at hgx
          obtain ⟨hlen, hl4⟩ := hgx
          have e2 : (nFormF (j : Int) == 2) = false := beqF hnf
          have HF9 := Lib.hid (show QSt wr g gq wr.heap.size w.heap.size bs lf9 j q.col q.k (.slice A9 q.fs.length c9) q.fs w9 by
            have h := S9.out
            have h2 : q.fs = [] ++ [fl q 0] := by
              match hq : q.fs, hlen with
              | [a], _ => simp [fl, hq]
            rw [← h2] at h
            rw [hlen]
            exact h)
          have HL4 := Lib.hid (hlf9.trans (by rw [hl4]) : skipW lf9 = skipW l')
          clear hnf hlen hl4
          go_wp2_with fail
          go_meet
          case rel => exact ⟨rfl, A9, c9, lf9, HL4.out, HF9.out⟩
      obtain ⟨rfl, A, c, lf', hlf', hst⟩ := hcut
      obtain ⟨wz, hwv⟩ : ∃ x, x = wc := ⟨_, rfl⟩
      subst hwv
      have SZ := Lib.hid hst
      have HLF := Lib.hid hlf'
      clear hst hlf' v1 v2 v3 q0 q1 q2 q3 fq lq S9
      obtain ⟨q0, q1, q2, q3⟩ := row4 (Lib.hid SZ.out.row)
      obtain ⟨r0, r1, r2, r3⟩ := row4 (Lib.hid SZ.out.res)
      have fq := frz SZ.out.row
      have fr := frz SZ.out.res
      have lq := SZ.out.lt
      have lr := heap_lt SZ.out.res
      have hqr : gq ≠ w.heap.size := by have := SZ.out.hf; have := SZ.out.hr; omega
      go_wp2_with fail
      have hset : ((((wz.setCell ⟨w.heap.size, 0, none⟩ (.int .i64 (j : Int))).setCell ⟨w.heap.size, 1, none⟩ (.int .i64 q.col)).setCell ⟨w.heap.size, 2, none⟩ (.int .i64 q.k)).setCell ⟨w.heap.size, 3, none⟩ (.slice A q.fs.length c)).heap[w.heap.size]? = some (.cells #[.int .i64 (j : Int), .int .i64 q.col, .int .i64 q.k, .slice A q.fs.length c] 24 (0, 0)) := heap_set (i := 3) (heap_set (i := 2) (heap_set (i := 1) (heap_set (i := 0) SZ.out.res)))
      obtain ⟨t0, t1, t2, t3⟩ := row4 (Lib.hid hset)
      have hwg : g ≠ w.heap.size := by have := SZ.out.hrg; omega
      refine bodyPost_ret (v := .agg #[.int .i64 (j : Int), .int .i64 q.col, .int .i64 q.k, .slice A q.fs.length c]) (by simp [results, Tryz.results28, go_sem, *]) rfl ⟨A, c, by rw [HKD.out], ?_, ⟨lf', HLF.out, ?_⟩, ?_⟩
      · have h1 : Sl cdE.slice (fun b => gq < b) wz A c q.fs := SZ.out.own.toSl (fun b h _ => h.1) (fun b h _ _ => h)
        have hn : ¬ gq < w.heap.size := by have := SZ.out.hf; have := SZ.out.hr; omega
        exact (h1.keep (((((Agree.refl _ _).set hn _).set hn _).set hn _).set hn _)).sub (fun b hb _ => by have := SZ.out.hf; have := SZ.out.hr; have := SZ.out.hq; omega)
      · obtain ⟨i, a, b, d⟩ := SZ.out.p
        exact ⟨i, a, b, ((((Below.heap_setCell _ _ _ _ hwg).trans (Below.heap_setCell _ _ _ _ hwg)).trans (Below.heap_setCell _ _ _ _ hwg)).trans (Below.heap_setCell _ _ _ _ hwg)).trans d⟩
      · exact (HGR.out.trans SZ.out.gk).belowR (Below.setCell (p := ⟨w.heap.size, 3, none⟩) (Below.setCell (p := ⟨w.heap.size, 2, none⟩) (Below.setCell (p := ⟨w.heap.size, 1, none⟩) (Below.setCell (p := ⟨w.heap.size, 0, none⟩) (Below.refl w.heap.size wz) (Nat.le_refl _) _) (Nat.le_refl _) _) (Nat.le_refl _) _) (Nat.le_refl _) _)
    · have hne := kw_ne (j := (j : Int)) (k := (kd : Int)) (by omega) (by omega) (by omega)
      rw [kw_eq] at hlook
      have HT' := Lib.hid (show tokF (skipW lf) = (1, kwL (kd : Int)) by rw [HE.out, ← HKD.out]; exact HX.out.n1.1)
      obtain ⟨kw, hkw⟩ : ∃ t, kwL (j : Int) = t := ⟨_, rfl⟩
      rw [hkw] at hlook hne
      clear hkw
      go_upto_region 6 with (refine step_lookup (by rfl) (by rfl) (by rfl) (by rfl) hlook ?_)
      clear hlook
      have hlg := HPr.out.lt
      have hbr : Below wr.heap.size wr (wr.alloc (.cells #[.string ⟨kw.toArray⟩, .bool (hasColB (j : Int)), .int .i64 (maxKF (j : Int)), .int .i64 (nFormF (j : Int))] 83)) := (Below.refl _ _).alloc (Nat.le_refl _) _
      have HBR := Lib.hid hbr
      have HP2 := Lib.hid (HPr.out.below hbr)
      clear hbr
      go_wp2_with (go_at_call 67; refine (acceptT (k' := 0) (k := 1) (t := kwL (kd : Int)) (u := kw) _ HP2.out hl HT'.out hne).mono ?_; rintro e w3 ⟨rfl, hP3, hG3⟩; have HP3 := Lib.hid hP3; have HG3 := Lib.hid hG3; clear hP3 hG3)
      go_roundw
      case rel =>
        have hz := HG.out.g.size
        refine ⟨j + 1, skipW lf, by omega, by omega, by go_num, Lib.hid (by rw [skipW_idem, HE.out]), Lib.hid HP3.out, Lib.hid ?_, Lib.hid ?_, Lib.hid ((HG.out.call HBR.out).trans HG3.out)⟩
        · exact HG3.out.row (HMr.out.below HBR.out) (by have := P1.out.lt; omega)
        · exact HG3.out.row ((mvP HRr HBR.out).out) (by omega)
      case measure => simp [intOf]; omega
end Go.Proofs.YtagadbdbbglddaaGreatDoor
