/-
  Texts of this claim, merged: Pa3, Pa4, Pa5. Conditions: as each theorem says.
-/
import Derived.Lib.AtoiErrMem
import Derived.Test.YtagadbdbbglddaaGreatDoorU1
import Derived.Test.YtagadbdbbglddaaGreatDoorU2
import Derived.Test.YtagadbdbbglddaaGreatDoorU3
import Derived.Test.YtagadbdbbglddaaGreatDoorU4
import Derived.Test.YtagadbdbbglddaaGreatDoorShelf
import Derived.Test.YtagadbdbbglddaaGreatDoorU22
set_option linter.unusedSimpArgs false
set_option linter.unusedVariables false
namespace Go.Proofs.YtagadbdbbglddaaGreatDoor
open Go.RowKit

theorem PAt.row {bs : List UInt8} {g : Nat} {l : List UInt8} {w : World} (h : PAt bs g l w) : ∃ i : Nat, i ≤ bs.length ∧ bs.drop i = l ∧ Hid (w.heap[g]? = some (.cells #[.string ⟨bs.toArray⟩, .int .i64 (i : Nat), .int .i64 0, .int .i64 0] 77 (0, 0))) := h
theorem PAt.below {bs : List UInt8} {g : Nat} {l : List UInt8} {w w' : World} (h : PAt bs g l w) (hb : Below w.heap.size w w') : PAt bs g l w' := by
  obtain ⟨i, h1, h2, h3⟩ := h
  exact ⟨i, h1, h2, (hb.block g (heap_lt h3)).trans h3⟩
theorem PAt.lt {bs : List UInt8} {g : Nat} {l : List UInt8} {w : World} (h : PAt bs g l w) : g < w.heap.size := by
  obtain ⟨i, h1, h2, h3⟩ := h
  exact heap_lt h3
theorem PAt.err {bs : List UInt8} {g : Nat} {l : List UInt8} {w : World} (h : PAt bs g l w) : w.cell? ⟨g, 3, none⟩ = some (.int .i64 0) := by
  obtain ⟨i, h1, h2, h3⟩ := h
  exact (row4 (Lib.hid h3)).2.2.2
def accF (b : Bool) (u l : List UInt8) : List UInt8 := if b then l.drop u.length else l
def pa3A : List FRow := [(0, ([], (6, [0]))), (1, ([0], (7, [5]))), (2, ([1], (8, [6]))), (3, ([2], (9, [7]))), (4, ([3], (10, [8]))), (5, ([4], (11, [9]))), (6, ([5], (12, [0, 10]))), (7, ([6, 5, 5], (13, [11, 10]))), (8, ([5], (14, [3, 10]))), (9, ([7, 8, 5], (15, [12, 13, 10]))), (10, ([5, 9], (16, [10, 14])))]
set_option maxRecDepth 100000 in
set_option maxHeartbeats 4000000 in
theorem acceptY {bs l t u : List UInt8} {k k' : Int} {g : Nat} (w : World) (hp : PAt bs g l w) (hl : bs.length ≤ 1000) (ht : tokF (skipW l) = (k, t)) (hne : True) :
    Calls Tryz.prog 67 #[.pointer (some ⟨g, 0, none⟩), .agg #[.int .i64 k, .string ⟨(t).toArray⟩]] w fun e w' => e = .returned (.bool true) ∧ PAt bs g (accF true t (skipW l)) w' ∧ Gk g w w' := by
  have HT := Lib.hid ht
  have HP := Lib.hid hp
  have lg := hp.lt
  clear ht hp
  go_enter Tryz.func67, Tryz.ntmps67
  go_upto_region 1 with fail
  refine wp_world (F := fun wx => Below w.heap.size w wx ∧ Hid (wx.heap[w.heap.size]? = some (.cells #[.int .i64 k, .string ⟨(t).toArray⟩] 80 (0, 0)))) ⟨(by repeat' (first | with_reducible exact Below.refl _ _ | with_reducible assumption | with_reducible refine Below.setCell ?_ ?_ _ | with_reducible refine Below.drew ?_ | with_reducible refine below_drewN ?_ _ | with_reducible refine Below.alloc ?_ ?_ _ | (rintro _ ⟨⟩; simp <;> omega) | omega | (simp <;> omega))), Lib.hid (heap_alloc_at rfl)⟩ ?_
  rintro w1 ⟨bb, gt⟩
  have B1 := Lib.hid bb
  have P1 := Lib.hid (HP.out.below bb)
  have l1 := P1.out.lt
  clear bb HP
  have hng : g ≠ w.heap.size := by omega
  have hlt := heap_lt gt.out
  have hS : ∀ X, Gk g w1 X → PAt bs g (skipW l) X ∨ PAt bs g l X → Gk g w1 X ∧ X.cell? ⟨g, 3, none⟩ = some (.int .i64 0) ∧ X.cell? ⟨w.heap.size, 0, none⟩ = some (.int .i64 k) ∧ X.cell? ⟨w.heap.size, 1, none⟩ = some (.string ⟨(t).toArray⟩) := fun X hX hP => by
    obtain ⟨c0, c1⟩ := two2P (Lib.hid (hX.row gt.out (by omega)))
    exact ⟨hX, hP.elim PAt.err PAt.err, c0, c1⟩
  go_cut [15] (fun v wx => v = .bool false ∧ PAt bs g (skipW l) wx ∧ Gk g w1 wx)
  case first =>
    refine wp_region_noPanic ?_
    refine wp_region_held_drew (S := fun X => Gk g w1 X ∧ X.cell? ⟨g, 3, none⟩ = some (.int .i64 0) ∧ X.cell? ⟨w.heap.size, 0, none⟩ = some (.int .i64 k) ∧ X.cell? ⟨w.heap.size, 1, none⟩ = some (.string ⟨(t).toArray⟩)) (by kernel_rfl) ?_ (fun hHeld => ?_)
    · (first | exact hS w1 (Gk.refl _ _) (.inr P1.out) | exact hS w1.drew (Gk.refl _ _).drew (.inr P1.out) | exact hS _ hkP (.inl HPP.out) | (first | with_reducible assumption | (with_reducible refine Below.drew ?_; with_reducible assumption) | (with_reducible refine ba _ _ ?_; with_reducible assumption) | (with_reducible refine Below.drew ?_; with_reducible refine ba _ _ ?_; with_reducible assumption) | exact Below.refl _ _ | exact (Below.refl _ _).drew | exact (Below.refl _ _).alloc (Nat.le_refl _) _ | (refine bc _ _ (by assumption) (by assumption))))
    refine RegOk.begin_ (n := 11) (T := pa3A) ⟨by kernel_rfl, by kernel_rfl, by kernel_rfl, by kernel_rfl⟩ fun hR => ?_
    refine hR.take (i := 0) (oi := ?ow776_0) (v := ?vw776_0) (m' := 1) ?hw776_0 (by kernel_rfl) (by kernel_rfl) (fun _ _ _ h => h) (Or.inl ⟨?sw776_0, ?yw776_0⟩) (by assumption) ?nw776_0
    case hw776_0 => simp only [List.getElem?_toArray, List.getElem?_cons_succ, List.getElem?_cons_zero]; rfl
    case sw776_0 => rfl
    case yw776_0 => (intro w hSw; (try dsimp only at hSw); go_simp <;> with_reducible rfl)
    try simp only [Act.put, List.setIfInBounds_toArray, List.set_cons_zero, List.set_cons_succ]
    refine hR.take (i := 1) (oi := ?ow777_1) (v := ?vw777_1) (m' := 3) ?hw777_1 (by kernel_rfl) (by kernel_rfl) (fun _ _ _ h => h) (Or.inl ⟨?sw777_1, ?yw777_1⟩) (by assumption) ?nw777_1
    case hw777_1 => simp only [List.getElem?_toArray, List.getElem?_cons_succ, List.getElem?_cons_zero]; rfl
    case sw777_1 => rfl
    case yw777_1 => (intro w hSw; (try dsimp only at hSw); go_simp <;> with_reducible rfl)
    try simp only [Act.put, List.setIfInBounds_toArray, List.set_cons_zero, List.set_cons_succ]
    refine hR.take (i := 2) (oi := ?ow778_2) (v := ?vw778_2) (m' := 7) ?hw778_2 (by kernel_rfl) (by kernel_rfl) (fun _ _ _ h => h) (Or.inl ⟨?sw778_2, ?yw778_2⟩) (by assumption) ?nw778_2
    case hw778_2 => simp only [List.getElem?_toArray, List.getElem?_cons_succ, List.getElem?_cons_zero]; rfl
    case sw778_2 => rfl
    case yw778_2 => (intro w hSw; (try dsimp only at hSw); go_simp <;> with_reducible rfl)
    try simp only [Act.put, List.setIfInBounds_toArray, List.set_cons_zero, List.set_cons_succ]
    refine hR.take (i := 3) (oi := ?ow779_3) (v := ?vw779_3) (m' := 15) ?hw779_3 (by kernel_rfl) (by kernel_rfl) (fun _ _ _ h => h) (Or.inl ⟨?sw779_3, ?yw779_3⟩) (by assumption) ?nw779_3
    case hw779_3 => simp only [List.getElem?_toArray, List.getElem?_cons_succ, List.getElem?_cons_zero]; rfl
    case sw779_3 => rfl
    case yw779_3 => (intro w hSw; (try dsimp only at hSw); go_simp <;> with_reducible rfl)
    try simp only [Act.put, List.setIfInBounds_toArray, List.set_cons_zero, List.set_cons_succ]
    refine hR.take (i := 4) (oi := ?ow780_4) (v := ?vw780_4) (m' := 31) ?hw780_4 (by kernel_rfl) (by kernel_rfl) (fun _ _ _ h => h) (Or.inl ⟨?sw780_4, ?yw780_4⟩) (by assumption) ?nw780_4
    case hw780_4 => simp only [List.getElem?_toArray, List.getElem?_cons_succ, List.getElem?_cons_zero]; rfl
    case sw780_4 => rfl
    case yw780_4 => (intro w hSw; (try dsimp only at hSw); go_simp <;> with_reducible rfl)
    try simp only [Act.put, List.setIfInBounds_toArray, List.set_cons_zero, List.set_cons_succ]
    refine hR.take (i := 5) (oi := ?ow781_5) (v := ?vw781_5) (m' := 63) ?hw781_5 (by kernel_rfl) (by kernel_rfl) (fun _ _ _ h => h) (Or.inl ⟨?sw781_5, ?yw781_5⟩) (by assumption) ?nw781_5
    case hw781_5 => simp only [List.getElem?_toArray, List.getElem?_cons_succ, List.getElem?_cons_zero]; rfl
    case sw781_5 => rfl
    case yw781_5 => (intro w hSw; (try dsimp only at hSw); go_simp <;> with_reducible rfl)
    try simp only [Act.put, List.setIfInBounds_toArray, List.set_cons_zero, List.set_cons_succ]
    refine hR.take (i := 6) (oi := ?ow782_6) (v := ?vw782_6) (m' := 127) ?hw782_6 (by kernel_rfl) (by kernel_rfl) (fun _ _ _ h => h) (Or.inl ⟨?sw782_6, ?yw782_6⟩) (by assumption) ?nw782_6
    case hw782_6 => simp only [List.getElem?_toArray, List.getElem?_cons_succ, List.getElem?_cons_zero]; rfl
    case sw782_6 => rfl
    case yw782_6 => (intro w hSw; (try dsimp only at hSw); go_simp <;> with_reducible rfl)
    try simp only [Act.put, List.setIfInBounds_toArray, List.set_cons_zero, List.set_cons_succ]
    refine hR.take (i := 8) (oi := ?ow783_8) (v := ?vw783_8) (m' := 383) ?hw783_8 (by kernel_rfl) (by kernel_rfl) (fun _ _ _ h => h) (Or.inl ⟨?sw783_8, ?yw783_8⟩) (by assumption) ?nw783_8
    case hw783_8 => simp only [List.getElem?_toArray, List.getElem?_cons_succ, List.getElem?_cons_zero]; rfl
    case sw783_8 => rfl
    case yw783_8 => (intro w hSw; (try dsimp only at hSw); go_simp <;> with_reducible rfl)
    try simp only [Act.put, List.setIfInBounds_toArray, List.set_cons_zero, List.set_cons_succ]
    refine hR.come (rs := [7]) (by kernel_rfl) (by simp) ?_
    refine AllReadyH.cons (o := ?o784_7) ?h784_7 (fun K hK => ?kw784_7) AllReadyH.nil
    case h784_7 => simp only [List.getElem?_toArray, List.getElem?_cons_succ, List.getElem?_cons_zero]; rfl
    go_simp
    go_at_call 29; refine (peekP (k := k) (t := t) w1.drew P1.out hl HT.out).mono ?_; rintro e w2 ⟨rfl, hP2, hG2⟩; have hkP : Gk g w1 w2 := (Gk.refl _ _).drew.trans hG2; have HPP := Lib.hid hP2; clear hP2 hG2
    refine hK.out _ _ ?_ (fun hHeld => ?_)
    · (first | exact hS w1 (Gk.refl _ _) (.inr P1.out) | exact hS w1.drew (Gk.refl _ _).drew (.inr P1.out) | exact hS _ hkP (.inl HPP.out) | (first | with_reducible assumption | (with_reducible refine Below.drew ?_; with_reducible assumption) | (with_reducible refine ba _ _ ?_; with_reducible assumption) | (with_reducible refine Below.drew ?_; with_reducible refine ba _ _ ?_; with_reducible assumption) | exact Below.refl _ _ | exact (Below.refl _ _).drew | exact (Below.refl _ _).alloc (Nat.le_refl _) _ | (refine bc _ _ (by assumption) (by assumption))))
    clear hK K
    refine RegOk.put_ (m' := 511) (by kernel_rfl) ?_
    try simp only [Act.put, List.setIfInBounds_toArray, List.set_cons_zero, List.set_cons_succ]
    refine hR.take (i := 9) (oi := ?ow785_9) (v := ?vw785_9) (m' := 1023) ?hw785_9 (by kernel_rfl) (by kernel_rfl) (fun _ _ _ h => h) (Or.inl ⟨?sw785_9, ?yw785_9⟩) (by assumption) ?nw785_9
    case hw785_9 => simp only [List.getElem?_toArray, List.getElem?_cons_succ, List.getElem?_cons_zero]; rfl
    case sw785_9 => rfl
    case yw785_9 => (intro w hSw; (try dsimp only at hSw); go_simp <;> with_reducible rfl)
    try simp only [Act.put, List.setIfInBounds_toArray, List.set_cons_zero, List.set_cons_succ]
    refine hR.take (i := 10) (oi := ?ow786_10) (v := ?vw786_10) (m' := 2047) ?hw786_10 (by kernel_rfl) (by kernel_rfl) (fun _ _ _ h => h) (Or.inl ⟨?sw786_10, ?yw786_10⟩) (by assumption) ?nw786_10
    case hw786_10 => simp only [List.getElem?_toArray, List.getElem?_cons_succ, List.getElem?_cons_zero]; rfl
    case sw786_10 => rfl
    case yw786_10 => (intro w hSw; (try dsimp only at hSw); go_simp <;> with_reducible rfl)
    try simp only [Act.put, List.setIfInBounds_toArray, List.set_cons_zero, List.set_cons_succ]
    refine hR.all (by kernel_rfl) ?_ _
    refine NoPanic.normal ?_
    go_wp2_with fail
    go_meet
    case rel => exact ⟨rfl, HPP.out, hkP⟩
  obtain ⟨rfl, hP2, hG2⟩ := hcut
  obtain ⟨w2, hwv⟩ : ∃ x, x = wc := ⟨_, rfl⟩
  subst hwv
  obtain ⟨i, hi, hdr, hg⟩ := hP2.row
  have HDR := Lib.hid hdr
  have HG2 := Lib.hid hG2
  have HP2 := Lib.hid hP2
  obtain ⟨p0, p1, p2, p3⟩ := row4 hg
  have fp := frzP hg
  have gt2 := Lib.hid (hG2.row gt.out (by omega))
  obtain ⟨t0, t1⟩ := two2P gt2
  have lg2 := heap_lt hg.out
  have HGW := Lib.hid (show Gk g w w2 from ⟨⟨hG2.g.os.trans B1.out.os, hG2.g.tape.trans B1.out.tape, hG2.g.output.trans B1.out.output, Nat.le_trans B1.out.size hG2.g.size, fun b hb hn => (hG2.g.block b (Nat.lt_of_lt_of_le hb B1.out.size) hn).trans (B1.out.block b hb)⟩⟩)
  clear hP2 hG2 hdr hS
  (have htl := tok_le HT.out; (rw [← HDR.out, List.length_drop] at htl); have hw : IntKind.i64.wrap ((i : Int) + (t.length : Int)) = ((i + t.length : Nat) : Int) := IntWalk.i64_in _ (by omega); have hfin := Lib.hid (show PAt bs g ((skipW l).drop t.length) (w2.setCell ⟨g, 1, none⟩ (.int .i64 ((i : Int) + (t.length : Int)))) ∧ Gk g w (w2.setCell ⟨g, 1, none⟩ (.int .i64 ((i : Int) + (t.length : Int)))) from ⟨⟨i + t.length, by omega, by rw [← HDR.out, List.drop_drop], heap_set (i := 1) hg.out⟩, HGW.out.set 1 _⟩); clear htl; go_upto_region 3 with fail; go_region_law (fail); all_goals (go_wp2_with fail; go_ret; exact ⟨rfl, hfin.out.1, hfin.out.2.drew⟩))
set_option maxRecDepth 100000 in
set_option maxHeartbeats 4000000 in
theorem acceptT {bs l t u : List UInt8} {k k' : Int} {g : Nat} (w : World) (hp : PAt bs g l w) (hl : bs.length ≤ 1000) (ht : tokF (skipW l) = (k, t)) (hne : t ≠ u) :
    Calls Tryz.prog 67 #[.pointer (some ⟨g, 0, none⟩), .agg #[.int .i64 k, .string ⟨(u).toArray⟩]] w fun e w' => e = .returned (.bool false) ∧ PAt bs g (accF false u (skipW l)) w' ∧ Gk g w w' := by
  have HT := Lib.hid ht
  have HP := Lib.hid hp
  have lg := hp.lt
  clear ht hp
  go_enter Tryz.func67, Tryz.ntmps67
  go_upto_region 1 with fail
  refine wp_world (F := fun wx => Below w.heap.size w wx ∧ Hid (wx.heap[w.heap.size]? = some (.cells #[.int .i64 k, .string ⟨(u).toArray⟩] 80 (0, 0)))) ⟨(by repeat' (first | with_reducible exact Below.refl _ _ | with_reducible assumption | with_reducible refine Below.setCell ?_ ?_ _ | with_reducible refine Below.drew ?_ | with_reducible refine below_drewN ?_ _ | with_reducible refine Below.alloc ?_ ?_ _ | (rintro _ ⟨⟩; simp <;> omega) | omega | (simp <;> omega))), Lib.hid (heap_alloc_at rfl)⟩ ?_
  rintro w1 ⟨bb, gt⟩
  have B1 := Lib.hid bb
  have P1 := Lib.hid (HP.out.below bb)
  have l1 := P1.out.lt
  clear bb HP
  have hng : g ≠ w.heap.size := by omega
  have hlt := heap_lt gt.out
  have hS : ∀ X, Gk g w1 X → PAt bs g (skipW l) X ∨ PAt bs g l X → Gk g w1 X ∧ X.cell? ⟨g, 3, none⟩ = some (.int .i64 0) ∧ X.cell? ⟨w.heap.size, 0, none⟩ = some (.int .i64 k) ∧ X.cell? ⟨w.heap.size, 1, none⟩ = some (.string ⟨(u).toArray⟩) := fun X hX hP => by
    obtain ⟨c0, c1⟩ := two2P (Lib.hid (hX.row gt.out (by omega)))
    exact ⟨hX, hP.elim PAt.err PAt.err, c0, c1⟩
  go_cut [15] (fun v wx => v = .bool true ∧ PAt bs g (skipW l) wx ∧ Gk g w1 wx)
  case first =>
    refine wp_region_noPanic ?_
    refine wp_region_held_drew (S := fun X => Gk g w1 X ∧ X.cell? ⟨g, 3, none⟩ = some (.int .i64 0) ∧ X.cell? ⟨w.heap.size, 0, none⟩ = some (.int .i64 k) ∧ X.cell? ⟨w.heap.size, 1, none⟩ = some (.string ⟨(u).toArray⟩)) (by kernel_rfl) ?_ (fun hHeld => ?_)
    · (first | exact hS w1 (Gk.refl _ _) (.inr P1.out) | exact hS w1.drew (Gk.refl _ _).drew (.inr P1.out) | exact hS _ hkP (.inl HPP.out) | (first | with_reducible assumption | (with_reducible refine Below.drew ?_; with_reducible assumption) | (with_reducible refine ba _ _ ?_; with_reducible assumption) | (with_reducible refine Below.drew ?_; with_reducible refine ba _ _ ?_; with_reducible assumption) | exact Below.refl _ _ | exact (Below.refl _ _).drew | exact (Below.refl _ _).alloc (Nat.le_refl _) _ | (refine bc _ _ (by assumption) (by assumption))))
    refine RegOk.begin_ (n := 11) (T := pa3A) ⟨by kernel_rfl, by kernel_rfl, by kernel_rfl, by kernel_rfl⟩ fun hR => ?_
    refine hR.take (i := 0) (oi := ?ow787_0) (v := ?vw787_0) (m' := 1) ?hw787_0 (by kernel_rfl) (by kernel_rfl) (fun _ _ _ h => h) (Or.inl ⟨?sw787_0, ?yw787_0⟩) (by assumption) ?nw787_0
    case hw787_0 => simp only [List.getElem?_toArray, List.getElem?_cons_succ, List.getElem?_cons_zero]; rfl
    case sw787_0 => rfl
    case yw787_0 => (intro w hSw; (try dsimp only at hSw); go_simp <;> with_reducible rfl)
    try simp only [Act.put, List.setIfInBounds_toArray, List.set_cons_zero, List.set_cons_succ]
    refine hR.take (i := 1) (oi := ?ow788_1) (v := ?vw788_1) (m' := 3) ?hw788_1 (by kernel_rfl) (by kernel_rfl) (fun _ _ _ h => h) (Or.inl ⟨?sw788_1, ?yw788_1⟩) (by assumption) ?nw788_1
    case hw788_1 => simp only [List.getElem?_toArray, List.getElem?_cons_succ, List.getElem?_cons_zero]; rfl
    case sw788_1 => rfl
    case yw788_1 => (intro w hSw; (try dsimp only at hSw); go_simp <;> with_reducible rfl)
    try simp only [Act.put, List.setIfInBounds_toArray, List.set_cons_zero, List.set_cons_succ]
    refine hR.take (i := 2) (oi := ?ow789_2) (v := ?vw789_2) (m' := 7) ?hw789_2 (by kernel_rfl) (by kernel_rfl) (fun _ _ _ h => h) (Or.inl ⟨?sw789_2, ?yw789_2⟩) (by assumption) ?nw789_2
    case hw789_2 => simp only [List.getElem?_toArray, List.getElem?_cons_succ, List.getElem?_cons_zero]; rfl
    case sw789_2 => rfl
    case yw789_2 => (intro w hSw; (try dsimp only at hSw); go_simp <;> with_reducible rfl)
    try simp only [Act.put, List.setIfInBounds_toArray, List.set_cons_zero, List.set_cons_succ]
    refine hR.take (i := 3) (oi := ?ow790_3) (v := ?vw790_3) (m' := 15) ?hw790_3 (by kernel_rfl) (by kernel_rfl) (fun _ _ _ h => h) (Or.inl ⟨?sw790_3, ?yw790_3⟩) (by assumption) ?nw790_3
    case hw790_3 => simp only [List.getElem?_toArray, List.getElem?_cons_succ, List.getElem?_cons_zero]; rfl
    case sw790_3 => rfl
    case yw790_3 => (intro w hSw; (try dsimp only at hSw); go_simp <;> with_reducible rfl)
    try simp only [Act.put, List.setIfInBounds_toArray, List.set_cons_zero, List.set_cons_succ]
    refine hR.take (i := 4) (oi := ?ow791_4) (v := ?vw791_4) (m' := 31) ?hw791_4 (by kernel_rfl) (by kernel_rfl) (fun _ _ _ h => h) (Or.inl ⟨?sw791_4, ?yw791_4⟩) (by assumption) ?nw791_4
    case hw791_4 => simp only [List.getElem?_toArray, List.getElem?_cons_succ, List.getElem?_cons_zero]; rfl
    case sw791_4 => rfl
    case yw791_4 => (intro w hSw; (try dsimp only at hSw); go_simp <;> with_reducible rfl)
    try simp only [Act.put, List.setIfInBounds_toArray, List.set_cons_zero, List.set_cons_succ]
    refine hR.take (i := 5) (oi := ?ow792_5) (v := ?vw792_5) (m' := 63) ?hw792_5 (by kernel_rfl) (by kernel_rfl) (fun _ _ _ h => h) (Or.inl ⟨?sw792_5, ?yw792_5⟩) (by assumption) ?nw792_5
    case hw792_5 => simp only [List.getElem?_toArray, List.getElem?_cons_succ, List.getElem?_cons_zero]; rfl
    case sw792_5 => rfl
    case yw792_5 => (intro w hSw; (try dsimp only at hSw); go_simp <;> with_reducible rfl)
    try simp only [Act.put, List.setIfInBounds_toArray, List.set_cons_zero, List.set_cons_succ]
    refine hR.take (i := 6) (oi := ?ow793_6) (v := ?vw793_6) (m' := 127) ?hw793_6 (by kernel_rfl) (by kernel_rfl) (fun _ _ _ h => h) (Or.inl ⟨?sw793_6, ?yw793_6⟩) (by assumption) ?nw793_6
    case hw793_6 => simp only [List.getElem?_toArray, List.getElem?_cons_succ, List.getElem?_cons_zero]; rfl
    case sw793_6 => rfl
    case yw793_6 => (intro w hSw; (try dsimp only at hSw); go_simp <;> with_reducible rfl)
    try simp only [Act.put, List.setIfInBounds_toArray, List.set_cons_zero, List.set_cons_succ]
    refine hR.take (i := 8) (oi := ?ow794_8) (v := ?vw794_8) (m' := 383) ?hw794_8 (by kernel_rfl) (by kernel_rfl) (fun _ _ _ h => h) (Or.inl ⟨?sw794_8, ?yw794_8⟩) (by assumption) ?nw794_8
    case hw794_8 => simp only [List.getElem?_toArray, List.getElem?_cons_succ, List.getElem?_cons_zero]; rfl
    case sw794_8 => rfl
    case yw794_8 => (intro w hSw; (try dsimp only at hSw); go_simp <;> with_reducible rfl)
    try simp only [Act.put, List.setIfInBounds_toArray, List.set_cons_zero, List.set_cons_succ]
    refine hR.come (rs := [7]) (by kernel_rfl) (by simp) ?_
    refine AllReadyH.cons (o := ?o795_7) ?h795_7 (fun K hK => ?kw795_7) AllReadyH.nil
    case h795_7 => simp only [List.getElem?_toArray, List.getElem?_cons_succ, List.getElem?_cons_zero]; rfl
    go_simp
    go_at_call 29; refine (peekP (k := k) (t := t) w1.drew P1.out hl HT.out).mono ?_; rintro e w2 ⟨rfl, hP2, hG2⟩; have hkP : Gk g w1 w2 := (Gk.refl _ _).drew.trans hG2; have HPP := Lib.hid hP2; clear hP2 hG2
    refine hK.out _ _ ?_ (fun hHeld => ?_)
    · (first | exact hS w1 (Gk.refl _ _) (.inr P1.out) | exact hS w1.drew (Gk.refl _ _).drew (.inr P1.out) | exact hS _ hkP (.inl HPP.out) | (first | with_reducible assumption | (with_reducible refine Below.drew ?_; with_reducible assumption) | (with_reducible refine ba _ _ ?_; with_reducible assumption) | (with_reducible refine Below.drew ?_; with_reducible refine ba _ _ ?_; with_reducible assumption) | exact Below.refl _ _ | exact (Below.refl _ _).drew | exact (Below.refl _ _).alloc (Nat.le_refl _) _ | (refine bc _ _ (by assumption) (by assumption))))
    clear hK K
    refine RegOk.put_ (m' := 511) (by kernel_rfl) ?_
    try simp only [Act.put, List.setIfInBounds_toArray, List.set_cons_zero, List.set_cons_succ]
    refine hR.take (i := 9) (oi := ?ow796_9) (v := ?vw796_9) (m' := 1023) ?hw796_9 (by kernel_rfl) (by kernel_rfl) (fun _ _ _ h => h) (Or.inl ⟨?sw796_9, ?yw796_9⟩) (by assumption) ?nw796_9
    case hw796_9 => simp only [List.getElem?_toArray, List.getElem?_cons_succ, List.getElem?_cons_zero]; rfl
    case sw796_9 => rfl
    case yw796_9 => (intro w hSw; (try dsimp only at hSw); go_simp <;> with_reducible rfl)
    try simp only [Act.put, List.setIfInBounds_toArray, List.set_cons_zero, List.set_cons_succ]
    refine hR.take (i := 10) (oi := ?ow797_10) (v := ?vw797_10) (m' := 2047) ?hw797_10 (by kernel_rfl) (by kernel_rfl) (fun _ _ _ h => h) (Or.inl ⟨?sw797_10, ?yw797_10⟩) (by assumption) ?nw797_10
    case hw797_10 => simp only [List.getElem?_toArray, List.getElem?_cons_succ, List.getElem?_cons_zero]; rfl
    case sw797_10 => rfl
    case yw797_10 => (intro w hSw; (try dsimp only at hSw); go_simp <;> with_reducible rfl)
    try simp only [Act.put, List.setIfInBounds_toArray, List.set_cons_zero, List.set_cons_succ]
    refine hR.all (by kernel_rfl) ?_ _
    refine NoPanic.normal ?_
    go_wp2_with fail
    go_meet
    case rel => exact ⟨rfl, HPP.out, hkP⟩
  obtain ⟨rfl, hP2, hG2⟩ := hcut
  obtain ⟨w2, hwv⟩ : ∃ x, x = wc := ⟨_, rfl⟩
  subst hwv
  obtain ⟨i, hi, hdr, hg⟩ := hP2.row
  have HDR := Lib.hid hdr
  have HG2 := Lib.hid hG2
  have HP2 := Lib.hid hP2
  obtain ⟨p0, p1, p2, p3⟩ := row4 hg
  have fp := frzP hg
  have gt2 := Lib.hid (hG2.row gt.out (by omega))
  obtain ⟨t0, t1⟩ := two2P gt2
  have lg2 := heap_lt hg.out
  have HGW := Lib.hid (show Gk g w w2 from ⟨⟨hG2.g.os.trans B1.out.os, hG2.g.tape.trans B1.out.tape, hG2.g.output.trans B1.out.output, Nat.le_trans B1.out.size hG2.g.size, fun b hb hn => (hG2.g.block b (Nat.lt_of_lt_of_le hb B1.out.size) hn).trans (B1.out.block b hb)⟩⟩)
  clear hP2 hG2 hdr hS
  (go_wp2_with fail; go_ret; exact ⟨rfl, HP2.out, HGW.out⟩)
set_option maxRecDepth 100000 in
set_option maxHeartbeats 4000000 in
theorem acceptK {bs l t u : List UInt8} {k k' : Int} {g : Nat} (w : World) (hp : PAt bs g l w) (hl : bs.length ≤ 1000) (ht : tokF (skipW l) = (k, t)) (hne : k ≠ k') :
    Calls Tryz.prog 67 #[.pointer (some ⟨g, 0, none⟩), .agg #[.int .i64 k', .string ⟨(u).toArray⟩]] w fun e w' => e = .returned (.bool false) ∧ PAt bs g (accF false u (skipW l)) w' ∧ Gk g w w' := by
  have HT := Lib.hid ht
  have HP := Lib.hid hp
  have lg := hp.lt
  clear ht hp
  go_enter Tryz.func67, Tryz.ntmps67
  go_upto_region 1 with fail
  refine wp_world (F := fun wx => Below w.heap.size w wx ∧ Hid (wx.heap[w.heap.size]? = some (.cells #[.int .i64 k', .string ⟨(u).toArray⟩] 80 (0, 0)))) ⟨(by repeat' (first | with_reducible exact Below.refl _ _ | with_reducible assumption | with_reducible refine Below.setCell ?_ ?_ _ | with_reducible refine Below.drew ?_ | with_reducible refine below_drewN ?_ _ | with_reducible refine Below.alloc ?_ ?_ _ | (rintro _ ⟨⟩; simp <;> omega) | omega | (simp <;> omega))), Lib.hid (heap_alloc_at rfl)⟩ ?_
  rintro w1 ⟨bb, gt⟩
  have B1 := Lib.hid bb
  have P1 := Lib.hid (HP.out.below bb)
  have l1 := P1.out.lt
  clear bb HP
  have hng : g ≠ w.heap.size := by omega
  have hlt := heap_lt gt.out
  have hS : ∀ X, Gk g w1 X → PAt bs g (skipW l) X ∨ PAt bs g l X → Gk g w1 X ∧ X.cell? ⟨g, 3, none⟩ = some (.int .i64 0) ∧ X.cell? ⟨w.heap.size, 0, none⟩ = some (.int .i64 k') ∧ X.cell? ⟨w.heap.size, 1, none⟩ = some (.string ⟨(u).toArray⟩) := fun X hX hP => by
    obtain ⟨c0, c1⟩ := two2P (Lib.hid (hX.row gt.out (by omega)))
    exact ⟨hX, hP.elim PAt.err PAt.err, c0, c1⟩
  go_cut [15] (fun v wx => v = .bool true ∧ PAt bs g (skipW l) wx ∧ Gk g w1 wx)
  case first =>
    refine wp_region_noPanic ?_
    refine wp_region_held_drew (S := fun X => Gk g w1 X ∧ X.cell? ⟨g, 3, none⟩ = some (.int .i64 0) ∧ X.cell? ⟨w.heap.size, 0, none⟩ = some (.int .i64 k') ∧ X.cell? ⟨w.heap.size, 1, none⟩ = some (.string ⟨(u).toArray⟩)) (by kernel_rfl) ?_ (fun hHeld => ?_)
    · (first | exact hS w1 (Gk.refl _ _) (.inr P1.out) | exact hS w1.drew (Gk.refl _ _).drew (.inr P1.out) | exact hS _ hkP (.inl HPP.out) | (first | with_reducible assumption | (with_reducible refine Below.drew ?_; with_reducible assumption) | (with_reducible refine ba _ _ ?_; with_reducible assumption) | (with_reducible refine Below.drew ?_; with_reducible refine ba _ _ ?_; with_reducible assumption) | exact Below.refl _ _ | exact (Below.refl _ _).drew | exact (Below.refl _ _).alloc (Nat.le_refl _) _ | (refine bc _ _ (by assumption) (by assumption))))
    refine RegOk.begin_ (n := 11) (T := pa3A) ⟨by kernel_rfl, by kernel_rfl, by kernel_rfl, by kernel_rfl⟩ fun hR => ?_
    refine hR.take (i := 0) (oi := ?ow798_0) (v := ?vw798_0) (m' := 1) ?hw798_0 (by kernel_rfl) (by kernel_rfl) (fun _ _ _ h => h) (Or.inl ⟨?sw798_0, ?yw798_0⟩) (by assumption) ?nw798_0
    case hw798_0 => simp only [List.getElem?_toArray, List.getElem?_cons_succ, List.getElem?_cons_zero]; rfl
    case sw798_0 => rfl
    case yw798_0 => (intro w hSw; (try dsimp only at hSw); go_simp <;> with_reducible rfl)
    try simp only [Act.put, List.setIfInBounds_toArray, List.set_cons_zero, List.set_cons_succ]
    refine hR.take (i := 1) (oi := ?ow799_1) (v := ?vw799_1) (m' := 3) ?hw799_1 (by kernel_rfl) (by kernel_rfl) (fun _ _ _ h => h) (Or.inl ⟨?sw799_1, ?yw799_1⟩) (by assumption) ?nw799_1
    case hw799_1 => simp only [List.getElem?_toArray, List.getElem?_cons_succ, List.getElem?_cons_zero]; rfl
    case sw799_1 => rfl
    case yw799_1 => (intro w hSw; (try dsimp only at hSw); go_simp <;> with_reducible rfl)
    try simp only [Act.put, List.setIfInBounds_toArray, List.set_cons_zero, List.set_cons_succ]
    refine hR.take (i := 2) (oi := ?ow800_2) (v := ?vw800_2) (m' := 7) ?hw800_2 (by kernel_rfl) (by kernel_rfl) (fun _ _ _ h => h) (Or.inl ⟨?sw800_2, ?yw800_2⟩) (by assumption) ?nw800_2
    case hw800_2 => simp only [List.getElem?_toArray, List.getElem?_cons_succ, List.getElem?_cons_zero]; rfl
    case sw800_2 => rfl
    case yw800_2 => (intro w hSw; (try dsimp only at hSw); go_simp <;> with_reducible rfl)
    try simp only [Act.put, List.setIfInBounds_toArray, List.set_cons_zero, List.set_cons_succ]
    refine hR.take (i := 3) (oi := ?ow801_3) (v := ?vw801_3) (m' := 15) ?hw801_3 (by kernel_rfl) (by kernel_rfl) (fun _ _ _ h => h) (Or.inl ⟨?sw801_3, ?yw801_3⟩) (by assumption) ?nw801_3
    case hw801_3 => simp only [List.getElem?_toArray, List.getElem?_cons_succ, List.getElem?_cons_zero]; rfl
    case sw801_3 => rfl
    case yw801_3 => (intro w hSw; (try dsimp only at hSw); go_simp <;> with_reducible rfl)
    try simp only [Act.put, List.setIfInBounds_toArray, List.set_cons_zero, List.set_cons_succ]
    refine hR.take (i := 4) (oi := ?ow802_4) (v := ?vw802_4) (m' := 31) ?hw802_4 (by kernel_rfl) (by kernel_rfl) (fun _ _ _ h => h) (Or.inl ⟨?sw802_4, ?yw802_4⟩) (by assumption) ?nw802_4
    case hw802_4 => simp only [List.getElem?_toArray, List.getElem?_cons_succ, List.getElem?_cons_zero]; rfl
    case sw802_4 => rfl
    case yw802_4 => (intro w hSw; (try dsimp only at hSw); go_simp <;> with_reducible rfl)
    try simp only [Act.put, List.setIfInBounds_toArray, List.set_cons_zero, List.set_cons_succ]
    refine hR.take (i := 5) (oi := ?ow803_5) (v := ?vw803_5) (m' := 63) ?hw803_5 (by kernel_rfl) (by kernel_rfl) (fun _ _ _ h => h) (Or.inl ⟨?sw803_5, ?yw803_5⟩) (by assumption) ?nw803_5
    case hw803_5 => simp only [List.getElem?_toArray, List.getElem?_cons_succ, List.getElem?_cons_zero]; rfl
    case sw803_5 => rfl
    case yw803_5 => (intro w hSw; (try dsimp only at hSw); go_simp <;> with_reducible rfl)
    try simp only [Act.put, List.setIfInBounds_toArray, List.set_cons_zero, List.set_cons_succ]
    refine hR.take (i := 6) (oi := ?ow804_6) (v := ?vw804_6) (m' := 127) ?hw804_6 (by kernel_rfl) (by kernel_rfl) (fun _ _ _ h => h) (Or.inl ⟨?sw804_6, ?yw804_6⟩) (by assumption) ?nw804_6
    case hw804_6 => simp only [List.getElem?_toArray, List.getElem?_cons_succ, List.getElem?_cons_zero]; rfl
    case sw804_6 => rfl
    case yw804_6 => (intro w hSw; (try dsimp only at hSw); go_simp <;> with_reducible rfl)
    try simp only [Act.put, List.setIfInBounds_toArray, List.set_cons_zero, List.set_cons_succ]
    refine hR.take (i := 8) (oi := ?ow805_8) (v := ?vw805_8) (m' := 383) ?hw805_8 (by kernel_rfl) (by kernel_rfl) (fun _ _ _ h => h) (Or.inl ⟨?sw805_8, ?yw805_8⟩) (by assumption) ?nw805_8
    case hw805_8 => simp only [List.getElem?_toArray, List.getElem?_cons_succ, List.getElem?_cons_zero]; rfl
    case sw805_8 => rfl
    case yw805_8 => (intro w hSw; (try dsimp only at hSw); go_simp <;> with_reducible rfl)
    try simp only [Act.put, List.setIfInBounds_toArray, List.set_cons_zero, List.set_cons_succ]
    refine hR.come (rs := [7]) (by kernel_rfl) (by simp) ?_
    refine AllReadyH.cons (o := ?o806_7) ?h806_7 (fun K hK => ?kw806_7) AllReadyH.nil
    case h806_7 => simp only [List.getElem?_toArray, List.getElem?_cons_succ, List.getElem?_cons_zero]; rfl
    go_simp
    go_at_call 29; refine (peekP (k := k) (t := t) w1.drew P1.out hl HT.out).mono ?_; rintro e w2 ⟨rfl, hP2, hG2⟩; have hkP : Gk g w1 w2 := (Gk.refl _ _).drew.trans hG2; have HPP := Lib.hid hP2; clear hP2 hG2
    refine hK.out _ _ ?_ (fun hHeld => ?_)
    · (first | exact hS w1 (Gk.refl _ _) (.inr P1.out) | exact hS w1.drew (Gk.refl _ _).drew (.inr P1.out) | exact hS _ hkP (.inl HPP.out) | (first | with_reducible assumption | (with_reducible refine Below.drew ?_; with_reducible assumption) | (with_reducible refine ba _ _ ?_; with_reducible assumption) | (with_reducible refine Below.drew ?_; with_reducible refine ba _ _ ?_; with_reducible assumption) | exact Below.refl _ _ | exact (Below.refl _ _).drew | exact (Below.refl _ _).alloc (Nat.le_refl _) _ | (refine bc _ _ (by assumption) (by assumption))))
    clear hK K
    refine RegOk.put_ (m' := 511) (by kernel_rfl) ?_
    try simp only [Act.put, List.setIfInBounds_toArray, List.set_cons_zero, List.set_cons_succ]
    refine hR.take (i := 9) (oi := ?ow807_9) (v := ?vw807_9) (m' := 1023) ?hw807_9 (by kernel_rfl) (by kernel_rfl) (fun _ _ _ h => h) (Or.inl ⟨?sw807_9, ?yw807_9⟩) (by assumption) ?nw807_9
    case hw807_9 => simp only [List.getElem?_toArray, List.getElem?_cons_succ, List.getElem?_cons_zero]; rfl
    case sw807_9 => rfl
    case yw807_9 => (intro w hSw; (try dsimp only at hSw); go_simp <;> with_reducible rfl)
    try simp only [Act.put, List.setIfInBounds_toArray, List.set_cons_zero, List.set_cons_succ]
    refine hR.take (i := 10) (oi := ?ow808_10) (v := ?vw808_10) (m' := 2047) ?hw808_10 (by kernel_rfl) (by kernel_rfl) (fun _ _ _ h => h) (Or.inl ⟨?sw808_10, ?yw808_10⟩) (by assumption) ?nw808_10
    case hw808_10 => simp only [List.getElem?_toArray, List.getElem?_cons_succ, List.getElem?_cons_zero]; rfl
    case sw808_10 => rfl
    case yw808_10 => (intro w hSw; (try dsimp only at hSw); go_simp <;> with_reducible rfl)
    try simp only [Act.put, List.setIfInBounds_toArray, List.set_cons_zero, List.set_cons_succ]
    refine hR.all (by kernel_rfl) ?_ _
    refine NoPanic.normal ?_
    go_wp2_with fail
    go_meet
    case rel => exact ⟨rfl, HPP.out, hkP⟩
  obtain ⟨rfl, hP2, hG2⟩ := hcut
  obtain ⟨w2, hwv⟩ : ∃ x, x = wc := ⟨_, rfl⟩
  subst hwv
  obtain ⟨i, hi, hdr, hg⟩ := hP2.row
  have HDR := Lib.hid hdr
  have HG2 := Lib.hid hG2
  have HP2 := Lib.hid hP2
  obtain ⟨p0, p1, p2, p3⟩ := row4 hg
  have fp := frzP hg
  have gt2 := Lib.hid (hG2.row gt.out (by omega))
  obtain ⟨t0, t1⟩ := two2P gt2
  have lg2 := heap_lt hg.out
  have HGW := Lib.hid (show Gk g w w2 from ⟨⟨hG2.g.os.trans B1.out.os, hG2.g.tape.trans B1.out.tape, hG2.g.output.trans B1.out.output, Nat.le_trans B1.out.size hG2.g.size, fun b hb hn => (hG2.g.block b (Nat.lt_of_lt_of_le hb B1.out.size) hn).trans (B1.out.block b hb)⟩⟩)
  clear hP2 hG2 hdr hS
  (go_wp2_with fail; go_ret; exact ⟨rfl, HP2.out, HGW.out⟩)
end Go.Proofs.YtagadbdbbglddaaGreatDoor
namespace Go.Proofs.YtagadbdbbglddaaGreatDoor
open Go.RowKit

theorem atoiN {t : List UInt8} {n : Int} (hl : t.length ≤ 18) (h : Go.Lib.atoi t = some n) (w : World) : Calls Tryz.prog 96 #[.string ⟨t.toArray⟩] w fun e w' => e = .returned (.tuple #[.int .i64 n, .nilIface]) ∧ Below w.heap.size w w' :=
  (Tryz.strconv_Atoi ⟨t.toArray⟩ n (by simpa [ByteArray.size] using hl) (by simpa using h) w).mono fun e w' ⟨h1, s, h2⟩ => ⟨h1, by rw [h2]; exact Go.Lib.bytesWorld_below _ _ _⟩
set_option maxRecDepth 100000 in
set_option maxHeartbeats 4000000 in
theorem expectP {bs l t : List UInt8} {k : Int} {g : Nat} (w : World) (hp : PAt bs g l w) (hl : bs.length ≤ 1000) (ht : tokF (skipW l) = (k, t)) :
    Calls Tryz.prog 71 #[.pointer (some ⟨g, 0, none⟩), .agg #[.int .i64 k, .string ⟨t.toArray⟩]] w fun e w' => e = .returned (.tuple #[]) ∧ PAt bs g ((skipW l).drop t.length) w' ∧ Gk g w w' := by
  have HT := Lib.hid ht
  have HP := Lib.hid hp
  have lg := hp.lt
  clear ht hp
  go_enter Tryz.func71, Tryz.ntmps71
  go_upto_region 1 with fail
  refine wp_world (F := fun wx => Below w.heap.size w wx ∧ Hid (wx.heap[w.heap.size]? = some (.cells #[.int .i64 k, .string ⟨t.toArray⟩] 80 (0, 0)))) ⟨(by repeat' (first | with_reducible exact Below.refl _ _ | with_reducible assumption | with_reducible refine Below.setCell ?_ ?_ _ | with_reducible refine Below.drew ?_ | with_reducible refine below_drewN ?_ _ | with_reducible refine Below.alloc ?_ ?_ _ | (rintro _ ⟨⟩; simp <;> omega) | omega | (simp <;> omega))), Lib.hid (heap_alloc_at rfl)⟩ ?_
  rintro w1 ⟨bb, gt⟩
  have B1 := Lib.hid bb
  have P1 := Lib.hid (HP.out.below bb)
  obtain ⟨t0, t1⟩ := two2P gt
  clear bb HP
  go_wp2_with (go_at_call 67; refine (acceptY (u := []) (k' := 0) (k := k) (t := t) _ P1.out hl HT.out trivial).mono ?_; rintro e w2 ⟨rfl, hP2, hG2⟩; have HP2 := Lib.hid hP2; have HG2 := Lib.hid hG2; clear hP2 hG2)
  exact bodyPost_end (v := .tuple #[]) (by simp [results, Tryz.results71, go_sem, *]) rfl ⟨rfl, HP2.out, (Gk.ofBelow B1.out).trans HG2.out⟩
set_option maxRecDepth 100000 in
set_option maxHeartbeats 4000000 in
theorem numberP {bs l t : List UInt8} {n lo hi : Int} {g : Nat} (w : World) (hp : PAt bs g l w) (hl : bs.length ≤ 1000) (ht : tokF (skipW l) = (2, t)) (h18 : t.length ≤ 18) (hn : Go.Lib.atoi t = some n) (hr : lo ≤ n ∧ n ≤ hi) (hmx : n ≤ 1073741824) :
    Calls Tryz.prog 69 #[.pointer (some ⟨g, 0, none⟩), .int .i64 lo, .int .i64 hi] w fun e w' => e = .returned (.int .i64 n) ∧ PAt bs g ((skipW l).drop t.length) w' ∧ Gk g w w' := by
  have HT := Lib.hid ht
  have HN := Lib.hid hn
  have HP := Lib.hid hp
  have lg := hp.lt
  clear ht hp hn
  go_enter Tryz.func69, Tryz.ntmps69
  go_upto_region 1 with fail
  go_cut [7] (fun p wx => ∃ gt, p = .pointer (some ⟨gt, 0, none⟩) ∧ gt ≠ g ∧ w.heap.size ≤ gt ∧ Hid (wx.heap[gt]? = some (.cells #[.int .i64 2, .string ⟨t.toArray⟩] 80 (0, 0))) ∧ PAt bs g (skipW l) wx ∧ Gk g w wx)
  case first =>
    go_wp2_with (go_at_call 29; refine (peekP (k := 2) (t := t) _ HP.out hl HT.out).mono ?_; rintro e w2 ⟨rfl, hP2, hG2⟩; have HP2 := Lib.hid hP2; have HG2 := Lib.hid hG2; have hz2 := hG2.g.size; clear hP2 hG2)
    go_meet
    case rel =>
      have h1 := HP2.out.lt
      exact ⟨_, rfl, by omega, hz2, Lib.hid (heap_alloc_at rfl), HP2.out.below ((Below.refl _ _).alloc (Nat.le_refl _) _), HG2.out.alloc _⟩
  obtain ⟨gt, rfl, hgt, hgw, gT, hP2, hG2⟩ := hcut
  obtain ⟨w2, hwv⟩ : ∃ x, x = wc := ⟨_, rfl⟩
  subst hwv
  obtain ⟨t0, t1⟩ := two2P gT
  have HP2 := Lib.hid hP2
  have HG2 := Lib.hid hG2
  clear hP2 hG2
  have g1 : ¬ n < lo := by omega
  have g2 : ¬ hi < n := by omega
  have g3 : ¬ (1073741824 : Int) < n := by omega
  go_upto_region 10 with (go_at_call 96; refine (atoiN (t := t) h18 HN.out _).mono ?_; rintro e w3 ⟨rfl, hb3⟩; have HB3 := Lib.hid hb3; clear hb3)
  have HP3 := Lib.hid (HP2.out.below HB3.out)
  have HG3 := Lib.hid (HG2.out.call HB3.out)
  have gT3 := mvP gT HB3.out
  obtain ⟨i, hi, hdr, hg⟩ := HP3.out.row
  have HDR := Lib.hid hdr
  clear HP2 HG2 gT t0 t1 hdr g1 g2 g3
  obtain ⟨p0, p1, p2, p3⟩ := row4 hg
  have fp := frzP hg
  obtain ⟨t0, t1⟩ := two2P gT3
  have lg2 := heap_lt hg.out
  have hng : g ≠ gt := fun e => hgt e.symm
  have htl := tok_le HT.out
  rw [← HDR.out, List.length_drop] at htl
  have hw : IntKind.i64.wrap ((i : Int) + (t.length : Int)) = ((i + t.length : Nat) : Int) := IntWalk.i64_in _ (by omega)
  have hfin := Lib.hid (show PAt bs g ((skipW l).drop t.length) (w3.setCell ⟨g, 1, none⟩ (.int .i64 ((i : Int) + (t.length : Int)))) ∧ Gk g w (w3.setCell ⟨g, 1, none⟩ (.int .i64 ((i : Int) + (t.length : Int)))) from ⟨⟨i + t.length, by omega, by rw [← HDR.out, List.drop_drop], heap_set (i := 1) hg.out⟩, HG3.out.set 1 _⟩)
  clear htl
  go_upto_region 11 with fail
  go_region_law (fail)
  all_goals
    go_wp2_with fail
    go_ret
    exact ⟨rfl, hfin.out.1, hfin.out.2.drew⟩
end Go.Proofs.YtagadbdbbglddaaGreatDoor
namespace Go.Proofs.YtagadbdbbglddaaGreatDoor
open Go.RowKit

def nmF (c : Nat) : List UInt8 := [[119, 104, 111], [119, 104, 101, 110], [107, 105, 110, 100], [118, 97, 108, 117, 101]].getD c []
theorem skipW_idem (l : List UInt8) : skipW (skipW l) = skipW l := by
  unfold skipW
  induction l with
  | nil => rfl
  | cons c l ih =>
    cases h : isWs c with
    | true => rw [List.dropWhile_cons_of_pos h]; exact ih
    | false => rw [List.dropWhile_cons_of_neg (by rw [h]; simp), List.dropWhile_cons_of_neg (by rw [h]; simp)]
theorem nm_ne {c i : Nat} (hc : c < 4) (hi : i < 4) (h : i ≠ c) : nmF c ≠ nmF i := by
  rcases (by omega : c = 0 ∨ c = 1 ∨ c = 2 ∨ c = 3) with rfl | rfl | rfl | rfl <;> rcases (by omega : i = 0 ∨ i = 1 ∨ i = 2 ∨ i = 3) with rfl | rfl | rfl | rfl <;> first | exact absurd rfl h | decide
theorem nm_cell {w : World} {b i : Nat} (h : w.heap[b]? = some (.cells #[.string ⟨#[119, 104, 111]⟩, .string ⟨#[119, 104, 101, 110]⟩, .string ⟨#[107, 105, 110, 100]⟩, .string ⟨#[118, 97, 108, 117, 101]⟩] 9 (0, 0))) (hi : i < 4) : w.cell? ⟨b, i, none⟩ = some (.string ⟨(nmF i).toArray⟩) := by
  rcases (by omega : i = 0 ∨ i = 1 ∨ i = 2 ∨ i = 3) with rfl | rfl | rfl | rfl
  · exact cell_of_row _ _ 0 _ _ _ h
  · exact cell_of_row _ _ 1 _ _ _ h
  · exact cell_of_row _ _ 2 _ _ _ h
  · exact cell_of_row _ _ 3 _ _ _ h
theorem columnsC (w : World) : Calls Tryz.prog 32 #[] w fun e w' => e = .returned (.slice (some ⟨w.heap.size, 0, none⟩) 4 4) ∧ w'.heap[w.heap.size]? = some (.cells #[.string ⟨#[119, 104, 111]⟩, .string ⟨#[119, 104, 101, 110]⟩, .string ⟨#[107, 105, 110, 100]⟩, .string ⟨#[118, 97, 108, 117, 101]⟩] 9 (0, 0)) ∧ Below w.heap.size w w' := by
  go_enter Tryz.func32, Tryz.ntmps32
  go_wp2_with fail
  go_ret
  exact ⟨rfl, heap_alloc_at rfl, (by repeat' (first | with_reducible exact Below.refl _ _ | with_reducible assumption | with_reducible refine Below.setCell ?_ ?_ _ | with_reducible refine Below.drew ?_ | with_reducible refine below_drewN ?_ _ | with_reducible refine Below.alloc ?_ ?_ _ | (rintro _ ⟨⟩; simp <;> omega) | omega | (simp <;> omega)))⟩
set_option maxRecDepth 100000 in
set_option maxHeartbeats 4000000 in
theorem columnP {bs l : List UInt8} {c : Nat} {g : Nat} (w : World) (hp : PAt bs g l w) (hl : bs.length ≤ 1000) (ht : tokF (skipW l) = (1, nmF c)) (hc : c < 4) :
    Calls Tryz.prog 68 #[.pointer (some ⟨g, 0, none⟩)] w fun e w' => e = .returned (.int .i64 (c : Int)) ∧ PAt bs g ((skipW l).drop (nmF c).length) w' ∧ Gk g w w' := by
  have HT := Lib.hid ht
  have HP := Lib.hid hp
  have lg := hp.lt
  clear ht hp
  go_enter Tryz.func68, Tryz.ntmps68
  go_wp2_with (go_at_call 32; refine (columnsC _).mono ?_; rintro e w1 ⟨rfl, hr, hb1⟩; have HR := Lib.hid hr; have HB1 := Lib.hid hb1; have hz1 := hb1.size; clear hr hb1)
  go_loopw [7] (fun i wr => ∃ (j : Nat) (l' : List UInt8), j ≤ c ∧ i = .int .i64 (j : Nat) ∧ Hid (skipW l' = skipW l) ∧ Hid (PAt bs g l' wr) ∧ Hid (Gk g w1 wr)) (fun i _ => 4 - (intOf i).toNat)
  case atStart => exact ⟨0, l, Nat.zero_le _, rfl, Lib.hid rfl, Lib.hid (HP.out.below HB1.out), Lib.hid (Gk.refl _ _)⟩
  case round =>
    obtain ⟨j, l', hj, rfl, HE, HPr, HG⟩ := hrel
    have hj0 : (0 : Int) ≤ (j : Int) := by omega
    have hj4 : (j : Int) < 4 := by omega
    have hr2 := Lib.hid (HG.out.row HR.out (by omega))
    have hcell := nm_cell hr2.out (show j < 4 by omega)
    have lb := heap_lt hr2.out
    have HT' := Lib.hid (show tokF (skipW l') = (1, nmF c) by rw [HE.out]; exact HT.out)
    by_cases hjc : j = c
    · subst hjc
      go_wp2_with (go_at_call 67; refine (acceptY (u := []) (k' := 0) (k := 1) (t := nmF j) _ HPr.out hl HT'.out trivial).mono ?_; rintro e w2 ⟨rfl, hP2, hG2⟩; have HP2 := Lib.hid hP2; have HG2 := Lib.hid hG2; clear hP2 hG2)
      go_ret
      exact ⟨rfl, by have := HP2.out; rw [HE.out] at this; exact this, ((Gk.ofBelow HB1.out).trans HG.out).trans HG2.out⟩
    · have hne := nm_ne hc (show j < 4 by omega) hjc
      go_wp2_with (go_at_call 67; refine (acceptT (k' := 0) (k := 1) (t := nmF c) (u := nmF j) _ HPr.out hl HT'.out hne).mono ?_; rintro e w2 ⟨rfl, hP2, hG2⟩; have HP2 := Lib.hid hP2; have HG2 := Lib.hid hG2; clear hP2 hG2)
      go_roundw
      case rel => exact ⟨j + 1, skipW l', by omega, by go_num, Lib.hid (by rw [skipW_idem, HE.out]), Lib.hid HP2.out, Lib.hid (HG.out.trans HG2.out)⟩
      case measure => simp [intOf]; omega
end Go.Proofs.YtagadbdbbglddaaGreatDoor
