/-
  Texts of this claim, merged: Ev6. Conditions: as each theorem says.
-/
import Derived.Lib.Mul64
import Derived.Laws.Bits64b
import Derived.Shelf.Bits.Mul64
import Derived.Test.YtmkpaolbejlodaaDoorB1
import Derived.Test.YtmkpaolbejlodaaDoorB2
import Derived.Test.YtmkpaolbejlodaaDoorB3
import Derived.Test.YtmkpaolbejlodaaDoorB4
import Derived.Test.YtmkpaolbejlodaaDoorB5
import Derived.Test.YtmkpaolbejlodaaDoorB6
import Derived.Test.YtmkpaolbejlodaaDoorB7
import Derived.Test.YtmkpaolbejlodaaDoorB8
import Derived.Test.YtmkpaolbejlodaaDoorB9
import Derived.Test.YtmkpaolbejlodaaDoorB10
import Derived.Test.YtmkpaolbejlodaaDoorB11
import Derived.Test.YtmkpaolbejlodaaDoorB12
set_option linter.unusedSimpArgs false
set_option linter.unusedVariables false
namespace Go.Proofs.YtmkpaolbejlodaaDoor
open Go.RowKit

theorem unit_pow {q : Qy} (hk : 1 ≤ q.kind ∧ q.kind ≤ 3) (r : Rd) : unitF q 0 r = fldI r q.col ^ expF q := by
  unfold unitF expF
  rcases (by omega : q.kind = 1 ∨ q.kind = 2 ∨ q.kind = 3) with e | e | e <;> simp [e, Int.pow_succ]
theorem exp_le {q : Qy} (hq : ValidQ q) : expF q ≤ 6 := by
  have h6 := k6_of hq
  unfold expF
  split
  · omega
  · split <;> omega
def IntsNew (w : World) (xs : List Int) (e : Ending) (w' : World) : Prop :=
  ∃ A c, e = .returned (.slice A xs.length c) ∧ Sl .i64 (fun b => w.heap.size ≤ b) w' A c xs ∧ Below w.heap.size w w'
theorem IntsRes.new {w w' : World} {xs : List Int} {e : Ending} (h : IntsRes w xs e w') : IntsNew w xs e w' := by
  obtain ⟨A, c, h1, h2, h3⟩ := h
  exact ⟨A, c, h1, h2.flatSl i64_flat (fun b hb => hb), h3⟩
def ev6A : List FRow := [(0, ([], (28, [5]))), (1, ([], (29, [2]))), (2, ([1], (30, [28]))), (3, ([2], (31, [29]))), (4, ([3], (32, [30]))), (5, ([], (33, [2]))), (6, ([5], (34, [32]))), (7, ([0, 4, 6], (35, [27, 31, 33]))), (8, ([7, 7, 0, 1, 2, 3, 4, 5, 6, 7], (5, [34])))]
def ev6B : List FRow := [(0, ([], (59, [2]))), (1, ([0], (60, [58]))), (2, ([1], (61, [59]))), (3, ([2], (62, [60]))), (4, ([], (63, [5]))), (5, ([], (64, [8]))), (6, ([4, 5], (65, [62, 63]))), (7, ([6], (66, [64]))), (8, ([3, 7], (67, [61, 65]))), (9, ([8], (68, [66])))]
def ev6C : List FRow := [(0, ([], (82, [9]))), (1, ([], (83, [5]))), (2, ([], (84, [8]))), (3, ([1, 2], (85, [82, 83]))), (4, ([3], (86, [84]))), (5, ([], (87, [2]))), (6, ([5], (88, [86]))), (7, ([4, 6], (89, [85, 87]))), (8, ([0, 7], (90, [81, 88]))), (9, ([8, 7, 0, 1, 2, 3, 4, 5, 6, 7, 8], (10, [89])))]
set_option maxRecDepth 100000 in
set_option maxHeartbeats 4000000 in
theorem sumsR {q : Qy} {s : Str} {A L G : Option Addr} {cc cl cg : Nat} {S T U : Nat → Prop} (w : World) (hq : ValidQ q) (hw : wideB q = false) (ok : OkStr s) (hl : s.l.length ≤ 1000)
    (h : Sl cdE.slice S w A cc q.fs) (hL : Sl rdE T w L cl s.l) (hG : Sl .bool U w G cg s.g) :
    Calls Tryd.prog 14 #[(.agg #[.int .i64 q.kind, .int .i64 q.col, .int .i64 q.k, .slice A q.fs.length cc]), .agg #[.slice L s.l.length cl, .slice G s.g.length cg]] w (IntsNew w (sumsF q (liveF s))) := by
  have HQ := Lib.hid hq
  have HW := Lib.hid hw
  have OK := Lib.hid ok
  have H := Lib.hid h
  have HL := Lib.hid (hL.sub (T := fun _ => True) (fun _ _ _ => trivial))
  have HG := Lib.hid (hG.sub (T := fun _ => True) (fun _ _ _ => trivial))
  have hfm := h.max
  obtain ⟨l, hll⟩ : ∃ l, liveF s = l := ⟨_, rfl⟩
  have hlv : ∀ r ∈ l, ValidR r := fun r hr => by
    rw [← hll] at hr
    unfold liveF at hr
    obtain ⟨p, hp, rfl⟩ := List.mem_map.1 hr
    exact ok.valid _ (List.of_mem_zip (List.mem_filter.1 hp).1).1
  have hll2 : l.length ≤ 1000 := by
    rw [← hll]
    unfold liveF
    rw [List.length_map]
    have h1 := List.length_filter_le (fun p : Rd × Bool => !p.2) (s.l.zip s.g)
    rw [List.length_zip] at h1
    omega
  rw [hll]
  have HLL := Lib.hid hll
  have HLV := Lib.hid hlv
  have hfl := hq.head.2.2.2.2.2.2
  have HFL := Lib.hid hfl
  have hk17 := hq.head.1
  have hfs0 := fs_pos hq
  clear h hL hG hq hw ok hll hlv hfl
  go_enter Tryd.func14, Tryd.ntmps14
  go_upto_region 1 with fail
  refine wp_world (F := fun wx => Below w.heap.size w wx ∧ Hid (wx.heap[w.heap.size]? = some (.cells #[.int .i64 q.kind, .int .i64 q.col, .int .i64 q.k, .slice A q.fs.length cc] 24 (0, 0))) ∧ Hid (wx.heap[w.heap.size + 1]? = some (.cells #[.slice L s.l.length cl, .slice G s.g.length cg] 31 (0, 0)))) ⟨(by repeat' (first | with_reducible exact Below.refl _ _ | with_reducible assumption | with_reducible refine Below.setCell ?_ ?_ _ | with_reducible refine Below.drew ?_ | with_reducible refine below_drewN ?_ _ | with_reducible refine Below.alloc ?_ ?_ _ | (rintro _ ⟨⟩; simp <;> omega) | omega | (simp <;> omega))), Lib.hid ((Below.heap_alloc _ _ _ (by simp)).trans (heap_alloc_at rfl)), Lib.hid (heap_alloc_at (by simp))⟩ ?_
  rintro w1 ⟨bb, gq, gs⟩
  have s0 := cell_of_row _ _ 0 _ _ _ gs.out
  have s1 := cell_of_row _ _ 1 _ _ _ gs.out
  simp only [List.getElem?_toArray, List.getElem?_cons_zero, List.getElem?_cons_succ] at s0 s1
  have B1 := Lib.hid bb
  clear bb
  go_upto_region 2 with (go_at_call 25; refine (liveR (s := s) _ (HL.out.keep (Below.agree B1.out)) (HG.out.keep (Below.agree B1.out)) OK.out.len hl).mono ?_; rw [HLL.out]; rintro e w2 ⟨A2, c2, rfl, hs2, hb2⟩; have HS2 := Lib.hid hs2; have HB2 := Lib.hid hb2; clear hs2 hb2)
  have gq2 := mvQ gq HB2.out
  have B2 := Lib.hid (B1.out.trans (HB2.out.mono B1.out.size))
  have F2 := Lib.hid (H.out.keep (Below.agree B2.out))
  have hl3 := HS2.out.max
  have hx0 : q.fs[0]? = some (fl q 0) := by unfold fl; rw [List.getD_eq_getElem?_getD, List.getElem?_eq_getElem hfs0]; rfl
  obtain ⟨b1, o1, B0, d0, rfl, -, l1, c1, hf0⟩ := flt_at F2.out hx0
  simp only [Nat.add_zero] at c1
  have HF0 := Lib.hid hf0
  have HX0 := Lib.hid (HQ.out.flt _ (List.mem_of_getElem? hx0))
  have hi0 : (0 : Int) < (q.fs.length : Int) := by omega
  obtain ⟨q0, q1, q2, q3⟩ := row4 gq2
  have lq := heap_lt gq2.out
  have zq : ∀ W, Below w2.heap.size w2 W → _ ∧ _ ∧ _ ∧ _ := fun W hW => row4 (mvQ gq2 hW)
  have zc : ∀ W, Below w2.heap.size w2 W → W.cell? ⟨b1, o1, none⟩ = some (.slice B0 (fl q 0).length d0) := fun W hW => (hW.cell (p := ⟨b1, o1, none⟩) l1).trans c1
  have br : Below w2.heap.size w2 w2 := Below.refl _ _
  have ba : ∀ W o, Below w2.heap.size w2 W → Below w2.heap.size w2 (W.alloc o) := fun W o h => h.alloc h.size o
  have bc : ∀ W W', Below w2.heap.size w2 W → Below W.heap.size W W' → Below w2.heap.size w2 W' := fun W W' h k => h.trans (k.mono h.size)
  clear s0 s1 gs hf0 hx0 gq
  by_cases k46 : 4 ≤ q.kind ∧ q.kind ≤ 6
  · have HSM := Lib.hid (sums_cnt4 HQ.out k46.1 k46.2 l)
    have HCC := Lib.hid (show q.col = 0 ∨ q.col = 2 by
      have hc := HQ.out.head.2.1
      have hb : ¬ 4 < bitsC q.col := fun h => by have h2 := HW.out; unfold wideB at h2; exact of_decide_eq_false h2 ⟨k46.1, k46.2, h⟩
      rcases (by omega : q.col = 0 ∨ q.col = 1 ∨ q.col = 2 ∨ q.col = 3) with e | e | e | e
      · exact .inl e
      · rw [e] at hb; exact absurd (by decide) hb
      · exact .inr e
      · rw [e] at hb; exact absurd (by decide) hb)
    have hkk := k46
    rcases (by omega : q.kind = 4 ∨ q.kind = 5 ∨ q.kind = 6) with k4 | k4 | k4
    · have e4 : (q.kind == 4) = true := by rw [k4]; rfl
      have e5 : (q.kind == 5) = (true && !true) := by rw [k4]; rfl
      have e6 : (q.kind == 6) = (true && !true) := by rw [k4]; rfl
      simp only [Bool.not_true, Bool.not_false, Bool.and_true, Bool.and_false, Bool.true_and, Bool.false_and] at e5 e6
      clear k4 k46 hkk
      go_upto_region 3 with fail
      refine wp_region_noPanic ?_
      refine wp_region_held_drew (S := fun X => Below w2.heap.size w2 X) (by kernel_rfl) ?_ (fun hHeld => ?_)
      · (first | with_reducible assumption | (with_reducible refine Below.drew ?_; with_reducible assumption) | (with_reducible refine ba _ _ ?_; with_reducible assumption) | (with_reducible refine Below.drew ?_; with_reducible refine ba _ _ ?_; with_reducible assumption) | exact Below.refl _ _ | exact (Below.refl _ _).drew | exact (Below.refl _ _).alloc (Nat.le_refl _) _ | (refine bc _ _ (by assumption) (by assumption)))
      refine RegOk.begin_ (n := 9) (T := ev6A) ⟨by kernel_rfl, by kernel_rfl, by kernel_rfl, by kernel_rfl⟩ fun hR => ?_
      refine hR.take (i := 0) (oi := ?ow575_0) (v := ?vw575_0) (m' := 1) ?hw575_0 (by kernel_rfl) (by kernel_rfl) (fun _ _ _ h => h) (Or.inl ⟨?sw575_0, ?yw575_0⟩) (by assumption) ?nw575_0
      case hw575_0 => simp only [List.getElem?_toArray, List.getElem?_cons_succ, List.getElem?_cons_zero]; rfl
      case sw575_0 => rfl
      case yw575_0 => (intro w hSw; (try dsimp only at hSw); go_simp <;> with_reducible rfl)
      try simp only [Act.put, List.setIfInBounds_toArray, List.set_cons_zero, List.set_cons_succ]
      refine hR.take (i := 1) (oi := ?ow576_1) (v := ?vw576_1) (m' := 3) ?hw576_1 (by kernel_rfl) (by kernel_rfl) (fun _ _ _ h => h) (Or.inl ⟨?sw576_1, ?yw576_1⟩) (by assumption) ?nw576_1
      case hw576_1 => simp only [List.getElem?_toArray, List.getElem?_cons_succ, List.getElem?_cons_zero]; rfl
      case sw576_1 => rfl
      case yw576_1 => (intro w hSw; (try dsimp only at hSw); go_simp <;> with_reducible rfl)
      try simp only [Act.put, List.setIfInBounds_toArray, List.set_cons_zero, List.set_cons_succ]
      refine hR.take (i := 2) (oi := ?ow577_2) (v := ?vw577_2) (m' := 7) ?hw577_2 (by kernel_rfl) (by kernel_rfl) (fun _ _ _ h => h) (Or.inl ⟨?sw577_2, ?yw577_2⟩) (by assumption) ?nw577_2
      case hw577_2 => simp only [List.getElem?_toArray, List.getElem?_cons_succ, List.getElem?_cons_zero]; rfl
      case sw577_2 => rfl
      case yw577_2 => (intro w hSw; (try dsimp only at hSw); go_simp <;> with_reducible rfl)
      try simp only [Act.put, List.setIfInBounds_toArray, List.set_cons_zero, List.set_cons_succ]
      refine hR.take (i := 3) (oi := ?ow578_3) (v := ?vw578_3) (m' := 15) ?hw578_3 (by kernel_rfl) (by kernel_rfl) (fun _ _ _ h => h) (Or.inl ⟨?sw578_3, ?yw578_3⟩) (by assumption) ?nw578_3
      case hw578_3 => simp only [List.getElem?_toArray, List.getElem?_cons_succ, List.getElem?_cons_zero]; rfl
      case sw578_3 => rfl
      case yw578_3 => (intro w hSw; (try dsimp only at hSw); go_simp <;> with_reducible rfl)
      try simp only [Act.put, List.setIfInBounds_toArray, List.set_cons_zero, List.set_cons_succ]
      refine hR.take (i := 4) (oi := ?ow579_4) (v := ?vw579_4) (m' := 31) ?hw579_4 (by kernel_rfl) (by kernel_rfl) (fun _ _ _ h => h) (Or.inl ⟨?sw579_4, ?yw579_4⟩) (by assumption) ?nw579_4
      case hw579_4 => simp only [List.getElem?_toArray, List.getElem?_cons_succ, List.getElem?_cons_zero]; rfl
      case sw579_4 => rfl
      case yw579_4 => (intro w hSw; (try dsimp only at hSw); go_simp <;> with_reducible rfl)
      try simp only [Act.put, List.setIfInBounds_toArray, List.set_cons_zero, List.set_cons_succ]
      refine hR.take (i := 5) (oi := ?ow580_5) (v := ?vw580_5) (m' := 63) ?hw580_5 (by kernel_rfl) (by kernel_rfl) (fun _ _ _ h => h) (Or.inl ⟨?sw580_5, ?yw580_5⟩) (by assumption) ?nw580_5
      case hw580_5 => simp only [List.getElem?_toArray, List.getElem?_cons_succ, List.getElem?_cons_zero]; rfl
      case sw580_5 => rfl
      case yw580_5 => (intro w hSw; (try dsimp only at hSw); go_simp <;> with_reducible rfl)
      try simp only [Act.put, List.setIfInBounds_toArray, List.set_cons_zero, List.set_cons_succ]
      refine hR.take (i := 6) (oi := ?ow581_6) (v := ?vw581_6) (m' := 127) ?hw581_6 (by kernel_rfl) (by kernel_rfl) (fun _ _ _ h => h) (Or.inl ⟨?sw581_6, ?yw581_6⟩) (by assumption) ?nw581_6
      case hw581_6 => simp only [List.getElem?_toArray, List.getElem?_cons_succ, List.getElem?_cons_zero]; rfl
      case sw581_6 => rfl
      case yw581_6 => (intro w hSw; (try dsimp only at hSw); go_simp <;> with_reducible rfl)
      try simp only [Act.put, List.setIfInBounds_toArray, List.set_cons_zero, List.set_cons_succ]
      refine hR.come (rs := [7]) (by kernel_rfl) (by simp) ?_
      refine AllReadyH.cons (o := ?o582_7) ?h582_7 (fun K hK => ?kw582_7) AllReadyH.nil
      case h582_7 => simp only [List.getElem?_toArray, List.getElem?_cons_succ, List.getElem?_cons_zero]; rfl
      go_simp
      go_at_call 38; refine (countsR (l := l) (f := fl q 0) _ (HS2.out.keep (Below.agree (by (first | with_reducible assumption | (with_reducible refine Below.drew ?_; with_reducible assumption) | (with_reducible refine ba _ _ ?_; with_reducible assumption) | (with_reducible refine Below.drew ?_; with_reducible refine ba _ _ ?_; with_reducible assumption) | exact Below.refl _ _ | exact (Below.refl _ _).drew | exact (Below.refl _ _).alloc (Nat.le_refl _) _ | (refine bc _ _ (by assumption) (by assumption)))))) (HF0.out.keep (Below.agree (by (first | with_reducible assumption | (with_reducible refine Below.drew ?_; with_reducible assumption) | (with_reducible refine ba _ _ ?_; with_reducible assumption) | (with_reducible refine Below.drew ?_; with_reducible refine ba _ _ ?_; with_reducible assumption) | exact Below.refl _ _ | exact (Below.refl _ _).drew | exact (Below.refl _ _).alloc (Nat.le_refl _) _ | (refine bc _ _ (by assumption) (by assumption)))))) HLV.out HX0.out HCC.out hll2).mono ?_; rw [← HSM.out]; rintro e w4 ⟨A4, c4, rfl, ho4, hb4⟩; have hk4 := bc _ _ (by (first | with_reducible assumption | (with_reducible refine Below.drew ?_; with_reducible assumption) | (with_reducible refine ba _ _ ?_; with_reducible assumption) | (with_reducible refine Below.drew ?_; with_reducible refine ba _ _ ?_; with_reducible assumption) | exact Below.refl _ _ | exact (Below.refl _ _).drew | exact (Below.refl _ _).alloc (Nat.le_refl _) _ | (refine bc _ _ (by assumption) (by assumption)))) hb4
      refine hK.out _ _ ?_ (fun hHeld => ?_)
      · (first | with_reducible assumption | (with_reducible refine Below.drew ?_; with_reducible assumption) | (with_reducible refine ba _ _ ?_; with_reducible assumption) | (with_reducible refine Below.drew ?_; with_reducible refine ba _ _ ?_; with_reducible assumption) | exact Below.refl _ _ | exact (Below.refl _ _).drew | exact (Below.refl _ _).alloc (Nat.le_refl _) _ | (refine bc _ _ (by assumption) (by assumption)))
      clear hK K
      refine RegOk.put_ (m' := 255) (by kernel_rfl) ?_
      try simp only [Act.put, List.setIfInBounds_toArray, List.set_cons_zero, List.set_cons_succ]
      refine hR.take (i := 8) (oi := ?ow583_8) (v := ?vw583_8) (m' := 511) ?hw583_8 (by kernel_rfl) (by kernel_rfl) (fun _ _ _ h => h) (Or.inl ⟨?sw583_8, ?yw583_8⟩) (by assumption) ?nw583_8
      case hw583_8 => simp only [List.getElem?_toArray, List.getElem?_cons_succ, List.getElem?_cons_zero]; rfl
      case sw583_8 => rfl
      case yw583_8 => (intro w hSw; (try dsimp only at hSw); go_simp <;> with_reducible rfl)
      try simp only [Act.put, List.setIfInBounds_toArray, List.set_cons_zero, List.set_cons_succ]
      refine hR.all (by kernel_rfl) ?_ _
      refine NoPanic.normal ?_
      go_wp2_with fail
      go_ret
      exact ⟨A4, c4, rfl, ho4.flatSl i64_flat (fun b hb => by have := B2.out.size; simp at hb; omega), B2.out.trans (hk4.mono B2.out.size)⟩
    · have e4 : (q.kind == 4) = false := by rw [k4]; rfl
      have e5 : (q.kind == 5) = (true && !false) := by rw [k4]; rfl
      have e6 : (q.kind == 6) = (true && !true) := by rw [k4]; rfl
      simp only [Bool.not_true, Bool.not_false, Bool.and_true, Bool.and_false, Bool.true_and, Bool.false_and] at e5 e6
      clear k4 k46 hkk
      go_upto_region 3 with fail
      refine wp_region_noPanic ?_
      refine wp_region_held_drew (S := fun X => Below w2.heap.size w2 X) (by kernel_rfl) ?_ (fun hHeld => ?_)
      · (first | with_reducible assumption | (with_reducible refine Below.drew ?_; with_reducible assumption) | (with_reducible refine ba _ _ ?_; with_reducible assumption) | (with_reducible refine Below.drew ?_; with_reducible refine ba _ _ ?_; with_reducible assumption) | exact Below.refl _ _ | exact (Below.refl _ _).drew | exact (Below.refl _ _).alloc (Nat.le_refl _) _ | (refine bc _ _ (by assumption) (by assumption)))
      refine RegOk.begin_ (n := 9) (T := ev6A) ⟨by kernel_rfl, by kernel_rfl, by kernel_rfl, by kernel_rfl⟩ fun hR => ?_
      refine hR.take (i := 0) (oi := ?ow584_0) (v := ?vw584_0) (m' := 1) ?hw584_0 (by kernel_rfl) (by kernel_rfl) (fun _ _ _ h => h) (Or.inl ⟨?sw584_0, ?yw584_0⟩) (by assumption) ?nw584_0
      case hw584_0 => simp only [List.getElem?_toArray, List.getElem?_cons_succ, List.getElem?_cons_zero]; rfl
      case sw584_0 => rfl
      case yw584_0 => (intro w hSw; (try dsimp only at hSw); go_simp <;> with_reducible rfl)
      try simp only [Act.put, List.setIfInBounds_toArray, List.set_cons_zero, List.set_cons_succ]
      refine hR.take (i := 1) (oi := ?ow585_1) (v := ?vw585_1) (m' := 3) ?hw585_1 (by kernel_rfl) (by kernel_rfl) (fun _ _ _ h => h) (Or.inl ⟨?sw585_1, ?yw585_1⟩) (by assumption) ?nw585_1
      case hw585_1 => simp only [List.getElem?_toArray, List.getElem?_cons_succ, List.getElem?_cons_zero]; rfl
      case sw585_1 => rfl
      case yw585_1 => (intro w hSw; (try dsimp only at hSw); go_simp <;> with_reducible rfl)
      try simp only [Act.put, List.setIfInBounds_toArray, List.set_cons_zero, List.set_cons_succ]
      refine hR.take (i := 2) (oi := ?ow586_2) (v := ?vw586_2) (m' := 7) ?hw586_2 (by kernel_rfl) (by kernel_rfl) (fun _ _ _ h => h) (Or.inl ⟨?sw586_2, ?yw586_2⟩) (by assumption) ?nw586_2
      case hw586_2 => simp only [List.getElem?_toArray, List.getElem?_cons_succ, List.getElem?_cons_zero]; rfl
      case sw586_2 => rfl
      case yw586_2 => (intro w hSw; (try dsimp only at hSw); go_simp <;> with_reducible rfl)
      try simp only [Act.put, List.setIfInBounds_toArray, List.set_cons_zero, List.set_cons_succ]
      refine hR.take (i := 3) (oi := ?ow587_3) (v := ?vw587_3) (m' := 15) ?hw587_3 (by kernel_rfl) (by kernel_rfl) (fun _ _ _ h => h) (Or.inl ⟨?sw587_3, ?yw587_3⟩) (by assumption) ?nw587_3
      case hw587_3 => simp only [List.getElem?_toArray, List.getElem?_cons_succ, List.getElem?_cons_zero]; rfl
      case sw587_3 => rfl
      case yw587_3 => (intro w hSw; (try dsimp only at hSw); go_simp <;> with_reducible rfl)
      try simp only [Act.put, List.setIfInBounds_toArray, List.set_cons_zero, List.set_cons_succ]
      refine hR.take (i := 4) (oi := ?ow588_4) (v := ?vw588_4) (m' := 31) ?hw588_4 (by kernel_rfl) (by kernel_rfl) (fun _ _ _ h => h) (Or.inl ⟨?sw588_4, ?yw588_4⟩) (by assumption) ?nw588_4
      case hw588_4 => simp only [List.getElem?_toArray, List.getElem?_cons_succ, List.getElem?_cons_zero]; rfl
      case sw588_4 => rfl
      case yw588_4 => (intro w hSw; (try dsimp only at hSw); go_simp <;> with_reducible rfl)
      try simp only [Act.put, List.setIfInBounds_toArray, List.set_cons_zero, List.set_cons_succ]
      refine hR.take (i := 5) (oi := ?ow589_5) (v := ?vw589_5) (m' := 63) ?hw589_5 (by kernel_rfl) (by kernel_rfl) (fun _ _ _ h => h) (Or.inl ⟨?sw589_5, ?yw589_5⟩) (by assumption) ?nw589_5
      case hw589_5 => simp only [List.getElem?_toArray, List.getElem?_cons_succ, List.getElem?_cons_zero]; rfl
      case sw589_5 => rfl
      case yw589_5 => (intro w hSw; (try dsimp only at hSw); go_simp <;> with_reducible rfl)
      try simp only [Act.put, List.setIfInBounds_toArray, List.set_cons_zero, List.set_cons_succ]
      refine hR.take (i := 6) (oi := ?ow590_6) (v := ?vw590_6) (m' := 127) ?hw590_6 (by kernel_rfl) (by kernel_rfl) (fun _ _ _ h => h) (Or.inl ⟨?sw590_6, ?yw590_6⟩) (by assumption) ?nw590_6
      case hw590_6 => simp only [List.getElem?_toArray, List.getElem?_cons_succ, List.getElem?_cons_zero]; rfl
      case sw590_6 => rfl
      case yw590_6 => (intro w hSw; (try dsimp only at hSw); go_simp <;> with_reducible rfl)
      try simp only [Act.put, List.setIfInBounds_toArray, List.set_cons_zero, List.set_cons_succ]
      refine hR.come (rs := [7]) (by kernel_rfl) (by simp) ?_
      refine AllReadyH.cons (o := ?o591_7) ?h591_7 (fun K hK => ?kw591_7) AllReadyH.nil
      case h591_7 => simp only [List.getElem?_toArray, List.getElem?_cons_succ, List.getElem?_cons_zero]; rfl
      go_simp
      go_at_call 38; refine (countsR (l := l) (f := fl q 0) _ (HS2.out.keep (Below.agree (by (first | with_reducible assumption | (with_reducible refine Below.drew ?_; with_reducible assumption) | (with_reducible refine ba _ _ ?_; with_reducible assumption) | (with_reducible refine Below.drew ?_; with_reducible refine ba _ _ ?_; with_reducible assumption) | exact Below.refl _ _ | exact (Below.refl _ _).drew | exact (Below.refl _ _).alloc (Nat.le_refl _) _ | (refine bc _ _ (by assumption) (by assumption)))))) (HF0.out.keep (Below.agree (by (first | with_reducible assumption | (with_reducible refine Below.drew ?_; with_reducible assumption) | (with_reducible refine ba _ _ ?_; with_reducible assumption) | (with_reducible refine Below.drew ?_; with_reducible refine ba _ _ ?_; with_reducible assumption) | exact Below.refl _ _ | exact (Below.refl _ _).drew | exact (Below.refl _ _).alloc (Nat.le_refl _) _ | (refine bc _ _ (by assumption) (by assumption)))))) HLV.out HX0.out HCC.out hll2).mono ?_; rw [← HSM.out]; rintro e w4 ⟨A4, c4, rfl, ho4, hb4⟩; have hk4 := bc _ _ (by (first | with_reducible assumption | (with_reducible refine Below.drew ?_; with_reducible assumption) | (with_reducible refine ba _ _ ?_; with_reducible assumption) | (with_reducible refine Below.drew ?_; with_reducible refine ba _ _ ?_; with_reducible assumption) | exact Below.refl _ _ | exact (Below.refl _ _).drew | exact (Below.refl _ _).alloc (Nat.le_refl _) _ | (refine bc _ _ (by assumption) (by assumption)))) hb4
      refine hK.out _ _ ?_ (fun hHeld => ?_)
      · (first | with_reducible assumption | (with_reducible refine Below.drew ?_; with_reducible assumption) | (with_reducible refine ba _ _ ?_; with_reducible assumption) | (with_reducible refine Below.drew ?_; with_reducible refine ba _ _ ?_; with_reducible assumption) | exact Below.refl _ _ | exact (Below.refl _ _).drew | exact (Below.refl _ _).alloc (Nat.le_refl _) _ | (refine bc _ _ (by assumption) (by assumption)))
      clear hK K
      refine RegOk.put_ (m' := 255) (by kernel_rfl) ?_
      try simp only [Act.put, List.setIfInBounds_toArray, List.set_cons_zero, List.set_cons_succ]
      refine hR.take (i := 8) (oi := ?ow592_8) (v := ?vw592_8) (m' := 511) ?hw592_8 (by kernel_rfl) (by kernel_rfl) (fun _ _ _ h => h) (Or.inl ⟨?sw592_8, ?yw592_8⟩) (by assumption) ?nw592_8
      case hw592_8 => simp only [List.getElem?_toArray, List.getElem?_cons_succ, List.getElem?_cons_zero]; rfl
      case sw592_8 => rfl
      case yw592_8 => (intro w hSw; (try dsimp only at hSw); go_simp <;> with_reducible rfl)
      try simp only [Act.put, List.setIfInBounds_toArray, List.set_cons_zero, List.set_cons_succ]
      refine hR.all (by kernel_rfl) ?_ _
      refine NoPanic.normal ?_
      go_wp2_with fail
      go_ret
      exact ⟨A4, c4, rfl, ho4.flatSl i64_flat (fun b hb => by have := B2.out.size; simp at hb; omega), B2.out.trans (hk4.mono B2.out.size)⟩
    · have e4 : (q.kind == 4) = false := by rw [k4]; rfl
      have e5 : (q.kind == 5) = (false && !false) := by rw [k4]; rfl
      have e6 : (q.kind == 6) = (true && !false) := by rw [k4]; rfl
      simp only [Bool.not_true, Bool.not_false, Bool.and_true, Bool.and_false, Bool.true_and, Bool.false_and] at e5 e6
      clear k4 k46 hkk
      go_upto_region 3 with fail
      refine wp_region_noPanic ?_
      refine wp_region_held_drew (S := fun X => Below w2.heap.size w2 X) (by kernel_rfl) ?_ (fun hHeld => ?_)
      · (first | with_reducible assumption | (with_reducible refine Below.drew ?_; with_reducible assumption) | (with_reducible refine ba _ _ ?_; with_reducible assumption) | (with_reducible refine Below.drew ?_; with_reducible refine ba _ _ ?_; with_reducible assumption) | exact Below.refl _ _ | exact (Below.refl _ _).drew | exact (Below.refl _ _).alloc (Nat.le_refl _) _ | (refine bc _ _ (by assumption) (by assumption)))
      refine RegOk.begin_ (n := 9) (T := ev6A) ⟨by kernel_rfl, by kernel_rfl, by kernel_rfl, by kernel_rfl⟩ fun hR => ?_
      refine hR.take (i := 0) (oi := ?ow593_0) (v := ?vw593_0) (m' := 1) ?hw593_0 (by kernel_rfl) (by kernel_rfl) (fun _ _ _ h => h) (Or.inl ⟨?sw593_0, ?yw593_0⟩) (by assumption) ?nw593_0
      case hw593_0 => simp only [List.getElem?_toArray, List.getElem?_cons_succ, List.getElem?_cons_zero]; rfl
      case sw593_0 => rfl
      case yw593_0 => (intro w hSw; (try dsimp only at hSw); go_simp <;> with_reducible rfl)
      try simp only [Act.put, List.setIfInBounds_toArray, List.set_cons_zero, List.set_cons_succ]
      refine hR.take (i := 1) (oi := ?ow594_1) (v := ?vw594_1) (m' := 3) ?hw594_1 (by kernel_rfl) (by kernel_rfl) (fun _ _ _ h => h) (Or.inl ⟨?sw594_1, ?yw594_1⟩) (by assumption) ?nw594_1
      case hw594_1 => simp only [List.getElem?_toArray, List.getElem?_cons_succ, List.getElem?_cons_zero]; rfl
      case sw594_1 => rfl
      case yw594_1 => (intro w hSw; (try dsimp only at hSw); go_simp <;> with_reducible rfl)
      try simp only [Act.put, List.setIfInBounds_toArray, List.set_cons_zero, List.set_cons_succ]
      refine hR.take (i := 2) (oi := ?ow595_2) (v := ?vw595_2) (m' := 7) ?hw595_2 (by kernel_rfl) (by kernel_rfl) (fun _ _ _ h => h) (Or.inl ⟨?sw595_2, ?yw595_2⟩) (by assumption) ?nw595_2
      case hw595_2 => simp only [List.getElem?_toArray, List.getElem?_cons_succ, List.getElem?_cons_zero]; rfl
      case sw595_2 => rfl
      case yw595_2 => (intro w hSw; (try dsimp only at hSw); go_simp <;> with_reducible rfl)
      try simp only [Act.put, List.setIfInBounds_toArray, List.set_cons_zero, List.set_cons_succ]
      refine hR.take (i := 3) (oi := ?ow596_3) (v := ?vw596_3) (m' := 15) ?hw596_3 (by kernel_rfl) (by kernel_rfl) (fun _ _ _ h => h) (Or.inl ⟨?sw596_3, ?yw596_3⟩) (by assumption) ?nw596_3
      case hw596_3 => simp only [List.getElem?_toArray, List.getElem?_cons_succ, List.getElem?_cons_zero]; rfl
      case sw596_3 => rfl
      case yw596_3 => (intro w hSw; (try dsimp only at hSw); go_simp <;> with_reducible rfl)
      try simp only [Act.put, List.setIfInBounds_toArray, List.set_cons_zero, List.set_cons_succ]
      refine hR.take (i := 4) (oi := ?ow597_4) (v := ?vw597_4) (m' := 31) ?hw597_4 (by kernel_rfl) (by kernel_rfl) (fun _ _ _ h => h) (Or.inl ⟨?sw597_4, ?yw597_4⟩) (by assumption) ?nw597_4
      case hw597_4 => simp only [List.getElem?_toArray, List.getElem?_cons_succ, List.getElem?_cons_zero]; rfl
      case sw597_4 => rfl
      case yw597_4 => (intro w hSw; (try dsimp only at hSw); go_simp <;> with_reducible rfl)
      try simp only [Act.put, List.setIfInBounds_toArray, List.set_cons_zero, List.set_cons_succ]
      refine hR.take (i := 5) (oi := ?ow598_5) (v := ?vw598_5) (m' := 63) ?hw598_5 (by kernel_rfl) (by kernel_rfl) (fun _ _ _ h => h) (Or.inl ⟨?sw598_5, ?yw598_5⟩) (by assumption) ?nw598_5
      case hw598_5 => simp only [List.getElem?_toArray, List.getElem?_cons_succ, List.getElem?_cons_zero]; rfl
      case sw598_5 => rfl
      case yw598_5 => (intro w hSw; (try dsimp only at hSw); go_simp <;> with_reducible rfl)
      try simp only [Act.put, List.setIfInBounds_toArray, List.set_cons_zero, List.set_cons_succ]
      refine hR.take (i := 6) (oi := ?ow599_6) (v := ?vw599_6) (m' := 127) ?hw599_6 (by kernel_rfl) (by kernel_rfl) (fun _ _ _ h => h) (Or.inl ⟨?sw599_6, ?yw599_6⟩) (by assumption) ?nw599_6
      case hw599_6 => simp only [List.getElem?_toArray, List.getElem?_cons_succ, List.getElem?_cons_zero]; rfl
      case sw599_6 => rfl
      case yw599_6 => (intro w hSw; (try dsimp only at hSw); go_simp <;> with_reducible rfl)
      try simp only [Act.put, List.setIfInBounds_toArray, List.set_cons_zero, List.set_cons_succ]
      refine hR.come (rs := [7]) (by kernel_rfl) (by simp) ?_
      refine AllReadyH.cons (o := ?o600_7) ?h600_7 (fun K hK => ?kw600_7) AllReadyH.nil
      case h600_7 => simp only [List.getElem?_toArray, List.getElem?_cons_succ, List.getElem?_cons_zero]; rfl
      go_simp
      go_at_call 38; refine (countsR (l := l) (f := fl q 0) _ (HS2.out.keep (Below.agree (by (first | with_reducible assumption | (with_reducible refine Below.drew ?_; with_reducible assumption) | (with_reducible refine ba _ _ ?_; with_reducible assumption) | (with_reducible refine Below.drew ?_; with_reducible refine ba _ _ ?_; with_reducible assumption) | exact Below.refl _ _ | exact (Below.refl _ _).drew | exact (Below.refl _ _).alloc (Nat.le_refl _) _ | (refine bc _ _ (by assumption) (by assumption)))))) (HF0.out.keep (Below.agree (by (first | with_reducible assumption | (with_reducible refine Below.drew ?_; with_reducible assumption) | (with_reducible refine ba _ _ ?_; with_reducible assumption) | (with_reducible refine Below.drew ?_; with_reducible refine ba _ _ ?_; with_reducible assumption) | exact Below.refl _ _ | exact (Below.refl _ _).drew | exact (Below.refl _ _).alloc (Nat.le_refl _) _ | (refine bc _ _ (by assumption) (by assumption)))))) HLV.out HX0.out HCC.out hll2).mono ?_; rw [← HSM.out]; rintro e w4 ⟨A4, c4, rfl, ho4, hb4⟩; have hk4 := bc _ _ (by (first | with_reducible assumption | (with_reducible refine Below.drew ?_; with_reducible assumption) | (with_reducible refine ba _ _ ?_; with_reducible assumption) | (with_reducible refine Below.drew ?_; with_reducible refine ba _ _ ?_; with_reducible assumption) | exact Below.refl _ _ | exact (Below.refl _ _).drew | exact (Below.refl _ _).alloc (Nat.le_refl _) _ | (refine bc _ _ (by assumption) (by assumption)))) hb4
      refine hK.out _ _ ?_ (fun hHeld => ?_)
      · (first | with_reducible assumption | (with_reducible refine Below.drew ?_; with_reducible assumption) | (with_reducible refine ba _ _ ?_; with_reducible assumption) | (with_reducible refine Below.drew ?_; with_reducible refine ba _ _ ?_; with_reducible assumption) | exact Below.refl _ _ | exact (Below.refl _ _).drew | exact (Below.refl _ _).alloc (Nat.le_refl _) _ | (refine bc _ _ (by assumption) (by assumption)))
      clear hK K
      refine RegOk.put_ (m' := 255) (by kernel_rfl) ?_
      try simp only [Act.put, List.setIfInBounds_toArray, List.set_cons_zero, List.set_cons_succ]
      refine hR.take (i := 8) (oi := ?ow601_8) (v := ?vw601_8) (m' := 511) ?hw601_8 (by kernel_rfl) (by kernel_rfl) (fun _ _ _ h => h) (Or.inl ⟨?sw601_8, ?yw601_8⟩) (by assumption) ?nw601_8
      case hw601_8 => simp only [List.getElem?_toArray, List.getElem?_cons_succ, List.getElem?_cons_zero]; rfl
      case sw601_8 => rfl
      case yw601_8 => (intro w hSw; (try dsimp only at hSw); go_simp <;> with_reducible rfl)
      try simp only [Act.put, List.setIfInBounds_toArray, List.set_cons_zero, List.set_cons_succ]
      refine hR.all (by kernel_rfl) ?_ _
      refine NoPanic.normal ?_
      go_wp2_with fail
      go_ret
      exact ⟨A4, c4, rfl, ho4.flatSl i64_flat (fun b hb => by have := B2.out.size; simp at hb; omega), B2.out.trans (hk4.mono B2.out.size)⟩
  have k4 : (q.kind == 4) = false := beqF (by omega)
  have k5 : (q.kind == 5) = false := beqF (by omega)
  have k6 : (q.kind == 6) = false := beqF (by omega)
  by_cases h7 : q.kind = 7
  · have e7 : (q.kind == 7) = true := by rw [h7]; rfl
    have HSM := Lib.hid (sums_pair HQ.out h7 l)
    have hl2 : q.fs.length = 2 := by rw [HFL.out, h7]; rfl
    have hx1 : q.fs[1]? = some (fl q 1) := by unfold fl; rw [List.getD_eq_getElem?_getD, List.getElem?_eq_getElem (by omega)]; rfl
    obtain ⟨b1', o1', B3, d3, e2, -, l3, c3, hf3⟩ := flt_at F2.out hx1
    injection e2 with e2
    injection e2 with e3 e4
    subst e3; subst e4
    have HF1 := Lib.hid hf3
    have HX1 := Lib.hid (HQ.out.flt _ (List.mem_of_getElem? hx1))
    have hi1 : (1 : Int) < (q.fs.length : Int) := by omega
    clear hf3 hx1 hl2 h7 k46
    go_wp2_with (first
      | (go_at_call 38; ((with_reducible refine (countsR (l := l) (f := fl q 0) _ HS2.out HF0.out HLV.out HX0.out (.inl rfl) hll2).mono ?_)); rintro e w4 ⟨A4, c4, rfl, ho4, hb4⟩; have HO4 := Lib.hid ho4; have HB4 := Lib.hid hb4; have hz4 := hb4.size; obtain ⟨hc4, hf4⟩ := bcell hb4; clear ho4 hb4)
      | (go_at_call 38; ((with_reducible refine (countsR (l := l) (f := fl q 1) _ (HS2.out.keep (Below.agree HB4.out)) (HF1.out.keep (Below.agree HB4.out)) HLV.out HX1.out (.inl rfl) hll2).mono ?_)); rintro e w5 ⟨A5, c5, rfl, ho5, hb5⟩; have HO5 := Lib.hid ho5; have HB5 := Lib.hid hb5; clear ho5 hb5)
      | (at_builtin; go_must ((refine wpList_append_E (S := fun b => w4.heap.size ≤ b) rfl (.tmp 44) (.tmp 50) rfl i64sT (base := w2.heap.size) (xs := sumsF (q4F 0 (fl q 0)) l) (ys := sumsF (q4F 0 (fl q 1)) l) (by rfl) (by rfl) rfl (nz := (sumsF q l).length) (by rw [HSM.out]) ((HO4.out.call HB5.out).flat i64_flat) (HO5.out.flatSl i64_flat (fun b hb => hb)) (by rw [sumsF_len, sumsF_len]; exact (by decide : 16 + 16 ≤ maxLen)) (by rw [sumsF_len, sumsF_len]; exact (by decide : (16 + 16) * 8 ≤ 140737488355328)) (Nat.le_trans hz4 HB5.out.size) (fun g' hg' (hlt : w4.heap.size ≤ g') => by have h1 := (HO4.out.lt g' hg').2; omega) ?_; intro A6 c6 w6 hown6 hg6 hor6))))
    go_ret
    refine ⟨A6, c6, rfl, ?_, ?_⟩
    · have h1 := hown6.flat i64_flat (T := fun _ => False)
      rw [← HSM.out] at h1
      exact h1.flatSl i64_flat (fun b hb => Nat.le_trans B2.out.size hb)
    · have hb := B2.out.trans ((HB4.out.trans (HB5.out.mono HB4.out.size)).mono B2.out.size)
      exact hb.grown hg6 hb.size (fun g' hg' => by have h1 := (HO4.out.lt g' hg').1; have h2 := B2.out.size; omega)
  have e7 : (q.kind == 7) = false := beqF h7
  have hk3 : 1 ≤ q.kind ∧ q.kind ≤ 3 := by omega
  have hcol := HQ.out.head.2.1
  have hEX := exp_le HQ.out
  have HSM := Lib.hid (show sumsF q l = [totalF q l 0] by unfold sumsF; rw [nSums_1 HQ.out hk3.2]; rfl)
  have HK3 := Lib.hid hk3
  have hq0 := HQ.out.head.2.2.2.1
  have HKQ := Lib.hid hq0
  clear k46 h7 hk3 hq0 hk17
  go_wp2_with fail
  go_loopw [7, 8] (fun t i wr => ∃ j : Nat, j ≤ l.length ∧ i = .int .i64 j ∧ t = .int .i64 (totalF q (l.take j) 0) ∧ Hid (Below w2.heap.size w2 wr)) (fun _ i _ => l.length - (intOf i).toNat)
  case atStart => exact ⟨0, Nat.zero_le _, rfl, by simp [totalF], Lib.hid br⟩
  case round =>
    obtain ⟨j, hj, rfl, rfl, HB⟩ := hrel
    have hj0 : (0 : Int) ≤ (j : Int) := by omega
    by_cases hlt : j < l.length
    · have hj1 : (j : Int) < (l.length : Int) := by omega
      obtain ⟨r, hr⟩ : ∃ r, l[j]? = some r := ⟨_, List.getElem?_eq_getElem hlt⟩
      obtain ⟨b2, o2, rfl, -, hb2, x0, x1, x2, x3⟩ := rd_at (HS2.out.keep (Below.agree HB.out)) hr
      have hv := HLV.out r (List.mem_of_getElem? hr)
      have HS := Lib.hid (show totalF q (l.take (j + 1)) 0 = totalF q (l.take j) 0 + termF q 0 r by rw [take_snocR hr, totalF_snoc])
      have HFF := Lib.hid (show filtF q 0 = fl q 0 by unfold filtF; rw [if_neg (by have := HK3.out; omega)])
      have HU := Lib.hid (unit_pow HK3.out r)
      have htb := totalF_bd (q := q) 0 (k6_of HQ.out) (take_valid HLV.out j)
      have htl : (l.take j).length ≤ j := List.length_take_le _ _
      have hyb := fldI_255 hv q.col
      obtain ⟨y, hy⟩ : ∃ y, fldI r q.col = y := ⟨_, rfl⟩
      obtain ⟨z, hz⟩ : ∃ z, totalF q (l.take j) 0 = z := ⟨_, rfl⟩
      rw [hy] at hyb
      rw [hz] at htb ⊢
      have HY := Lib.hid hy
      have HZ := Lib.hid hz
      have hzb : 0 ≤ z ∧ z ≤ 274941996890625000 := by omega
      have hbr := HB.out
      have zq' : ∀ W, Below wr.heap.size wr W → _ ∧ _ ∧ _ ∧ _ := fun W hW => zq W (bc _ _ hbr hW)
      have zc' : ∀ W, Below wr.heap.size wr W → W.cell? ⟨b1, o1, none⟩ = some (.slice B0 (fl q 0).length d0) := fun W hW => zc W (bc _ _ hbr hW)
      have zr : ∀ W, Below wr.heap.size wr W → _ ∧ _ ∧ _ ∧ _ := fun W hW => ⟨(hW.cell (p := ⟨b2, _, none⟩) hb2).trans x0, (hW.cell (p := ⟨b2, _, none⟩) hb2).trans x1, (hW.cell (p := ⟨b2, _, none⟩) hb2).trans x2, (hW.cell (p := ⟨b2, _, none⟩) hb2).trans x3⟩
      have hlz := hbr.size
      have lq' : w.heap.size < wr.heap.size := by omega
      have F3 := Lib.hid (HF0.out.keep (Below.agree hbr))
      clear hr hv hy hz zq zc br ba bc htl
      have br : Below wr.heap.size wr wr := Below.refl _ _
      have ba : ∀ W o, Below wr.heap.size wr W → Below wr.heap.size wr (W.alloc o) := fun W o h => h.alloc h.size o
      have bc : ∀ W W', Below wr.heap.size wr W → Below W.heap.size W W' → Below wr.heap.size wr W' := fun W W' h k => h.trans (k.mono h.size)
      go_upto_region 11 with fail
      cases hmb : matchB (fl q 0) r with
      | false =>
        have HMB := Lib.hid hmb
        have HT := Lib.hid (show termF q 0 r = 0 by unfold termF; rw [HFF.out, hmb]; rfl)
        clear hmb
        refine wp_region_noPanic ?_
        refine wp_region_held_drew (S := fun X => Below wr.heap.size wr X) (by kernel_rfl) ?_ (fun hHeld => ?_)
        · (first | with_reducible assumption | (with_reducible refine Below.drew ?_; with_reducible assumption) | (with_reducible refine ba _ _ ?_; with_reducible assumption) | (with_reducible refine Below.drew ?_; with_reducible refine ba _ _ ?_; with_reducible assumption) | exact Below.refl _ _ | exact (Below.refl _ _).drew | exact (Below.refl _ _).alloc (Nat.le_refl _) _ | (refine bc _ _ (by assumption) (by assumption)))
        refine RegOk.begin_ (n := 10) (T := ev6B) ⟨by kernel_rfl, by kernel_rfl, by kernel_rfl, by kernel_rfl⟩ fun hR => ?_
        refine hR.take (i := 0) (oi := ?ow602_0) (v := ?vw602_0) (m' := 1) ?hw602_0 (by kernel_rfl) (by kernel_rfl) (fun _ _ _ h => h) (Or.inl ⟨?sw602_0, ?yw602_0⟩) (by assumption) ?nw602_0
        case hw602_0 => simp only [List.getElem?_toArray, List.getElem?_cons_succ, List.getElem?_cons_zero]; rfl
        case sw602_0 => rfl
        case yw602_0 => (intro w hSw; (try dsimp only at hSw); go_simp <;> with_reducible rfl)
        try simp only [Act.put, List.setIfInBounds_toArray, List.set_cons_zero, List.set_cons_succ]
        refine hR.take (i := 1) (oi := ?ow603_1) (v := ?vw603_1) (m' := 3) ?hw603_1 (by kernel_rfl) (by kernel_rfl) (fun _ _ _ h => h) (Or.inl ⟨?sw603_1, ?yw603_1⟩) (by assumption) ?nw603_1
        case hw603_1 => simp only [List.getElem?_toArray, List.getElem?_cons_succ, List.getElem?_cons_zero]; rfl
        case sw603_1 => rfl
        case yw603_1 => (intro w hSw; (try dsimp only at hSw); go_simp <;> with_reducible rfl)
        try simp only [Act.put, List.setIfInBounds_toArray, List.set_cons_zero, List.set_cons_succ]
        refine hR.take (i := 2) (oi := ?ow604_2) (v := ?vw604_2) (m' := 7) ?hw604_2 (by kernel_rfl) (by kernel_rfl) (fun _ _ _ h => h) (Or.inl ⟨?sw604_2, ?yw604_2⟩) (by assumption) ?nw604_2
        case hw604_2 => simp only [List.getElem?_toArray, List.getElem?_cons_succ, List.getElem?_cons_zero]; rfl
        case sw604_2 => rfl
        case yw604_2 => (intro w hSw; (try dsimp only at hSw); go_simp <;> with_reducible rfl)
        try simp only [Act.put, List.setIfInBounds_toArray, List.set_cons_zero, List.set_cons_succ]
        refine hR.take (i := 3) (oi := ?ow605_3) (v := ?vw605_3) (m' := 15) ?hw605_3 (by kernel_rfl) (by kernel_rfl) (fun _ _ _ h => h) (Or.inl ⟨?sw605_3, ?yw605_3⟩) (by assumption) ?nw605_3
        case hw605_3 => simp only [List.getElem?_toArray, List.getElem?_cons_succ, List.getElem?_cons_zero]; rfl
        case sw605_3 => rfl
        case yw605_3 => (intro w hSw; (try dsimp only at hSw); go_simp <;> with_reducible rfl)
        try simp only [Act.put, List.setIfInBounds_toArray, List.set_cons_zero, List.set_cons_succ]
        refine hR.take (i := 4) (oi := ?ow606_4) (v := ?vw606_4) (m' := 31) ?hw606_4 (by kernel_rfl) (by kernel_rfl) (fun _ _ _ h => h) (Or.inl ⟨?sw606_4, ?yw606_4⟩) (by assumption) ?nw606_4
        case hw606_4 => simp only [List.getElem?_toArray, List.getElem?_cons_succ, List.getElem?_cons_zero]; rfl
        case sw606_4 => rfl
        case yw606_4 => (intro w hSw; (try dsimp only at hSw); go_simp <;> with_reducible rfl)
        try simp only [Act.put, List.setIfInBounds_toArray, List.set_cons_zero, List.set_cons_succ]
        refine hR.take (i := 5) (oi := ?ow607_5) (v := ?vw607_5) (m' := 63) ?hw607_5 (by kernel_rfl) (by kernel_rfl) (fun _ _ _ h => h) (Or.inl ⟨?sw607_5, ?yw607_5⟩) (by assumption) ?nw607_5
        case hw607_5 => simp only [List.getElem?_toArray, List.getElem?_cons_succ, List.getElem?_cons_zero]; rfl
        case sw607_5 => rfl
        case yw607_5 => (intro w hSw; (try dsimp only at hSw); go_simp <;> with_reducible rfl)
        try simp only [Act.put, List.setIfInBounds_toArray, List.set_cons_zero, List.set_cons_succ]
        refine hR.take (i := 6) (oi := ?ow608_6) (v := ?vw608_6) (m' := 127) ?hw608_6 (by kernel_rfl) (by kernel_rfl) (fun _ _ _ h => h) (Or.inl ⟨?sw608_6, ?yw608_6⟩) (by assumption) ?nw608_6
        case hw608_6 => simp only [List.getElem?_toArray, List.getElem?_cons_succ, List.getElem?_cons_zero]; rfl
        case sw608_6 => rfl
        case yw608_6 => (intro w hSw; (try dsimp only at hSw); go_simp <;> with_reducible rfl)
        try simp only [Act.put, List.setIfInBounds_toArray, List.set_cons_zero, List.set_cons_succ]
        refine hR.take (i := 7) (oi := ?ow609_7) (v := ?vw609_7) (m' := 255) ?hw609_7 (by kernel_rfl) (by kernel_rfl) (fun _ _ _ h => h) (Or.inl ⟨?sw609_7, ?yw609_7⟩) (by assumption) ?nw609_7
        case hw609_7 => simp only [List.getElem?_toArray, List.getElem?_cons_succ, List.getElem?_cons_zero]; rfl
        case sw609_7 => rfl
        case yw609_7 => (intro w hSw; (try dsimp only at hSw); go_simp <;> with_reducible rfl)
        try simp only [Act.put, List.setIfInBounds_toArray, List.set_cons_zero, List.set_cons_succ]
        refine hR.come (rs := [8]) (by kernel_rfl) (by simp) ?_
        refine AllReadyH.cons (o := ?o610_8) ?h610_8 (fun K hK => ?kw610_8) AllReadyH.nil
        case h610_8 => simp only [List.getElem?_toArray, List.getElem?_cons_succ, List.getElem?_cons_zero]; rfl
        go_simp
        go_at_call 23; refine (matchRef (l := fl q 0) (r := r) _ (F3.out.keep (Below.agree (by (first | with_reducible assumption | (with_reducible refine Below.drew ?_; with_reducible assumption) | (with_reducible refine ba _ _ ?_; with_reducible assumption) | (with_reducible refine Below.drew ?_; with_reducible refine ba _ _ ?_; with_reducible assumption) | exact Below.refl _ _ | exact (Below.refl _ _).drew | exact (Below.refl _ _).alloc (Nat.le_refl _) _ | (refine bc _ _ (by assumption) (by assumption)))))) HX0.out.2).mono ?_; rw [HMB.out]; rintro e wM ⟨rfl, hM⟩; have hkM := bc _ _ (by (first | with_reducible assumption | (with_reducible refine Below.drew ?_; with_reducible assumption) | (with_reducible refine ba _ _ ?_; with_reducible assumption) | (with_reducible refine Below.drew ?_; with_reducible refine ba _ _ ?_; with_reducible assumption) | exact Below.refl _ _ | exact (Below.refl _ _).drew | exact (Below.refl _ _).alloc (Nat.le_refl _) _ | (refine bc _ _ (by assumption) (by assumption)))) hM
        refine hK.out _ _ ?_ (fun hHeld => ?_)
        · (first | with_reducible assumption | (with_reducible refine Below.drew ?_; with_reducible assumption) | (with_reducible refine ba _ _ ?_; with_reducible assumption) | (with_reducible refine Below.drew ?_; with_reducible refine ba _ _ ?_; with_reducible assumption) | exact Below.refl _ _ | exact (Below.refl _ _).drew | exact (Below.refl _ _).alloc (Nat.le_refl _) _ | (refine bc _ _ (by assumption) (by assumption)))
        clear hK K
        refine RegOk.put_ (m' := 511) (by kernel_rfl) ?_
        try simp only [Act.put, List.setIfInBounds_toArray, List.set_cons_zero, List.set_cons_succ]
        refine hR.take (i := 9) (oi := ?ow611_9) (v := ?vw611_9) (m' := 1023) ?hw611_9 (by kernel_rfl) (by kernel_rfl) (fun _ _ _ h => h) (Or.inl ⟨?sw611_9, ?yw611_9⟩) (by assumption) ?nw611_9
        case hw611_9 => simp only [List.getElem?_toArray, List.getElem?_cons_succ, List.getElem?_cons_zero]; rfl
        case sw611_9 => rfl
        case yw611_9 => (intro w hSw; (try dsimp only at hSw); go_simp <;> with_reducible rfl)
        try simp only [Act.put, List.setIfInBounds_toArray, List.set_cons_zero, List.set_cons_succ]
        refine hR.all (by kernel_rfl) ?_ _
        refine NoPanic.normal ?_
        go_wp2_with fail
        go_roundw
        case rel => exact ⟨j + 1, by omega, by go_num, by rw [HS.out, HT.out, HZ.out, Int.add_zero], Lib.hid (hbr.trans (Below.mono (by assumption) hlz))⟩
        case measure => simp [intOf]; omega
      | true =>
        have HMB := Lib.hid hmb
        have HT := Lib.hid (show termF q 0 r = y ^ expF q by unfold termF; rw [HFF.out, hmb, if_pos rfl, HU.out, HY.out])
        have hpb := pow_le_6 hyb.1 hyb.2 hEX
        have hw : IntKind.i64.wrap (z + y ^ expF q) = z + y ^ expF q := IntWalk.i64_in _ (by omega)
        clear hmb hpb htb
        refine wp_region_noPanic ?_
        refine wp_region_held_drew (S := fun X => Below wr.heap.size wr X) (by kernel_rfl) ?_ (fun hHeld => ?_)
        · (first | with_reducible assumption | (with_reducible refine Below.drew ?_; with_reducible assumption) | (with_reducible refine ba _ _ ?_; with_reducible assumption) | (with_reducible refine Below.drew ?_; with_reducible refine ba _ _ ?_; with_reducible assumption) | exact Below.refl _ _ | exact (Below.refl _ _).drew | exact (Below.refl _ _).alloc (Nat.le_refl _) _ | (refine bc _ _ (by assumption) (by assumption)))
        refine RegOk.begin_ (n := 10) (T := ev6B) ⟨by kernel_rfl, by kernel_rfl, by kernel_rfl, by kernel_rfl⟩ fun hR => ?_
        refine hR.take (i := 0) (oi := ?ow612_0) (v := ?vw612_0) (m' := 1) ?hw612_0 (by kernel_rfl) (by kernel_rfl) (fun _ _ _ h => h) (Or.inl ⟨?sw612_0, ?yw612_0⟩) (by assumption) ?nw612_0
        case hw612_0 => simp only [List.getElem?_toArray, List.getElem?_cons_succ, List.getElem?_cons_zero]; rfl
        case sw612_0 => rfl
        case yw612_0 => (intro w hSw; (try dsimp only at hSw); go_simp <;> with_reducible rfl)
        try simp only [Act.put, List.setIfInBounds_toArray, List.set_cons_zero, List.set_cons_succ]
        refine hR.take (i := 1) (oi := ?ow613_1) (v := ?vw613_1) (m' := 3) ?hw613_1 (by kernel_rfl) (by kernel_rfl) (fun _ _ _ h => h) (Or.inl ⟨?sw613_1, ?yw613_1⟩) (by assumption) ?nw613_1
        case hw613_1 => simp only [List.getElem?_toArray, List.getElem?_cons_succ, List.getElem?_cons_zero]; rfl
        case sw613_1 => rfl
        case yw613_1 => (intro w hSw; (try dsimp only at hSw); go_simp <;> with_reducible rfl)
        try simp only [Act.put, List.setIfInBounds_toArray, List.set_cons_zero, List.set_cons_succ]
        refine hR.take (i := 2) (oi := ?ow614_2) (v := ?vw614_2) (m' := 7) ?hw614_2 (by kernel_rfl) (by kernel_rfl) (fun _ _ _ h => h) (Or.inl ⟨?sw614_2, ?yw614_2⟩) (by assumption) ?nw614_2
        case hw614_2 => simp only [List.getElem?_toArray, List.getElem?_cons_succ, List.getElem?_cons_zero]; rfl
        case sw614_2 => rfl
        case yw614_2 => (intro w hSw; (try dsimp only at hSw); go_simp <;> with_reducible rfl)
        try simp only [Act.put, List.setIfInBounds_toArray, List.set_cons_zero, List.set_cons_succ]
        refine hR.take (i := 3) (oi := ?ow615_3) (v := ?vw615_3) (m' := 15) ?hw615_3 (by kernel_rfl) (by kernel_rfl) (fun _ _ _ h => h) (Or.inl ⟨?sw615_3, ?yw615_3⟩) (by assumption) ?nw615_3
        case hw615_3 => simp only [List.getElem?_toArray, List.getElem?_cons_succ, List.getElem?_cons_zero]; rfl
        case sw615_3 => rfl
        case yw615_3 => (intro w hSw; (try dsimp only at hSw); go_simp <;> with_reducible rfl)
        try simp only [Act.put, List.setIfInBounds_toArray, List.set_cons_zero, List.set_cons_succ]
        refine hR.take (i := 4) (oi := ?ow616_4) (v := ?vw616_4) (m' := 31) ?hw616_4 (by kernel_rfl) (by kernel_rfl) (fun _ _ _ h => h) (Or.inl ⟨?sw616_4, ?yw616_4⟩) (by assumption) ?nw616_4
        case hw616_4 => simp only [List.getElem?_toArray, List.getElem?_cons_succ, List.getElem?_cons_zero]; rfl
        case sw616_4 => rfl
        case yw616_4 => (intro w hSw; (try dsimp only at hSw); go_simp <;> with_reducible rfl)
        try simp only [Act.put, List.setIfInBounds_toArray, List.set_cons_zero, List.set_cons_succ]
        refine hR.take (i := 5) (oi := ?ow617_5) (v := ?vw617_5) (m' := 63) ?hw617_5 (by kernel_rfl) (by kernel_rfl) (fun _ _ _ h => h) (Or.inl ⟨?sw617_5, ?yw617_5⟩) (by assumption) ?nw617_5
        case hw617_5 => simp only [List.getElem?_toArray, List.getElem?_cons_succ, List.getElem?_cons_zero]; rfl
        case sw617_5 => rfl
        case yw617_5 => (intro w hSw; (try dsimp only at hSw); go_simp <;> with_reducible rfl)
        try simp only [Act.put, List.setIfInBounds_toArray, List.set_cons_zero, List.set_cons_succ]
        refine hR.take (i := 6) (oi := ?ow618_6) (v := ?vw618_6) (m' := 127) ?hw618_6 (by kernel_rfl) (by kernel_rfl) (fun _ _ _ h => h) (Or.inl ⟨?sw618_6, ?yw618_6⟩) (by assumption) ?nw618_6
        case hw618_6 => simp only [List.getElem?_toArray, List.getElem?_cons_succ, List.getElem?_cons_zero]; rfl
        case sw618_6 => rfl
        case yw618_6 => (intro w hSw; (try dsimp only at hSw); go_simp <;> with_reducible rfl)
        try simp only [Act.put, List.setIfInBounds_toArray, List.set_cons_zero, List.set_cons_succ]
        refine hR.take (i := 7) (oi := ?ow619_7) (v := ?vw619_7) (m' := 255) ?hw619_7 (by kernel_rfl) (by kernel_rfl) (fun _ _ _ h => h) (Or.inl ⟨?sw619_7, ?yw619_7⟩) (by assumption) ?nw619_7
        case hw619_7 => simp only [List.getElem?_toArray, List.getElem?_cons_succ, List.getElem?_cons_zero]; rfl
        case sw619_7 => rfl
        case yw619_7 => (intro w hSw; (try dsimp only at hSw); go_simp <;> with_reducible rfl)
        try simp only [Act.put, List.setIfInBounds_toArray, List.set_cons_zero, List.set_cons_succ]
        refine hR.come (rs := [8]) (by kernel_rfl) (by simp) ?_
        refine AllReadyH.cons (o := ?o620_8) ?h620_8 (fun K hK => ?kw620_8) AllReadyH.nil
        case h620_8 => simp only [List.getElem?_toArray, List.getElem?_cons_succ, List.getElem?_cons_zero]; rfl
        go_simp
        go_at_call 23; refine (matchRef (l := fl q 0) (r := r) _ (F3.out.keep (Below.agree (by (first | with_reducible assumption | (with_reducible refine Below.drew ?_; with_reducible assumption) | (with_reducible refine ba _ _ ?_; with_reducible assumption) | (with_reducible refine Below.drew ?_; with_reducible refine ba _ _ ?_; with_reducible assumption) | exact Below.refl _ _ | exact (Below.refl _ _).drew | exact (Below.refl _ _).alloc (Nat.le_refl _) _ | (refine bc _ _ (by assumption) (by assumption)))))) HX0.out.2).mono ?_; rw [HMB.out]; rintro e wM ⟨rfl, hM⟩; have hkM := bc _ _ (by (first | with_reducible assumption | (with_reducible refine Below.drew ?_; with_reducible assumption) | (with_reducible refine ba _ _ ?_; with_reducible assumption) | (with_reducible refine Below.drew ?_; with_reducible refine ba _ _ ?_; with_reducible assumption) | exact Below.refl _ _ | exact (Below.refl _ _).drew | exact (Below.refl _ _).alloc (Nat.le_refl _) _ | (refine bc _ _ (by assumption) (by assumption)))) hM
        refine hK.out _ _ ?_ (fun hHeld => ?_)
        · (first | with_reducible assumption | (with_reducible refine Below.drew ?_; with_reducible assumption) | (with_reducible refine ba _ _ ?_; with_reducible assumption) | (with_reducible refine Below.drew ?_; with_reducible refine ba _ _ ?_; with_reducible assumption) | exact Below.refl _ _ | exact (Below.refl _ _).drew | exact (Below.refl _ _).alloc (Nat.le_refl _) _ | (refine bc _ _ (by assumption) (by assumption)))
        clear hK K
        refine RegOk.put_ (m' := 511) (by kernel_rfl) ?_
        try simp only [Act.put, List.setIfInBounds_toArray, List.set_cons_zero, List.set_cons_succ]
        refine hR.take (i := 9) (oi := ?ow621_9) (v := ?vw621_9) (m' := 1023) ?hw621_9 (by kernel_rfl) (by kernel_rfl) (fun _ _ _ h => h) (Or.inl ⟨?sw621_9, ?yw621_9⟩) (by assumption) ?nw621_9
        case hw621_9 => simp only [List.getElem?_toArray, List.getElem?_cons_succ, List.getElem?_cons_zero]; rfl
        case sw621_9 => rfl
        case yw621_9 => (intro w hSw; (try dsimp only at hSw); go_simp <;> with_reducible rfl)
        try simp only [Act.put, List.setIfInBounds_toArray, List.set_cons_zero, List.set_cons_succ]
        refine hR.all (by kernel_rfl) ?_ _
        refine NoPanic.normal ?_
        go_upto_region 14 with fail
        have lqM : w.heap.size < wM.heap.size := by have := hM.size; simp at this; omega
        obtain ⟨m0, m1, m2, m3⟩ := zq' _ hkM
        refine wp_world (F := fun wx => Hid (Below wr.heap.size wr wx) ∧ wx.cell? ⟨w.heap.size, 0, none⟩ = some (.int .i64 q.kind) ∧ wx.cell? ⟨w.heap.size, 1, none⟩ = some (.int .i64 q.col) ∧ wx.cell? ⟨w.heap.size, 2, none⟩ = some (.int .i64 q.k) ∧ w.heap.size < wx.heap.size) ⟨Lib.hid hkM, m0, m1, m2, lqM⟩ ?_
        rintro wN ⟨HkN, n0, n1, n2, lqN⟩
        clear hM hkM hHeld m0 m1 m2 m3 lqM hR
        rcases (by have := HK3.out; omega : q.kind = 1 ∨ q.kind = 2 ∨ q.kind = 3) with k1 | k1 | k1
        · have e2 : (q.kind == 2) = false := by rw [k1]; rfl
          have e3 : (q.kind == 3) = false := by rw [k1]; rfl
          have HE := Lib.hid (show ((expF q : Nat) : Int) = 0 by
            have h0 := HKQ.out
            unfold expF
            rcases (by omega : q.kind = 1 ∨ q.kind = 2 ∨ q.kind = 3) with e | e | e <;> simp [e] <;> omega)
          obtain ⟨wo, hwo⟩ : ∃ x, x = wr := ⟨_, rfl⟩
          subst hwo
          clear k1
          go_wp2_with fail
          go_loopw [9, 11] (fun v i wr => ∃ m : Nat, m ≤ expF q ∧ i = .int .i64 m ∧ v = .int .i64 (y ^ m) ∧ Hid (Below wN.heap.size wN wr)) (fun _ i _ => expF q - (intOf i).toNat)
          case atStart => exact ⟨0, Nat.zero_le _, rfl, by simp, Lib.hid (Below.refl _ _)⟩
          case round =>
            obtain ⟨m, hm, rfl, rfl, HBN⟩ := hrel
            have hm0 : (0 : Int) ≤ (m : Int) := by omega
            have HB2' := Lib.hid (HkN.out.trans (HBN.out.mono HkN.out.size))
            have hz4 := HBN.out.size
            have hz5 := HkN.out.size
            by_cases hlm : m < expF q
            · have hm1 : (m : Int) < 0 := by have := HE.out; omega
              have hpb := pow_le_6 hyb.1 hyb.2 (k := m + 1) (by omega)
              have hwy : IntKind.i64.wrap (y ^ m * y) = y ^ (m + 1) := by rw [show y ^ m * y = y ^ (m + 1) from (Int.pow_succ y m).symm]; exact IntWalk.i64_in _ (by omega)
              have zr3 : ∀ W, Below wr.heap.size wr W → _ ∧ _ ∧ _ ∧ _ := fun W hW => zr W (HB2'.out.trans (hW.mono HB2'.out.size))
              have zn : ∀ W, Below wr.heap.size wr W → W.cell? ⟨w.heap.size, 1, none⟩ = some (.int .i64 q.col) := fun W hW => (hW.cell (p := ⟨w.heap.size, 1, none⟩) (by show w.heap.size < _; omega)).trans ((HBN.out.cell (p := ⟨w.heap.size, 1, none⟩) lqN).trans n1)
              have lw3 : w.heap.size < wr.heap.size := by omega
              have lb3 : b2 < wr.heap.size := by omega
              clear zr zq' zc' br ba bc hpb
              have br : Below wr.heap.size wr wr := Below.refl _ _
              have ba : ∀ W o, Below wr.heap.size wr W → Below wr.heap.size wr (W.alloc o) := fun W o h => h.alloc h.size o
              have bc : ∀ W W', Below wr.heap.size wr W → Below W.heap.size W W' → Below wr.heap.size wr W' := fun W W' h k => h.trans (k.mono h.size)
              go_upto_region 21 with fail
              refine wp_region_noPanic ?_
              refine wp_region_held_drew (S := fun X => Below wr.heap.size wr X) (by kernel_rfl) ?_ (fun hHeld => ?_)
              · (first | with_reducible assumption | (with_reducible refine Below.drew ?_; with_reducible assumption) | (with_reducible refine ba _ _ ?_; with_reducible assumption) | (with_reducible refine Below.drew ?_; with_reducible refine ba _ _ ?_; with_reducible assumption) | exact Below.refl _ _ | exact (Below.refl _ _).drew | exact (Below.refl _ _).alloc (Nat.le_refl _) _ | (refine bc _ _ (by assumption) (by assumption)))
              refine RegOk.begin_ (n := 10) (T := ev6C) ⟨by kernel_rfl, by kernel_rfl, by kernel_rfl, by kernel_rfl⟩ fun hR => ?_
              refine hR.take (i := 0) (oi := ?ow622_0) (v := ?vw622_0) (m' := 1) ?hw622_0 (by kernel_rfl) (by kernel_rfl) (fun _ _ _ h => h) (Or.inl ⟨?sw622_0, ?yw622_0⟩) (by assumption) ?nw622_0
              case hw622_0 => simp only [List.getElem?_toArray, List.getElem?_cons_succ, List.getElem?_cons_zero]; rfl
              case sw622_0 => rfl
              case yw622_0 => (intro w hSw; (try dsimp only at hSw); go_simp <;> with_reducible rfl)
              try simp only [Act.put, List.setIfInBounds_toArray, List.set_cons_zero, List.set_cons_succ]
              refine hR.take (i := 1) (oi := ?ow623_1) (v := ?vw623_1) (m' := 3) ?hw623_1 (by kernel_rfl) (by kernel_rfl) (fun _ _ _ h => h) (Or.inl ⟨?sw623_1, ?yw623_1⟩) (by assumption) ?nw623_1
              case hw623_1 => simp only [List.getElem?_toArray, List.getElem?_cons_succ, List.getElem?_cons_zero]; rfl
              case sw623_1 => rfl
              case yw623_1 => (intro w hSw; (try dsimp only at hSw); go_simp <;> with_reducible rfl)
              try simp only [Act.put, List.setIfInBounds_toArray, List.set_cons_zero, List.set_cons_succ]
              refine hR.take (i := 2) (oi := ?ow624_2) (v := ?vw624_2) (m' := 7) ?hw624_2 (by kernel_rfl) (by kernel_rfl) (fun _ _ _ h => h) (Or.inl ⟨?sw624_2, ?yw624_2⟩) (by assumption) ?nw624_2
              case hw624_2 => simp only [List.getElem?_toArray, List.getElem?_cons_succ, List.getElem?_cons_zero]; rfl
              case sw624_2 => rfl
              case yw624_2 => (intro w hSw; (try dsimp only at hSw); go_simp <;> with_reducible rfl)
              try simp only [Act.put, List.setIfInBounds_toArray, List.set_cons_zero, List.set_cons_succ]
              refine hR.take (i := 3) (oi := ?ow625_3) (v := ?vw625_3) (m' := 15) ?hw625_3 (by kernel_rfl) (by kernel_rfl) (fun _ _ _ h => h) (Or.inl ⟨?sw625_3, ?yw625_3⟩) (by assumption) ?nw625_3
              case hw625_3 => simp only [List.getElem?_toArray, List.getElem?_cons_succ, List.getElem?_cons_zero]; rfl
              case sw625_3 => rfl
              case yw625_3 => (intro w hSw; (try dsimp only at hSw); go_simp <;> with_reducible rfl)
              try simp only [Act.put, List.setIfInBounds_toArray, List.set_cons_zero, List.set_cons_succ]
              refine hR.take (i := 4) (oi := ?ow626_4) (v := ?vw626_4) (m' := 31) ?hw626_4 (by kernel_rfl) (by kernel_rfl) (fun _ _ _ h => h) (Or.inl ⟨?sw626_4, ?yw626_4⟩) (by assumption) ?nw626_4
              case hw626_4 => simp only [List.getElem?_toArray, List.getElem?_cons_succ, List.getElem?_cons_zero]; rfl
              case sw626_4 => rfl
              case yw626_4 => (intro w hSw; (try dsimp only at hSw); go_simp <;> with_reducible rfl)
              try simp only [Act.put, List.setIfInBounds_toArray, List.set_cons_zero, List.set_cons_succ]
              refine hR.take (i := 5) (oi := ?ow627_5) (v := ?vw627_5) (m' := 63) ?hw627_5 (by kernel_rfl) (by kernel_rfl) (fun _ _ _ h => h) (Or.inl ⟨?sw627_5, ?yw627_5⟩) (by assumption) ?nw627_5
              case hw627_5 => simp only [List.getElem?_toArray, List.getElem?_cons_succ, List.getElem?_cons_zero]; rfl
              case sw627_5 => rfl
              case yw627_5 => (intro w hSw; (try dsimp only at hSw); go_simp <;> with_reducible rfl)
              try simp only [Act.put, List.setIfInBounds_toArray, List.set_cons_zero, List.set_cons_succ]
              refine hR.take (i := 6) (oi := ?ow628_6) (v := ?vw628_6) (m' := 127) ?hw628_6 (by kernel_rfl) (by kernel_rfl) (fun _ _ _ h => h) (Or.inl ⟨?sw628_6, ?yw628_6⟩) (by assumption) ?nw628_6
              case hw628_6 => simp only [List.getElem?_toArray, List.getElem?_cons_succ, List.getElem?_cons_zero]; rfl
              case sw628_6 => rfl
              case yw628_6 => (intro w hSw; (try dsimp only at hSw); go_simp <;> with_reducible rfl)
              try simp only [Act.put, List.setIfInBounds_toArray, List.set_cons_zero, List.set_cons_succ]
              refine hR.come (rs := [7]) (by kernel_rfl) (by simp) ?_
              refine AllReadyH.cons (o := ?o629_7) ?h629_7 (fun K hK => ?kw629_7) AllReadyH.nil
              case h629_7 => simp only [List.getElem?_toArray, List.getElem?_cons_succ, List.getElem?_cons_zero]; rfl
              go_simp
              go_at_call 24; refine (fieldI (r := r) _ hcol.1).mono ?_; rw [HY.out]; rintro e wF ⟨rfl, hF⟩; have hkF := bc _ _ (by (first | with_reducible assumption | (with_reducible refine Below.drew ?_; with_reducible assumption) | (with_reducible refine ba _ _ ?_; with_reducible assumption) | (with_reducible refine Below.drew ?_; with_reducible refine ba _ _ ?_; with_reducible assumption) | exact Below.refl _ _ | exact (Below.refl _ _).drew | exact (Below.refl _ _).alloc (Nat.le_refl _) _ | (refine bc _ _ (by assumption) (by assumption)))) hF
              refine hK.out _ _ ?_ (fun hHeld => ?_)
              · (first | with_reducible assumption | (with_reducible refine Below.drew ?_; with_reducible assumption) | (with_reducible refine ba _ _ ?_; with_reducible assumption) | (with_reducible refine Below.drew ?_; with_reducible refine ba _ _ ?_; with_reducible assumption) | exact Below.refl _ _ | exact (Below.refl _ _).drew | exact (Below.refl _ _).alloc (Nat.le_refl _) _ | (refine bc _ _ (by assumption) (by assumption)))
              clear hK K
              refine RegOk.put_ (m' := 255) (by kernel_rfl) ?_
              try simp only [Act.put, List.setIfInBounds_toArray, List.set_cons_zero, List.set_cons_succ]
              refine hR.take (i := 8) (oi := ?ow630_8) (v := ?vw630_8) (m' := 511) ?hw630_8 (by kernel_rfl) (by kernel_rfl) (fun _ _ _ h => h) (Or.inl ⟨?sw630_8, ?yw630_8⟩) (by assumption) ?nw630_8
              case hw630_8 => simp only [List.getElem?_toArray, List.getElem?_cons_succ, List.getElem?_cons_zero]; rfl
              case sw630_8 => rfl
              case yw630_8 => (intro w hSw; (try dsimp only at hSw); go_simp <;> with_reducible rfl)
              try simp only [Act.put, List.setIfInBounds_toArray, List.set_cons_zero, List.set_cons_succ]
              refine hR.take (i := 9) (oi := ?ow631_9) (v := ?vw631_9) (m' := 1023) ?hw631_9 (by kernel_rfl) (by kernel_rfl) (fun _ _ _ h => h) (Or.inl ⟨?sw631_9, ?yw631_9⟩) (by assumption) ?nw631_9
              case hw631_9 => simp only [List.getElem?_toArray, List.getElem?_cons_succ, List.getElem?_cons_zero]; rfl
              case sw631_9 => rfl
              case yw631_9 => (intro w hSw; (try dsimp only at hSw); go_simp <;> with_reducible rfl)
              try simp only [Act.put, List.setIfInBounds_toArray, List.set_cons_zero, List.set_cons_succ]
              refine hR.all (by kernel_rfl) ?_ _
              refine NoPanic.normal ?_
              go_wp2_with fail
              go_roundw
              case rel => exact ⟨m + 1, by omega, by go_num, by first | rfl | rw [hwy], Lib.hid (HBN.out.trans (Below.mono (by assumption) hz4))⟩
              case measure => simp [intOf]; omega
            · have hm1 : ¬ (m : Int) < 0 := by have := HE.out; omega
              obtain rfl : m = expF q := by omega
              go_wp2_with fail
              go_roundw
              case rel => exact ⟨j + 1, by omega, by go_num, by rw [HS.out, HT.out, HZ.out], Lib.hid (hbr.trans (HB2'.out.mono hlz))⟩
              case measure => simp [intOf]; omega
        · have e2 : (q.kind == 2) = true := by rw [k1]; rfl
          have e3 : (q.kind == 3) = false := by rw [k1]; rfl
          have HE := Lib.hid (show ((expF q : Nat) : Int) = 1 by
            have h0 := HKQ.out
            unfold expF
            rcases (by omega : q.kind = 1 ∨ q.kind = 2 ∨ q.kind = 3) with e | e | e <;> simp [e] <;> omega)
          obtain ⟨wo, hwo⟩ : ∃ x, x = wr := ⟨_, rfl⟩
          subst hwo
          clear k1
          go_wp2_with fail
          go_loopw [9, 11] (fun v i wr => ∃ m : Nat, m ≤ expF q ∧ i = .int .i64 m ∧ v = .int .i64 (y ^ m) ∧ Hid (Below wN.heap.size wN wr)) (fun _ i _ => expF q - (intOf i).toNat)
          case atStart => exact ⟨0, Nat.zero_le _, rfl, by simp, Lib.hid (Below.refl _ _)⟩
          case round =>
            obtain ⟨m, hm, rfl, rfl, HBN⟩ := hrel
            have hm0 : (0 : Int) ≤ (m : Int) := by omega
            have HB2' := Lib.hid (HkN.out.trans (HBN.out.mono HkN.out.size))
            have hz4 := HBN.out.size
            have hz5 := HkN.out.size
            by_cases hlm : m < expF q
            · have hm1 : (m : Int) < 1 := by have := HE.out; omega
              have hpb := pow_le_6 hyb.1 hyb.2 (k := m + 1) (by omega)
              have hwy : IntKind.i64.wrap (y ^ m * y) = y ^ (m + 1) := by rw [show y ^ m * y = y ^ (m + 1) from (Int.pow_succ y m).symm]; exact IntWalk.i64_in _ (by omega)
              have zr3 : ∀ W, Below wr.heap.size wr W → _ ∧ _ ∧ _ ∧ _ := fun W hW => zr W (HB2'.out.trans (hW.mono HB2'.out.size))
              have zn : ∀ W, Below wr.heap.size wr W → W.cell? ⟨w.heap.size, 1, none⟩ = some (.int .i64 q.col) := fun W hW => (hW.cell (p := ⟨w.heap.size, 1, none⟩) (by show w.heap.size < _; omega)).trans ((HBN.out.cell (p := ⟨w.heap.size, 1, none⟩) lqN).trans n1)
              have lw3 : w.heap.size < wr.heap.size := by omega
              have lb3 : b2 < wr.heap.size := by omega
              clear zr zq' zc' br ba bc hpb
              have br : Below wr.heap.size wr wr := Below.refl _ _
              have ba : ∀ W o, Below wr.heap.size wr W → Below wr.heap.size wr (W.alloc o) := fun W o h => h.alloc h.size o
              have bc : ∀ W W', Below wr.heap.size wr W → Below W.heap.size W W' → Below wr.heap.size wr W' := fun W W' h k => h.trans (k.mono h.size)
              go_upto_region 21 with fail
              refine wp_region_noPanic ?_
              refine wp_region_held_drew (S := fun X => Below wr.heap.size wr X) (by kernel_rfl) ?_ (fun hHeld => ?_)
              · (first | with_reducible assumption | (with_reducible refine Below.drew ?_; with_reducible assumption) | (with_reducible refine ba _ _ ?_; with_reducible assumption) | (with_reducible refine Below.drew ?_; with_reducible refine ba _ _ ?_; with_reducible assumption) | exact Below.refl _ _ | exact (Below.refl _ _).drew | exact (Below.refl _ _).alloc (Nat.le_refl _) _ | (refine bc _ _ (by assumption) (by assumption)))
              refine RegOk.begin_ (n := 10) (T := ev6C) ⟨by kernel_rfl, by kernel_rfl, by kernel_rfl, by kernel_rfl⟩ fun hR => ?_
              refine hR.take (i := 0) (oi := ?ow632_0) (v := ?vw632_0) (m' := 1) ?hw632_0 (by kernel_rfl) (by kernel_rfl) (fun _ _ _ h => h) (Or.inl ⟨?sw632_0, ?yw632_0⟩) (by assumption) ?nw632_0
              case hw632_0 => simp only [List.getElem?_toArray, List.getElem?_cons_succ, List.getElem?_cons_zero]; rfl
              case sw632_0 => rfl
              case yw632_0 => (intro w hSw; (try dsimp only at hSw); go_simp <;> with_reducible rfl)
              try simp only [Act.put, List.setIfInBounds_toArray, List.set_cons_zero, List.set_cons_succ]
              refine hR.take (i := 1) (oi := ?ow633_1) (v := ?vw633_1) (m' := 3) ?hw633_1 (by kernel_rfl) (by kernel_rfl) (fun _ _ _ h => h) (Or.inl ⟨?sw633_1, ?yw633_1⟩) (by assumption) ?nw633_1
              case hw633_1 => simp only [List.getElem?_toArray, List.getElem?_cons_succ, List.getElem?_cons_zero]; rfl
              case sw633_1 => rfl
              case yw633_1 => (intro w hSw; (try dsimp only at hSw); go_simp <;> with_reducible rfl)
              try simp only [Act.put, List.setIfInBounds_toArray, List.set_cons_zero, List.set_cons_succ]
              refine hR.take (i := 2) (oi := ?ow634_2) (v := ?vw634_2) (m' := 7) ?hw634_2 (by kernel_rfl) (by kernel_rfl) (fun _ _ _ h => h) (Or.inl ⟨?sw634_2, ?yw634_2⟩) (by assumption) ?nw634_2
              case hw634_2 => simp only [List.getElem?_toArray, List.getElem?_cons_succ, List.getElem?_cons_zero]; rfl
              case sw634_2 => rfl
              case yw634_2 => (intro w hSw; (try dsimp only at hSw); go_simp <;> with_reducible rfl)
              try simp only [Act.put, List.setIfInBounds_toArray, List.set_cons_zero, List.set_cons_succ]
              refine hR.take (i := 3) (oi := ?ow635_3) (v := ?vw635_3) (m' := 15) ?hw635_3 (by kernel_rfl) (by kernel_rfl) (fun _ _ _ h => h) (Or.inl ⟨?sw635_3, ?yw635_3⟩) (by assumption) ?nw635_3
              case hw635_3 => simp only [List.getElem?_toArray, List.getElem?_cons_succ, List.getElem?_cons_zero]; rfl
              case sw635_3 => rfl
              case yw635_3 => (intro w hSw; (try dsimp only at hSw); go_simp <;> with_reducible rfl)
              try simp only [Act.put, List.setIfInBounds_toArray, List.set_cons_zero, List.set_cons_succ]
              refine hR.take (i := 4) (oi := ?ow636_4) (v := ?vw636_4) (m' := 31) ?hw636_4 (by kernel_rfl) (by kernel_rfl) (fun _ _ _ h => h) (Or.inl ⟨?sw636_4, ?yw636_4⟩) (by assumption) ?nw636_4
              case hw636_4 => simp only [List.getElem?_toArray, List.getElem?_cons_succ, List.getElem?_cons_zero]; rfl
              case sw636_4 => rfl
              case yw636_4 => (intro w hSw; (try dsimp only at hSw); go_simp <;> with_reducible rfl)
              try simp only [Act.put, List.setIfInBounds_toArray, List.set_cons_zero, List.set_cons_succ]
              refine hR.take (i := 5) (oi := ?ow637_5) (v := ?vw637_5) (m' := 63) ?hw637_5 (by kernel_rfl) (by kernel_rfl) (fun _ _ _ h => h) (Or.inl ⟨?sw637_5, ?yw637_5⟩) (by assumption) ?nw637_5
              case hw637_5 => simp only [List.getElem?_toArray, List.getElem?_cons_succ, List.getElem?_cons_zero]; rfl
              case sw637_5 => rfl
              case yw637_5 => (intro w hSw; (try dsimp only at hSw); go_simp <;> with_reducible rfl)
              try simp only [Act.put, List.setIfInBounds_toArray, List.set_cons_zero, List.set_cons_succ]
              refine hR.take (i := 6) (oi := ?ow638_6) (v := ?vw638_6) (m' := 127) ?hw638_6 (by kernel_rfl) (by kernel_rfl) (fun _ _ _ h => h) (Or.inl ⟨?sw638_6, ?yw638_6⟩) (by assumption) ?nw638_6
              case hw638_6 => simp only [List.getElem?_toArray, List.getElem?_cons_succ, List.getElem?_cons_zero]; rfl
              case sw638_6 => rfl
              case yw638_6 => (intro w hSw; (try dsimp only at hSw); go_simp <;> with_reducible rfl)
              try simp only [Act.put, List.setIfInBounds_toArray, List.set_cons_zero, List.set_cons_succ]
              refine hR.come (rs := [7]) (by kernel_rfl) (by simp) ?_
              refine AllReadyH.cons (o := ?o639_7) ?h639_7 (fun K hK => ?kw639_7) AllReadyH.nil
              case h639_7 => simp only [List.getElem?_toArray, List.getElem?_cons_succ, List.getElem?_cons_zero]; rfl
              go_simp
              go_at_call 24; refine (fieldI (r := r) _ hcol.1).mono ?_; rw [HY.out]; rintro e wF ⟨rfl, hF⟩; have hkF := bc _ _ (by (first | with_reducible assumption | (with_reducible refine Below.drew ?_; with_reducible assumption) | (with_reducible refine ba _ _ ?_; with_reducible assumption) | (with_reducible refine Below.drew ?_; with_reducible refine ba _ _ ?_; with_reducible assumption) | exact Below.refl _ _ | exact (Below.refl _ _).drew | exact (Below.refl _ _).alloc (Nat.le_refl _) _ | (refine bc _ _ (by assumption) (by assumption)))) hF
              refine hK.out _ _ ?_ (fun hHeld => ?_)
              · (first | with_reducible assumption | (with_reducible refine Below.drew ?_; with_reducible assumption) | (with_reducible refine ba _ _ ?_; with_reducible assumption) | (with_reducible refine Below.drew ?_; with_reducible refine ba _ _ ?_; with_reducible assumption) | exact Below.refl _ _ | exact (Below.refl _ _).drew | exact (Below.refl _ _).alloc (Nat.le_refl _) _ | (refine bc _ _ (by assumption) (by assumption)))
              clear hK K
              refine RegOk.put_ (m' := 255) (by kernel_rfl) ?_
              try simp only [Act.put, List.setIfInBounds_toArray, List.set_cons_zero, List.set_cons_succ]
              refine hR.take (i := 8) (oi := ?ow640_8) (v := ?vw640_8) (m' := 511) ?hw640_8 (by kernel_rfl) (by kernel_rfl) (fun _ _ _ h => h) (Or.inl ⟨?sw640_8, ?yw640_8⟩) (by assumption) ?nw640_8
              case hw640_8 => simp only [List.getElem?_toArray, List.getElem?_cons_succ, List.getElem?_cons_zero]; rfl
              case sw640_8 => rfl
              case yw640_8 => (intro w hSw; (try dsimp only at hSw); go_simp <;> with_reducible rfl)
              try simp only [Act.put, List.setIfInBounds_toArray, List.set_cons_zero, List.set_cons_succ]
              refine hR.take (i := 9) (oi := ?ow641_9) (v := ?vw641_9) (m' := 1023) ?hw641_9 (by kernel_rfl) (by kernel_rfl) (fun _ _ _ h => h) (Or.inl ⟨?sw641_9, ?yw641_9⟩) (by assumption) ?nw641_9
              case hw641_9 => simp only [List.getElem?_toArray, List.getElem?_cons_succ, List.getElem?_cons_zero]; rfl
              case sw641_9 => rfl
              case yw641_9 => (intro w hSw; (try dsimp only at hSw); go_simp <;> with_reducible rfl)
              try simp only [Act.put, List.setIfInBounds_toArray, List.set_cons_zero, List.set_cons_succ]
              refine hR.all (by kernel_rfl) ?_ _
              refine NoPanic.normal ?_
              go_wp2_with fail
              go_roundw
              case rel => exact ⟨m + 1, by omega, by go_num, by first | rfl | rw [hwy], Lib.hid (HBN.out.trans (Below.mono (by assumption) hz4))⟩
              case measure => simp [intOf]; omega
            · have hm1 : ¬ (m : Int) < 1 := by have := HE.out; omega
              obtain rfl : m = expF q := by omega
              go_wp2_with fail
              go_roundw
              case rel => exact ⟨j + 1, by omega, by go_num, by rw [HS.out, HT.out, HZ.out], Lib.hid (hbr.trans (HB2'.out.mono hlz))⟩
              case measure => simp [intOf]; omega
        · have e2 : (q.kind == 2) = false := by rw [k1]; rfl
          have e3 : (q.kind == 3) = true := by rw [k1]; rfl
          have HE := Lib.hid (show ((expF q : Nat) : Int) = q.k by
            have h0 := HKQ.out
            unfold expF
            rcases (by omega : q.kind = 1 ∨ q.kind = 2 ∨ q.kind = 3) with e | e | e <;> simp [e] <;> omega)
          obtain ⟨wo, hwo⟩ : ∃ x, x = wr := ⟨_, rfl⟩
          subst hwo
          clear k1
          go_wp2_with fail
          go_loopw [9, 11] (fun v i wr => ∃ m : Nat, m ≤ expF q ∧ i = .int .i64 m ∧ v = .int .i64 (y ^ m) ∧ Hid (Below wN.heap.size wN wr)) (fun _ i _ => expF q - (intOf i).toNat)
          case atStart => exact ⟨0, Nat.zero_le _, rfl, by simp, Lib.hid (Below.refl _ _)⟩
          case round =>
            obtain ⟨m, hm, rfl, rfl, HBN⟩ := hrel
            have hm0 : (0 : Int) ≤ (m : Int) := by omega
            have HB2' := Lib.hid (HkN.out.trans (HBN.out.mono HkN.out.size))
            have hz4 := HBN.out.size
            have hz5 := HkN.out.size
            by_cases hlm : m < expF q
            · have hm1 : (m : Int) < q.k := by have := HE.out; omega
              have hpb := pow_le_6 hyb.1 hyb.2 (k := m + 1) (by omega)
              have hwy : IntKind.i64.wrap (y ^ m * y) = y ^ (m + 1) := by rw [show y ^ m * y = y ^ (m + 1) from (Int.pow_succ y m).symm]; exact IntWalk.i64_in _ (by omega)
              have zr3 : ∀ W, Below wr.heap.size wr W → _ ∧ _ ∧ _ ∧ _ := fun W hW => zr W (HB2'.out.trans (hW.mono HB2'.out.size))
              have zn : ∀ W, Below wr.heap.size wr W → W.cell? ⟨w.heap.size, 1, none⟩ = some (.int .i64 q.col) := fun W hW => (hW.cell (p := ⟨w.heap.size, 1, none⟩) (by show w.heap.size < _; omega)).trans ((HBN.out.cell (p := ⟨w.heap.size, 1, none⟩) lqN).trans n1)
              have lw3 : w.heap.size < wr.heap.size := by omega
              have lb3 : b2 < wr.heap.size := by omega
              clear zr zq' zc' br ba bc hpb
              have br : Below wr.heap.size wr wr := Below.refl _ _
              have ba : ∀ W o, Below wr.heap.size wr W → Below wr.heap.size wr (W.alloc o) := fun W o h => h.alloc h.size o
              have bc : ∀ W W', Below wr.heap.size wr W → Below W.heap.size W W' → Below wr.heap.size wr W' := fun W W' h k => h.trans (k.mono h.size)
              go_upto_region 21 with fail
              refine wp_region_noPanic ?_
              refine wp_region_held_drew (S := fun X => Below wr.heap.size wr X) (by kernel_rfl) ?_ (fun hHeld => ?_)
              · (first | with_reducible assumption | (with_reducible refine Below.drew ?_; with_reducible assumption) | (with_reducible refine ba _ _ ?_; with_reducible assumption) | (with_reducible refine Below.drew ?_; with_reducible refine ba _ _ ?_; with_reducible assumption) | exact Below.refl _ _ | exact (Below.refl _ _).drew | exact (Below.refl _ _).alloc (Nat.le_refl _) _ | (refine bc _ _ (by assumption) (by assumption)))
              refine RegOk.begin_ (n := 10) (T := ev6C) ⟨by kernel_rfl, by kernel_rfl, by kernel_rfl, by kernel_rfl⟩ fun hR => ?_
              refine hR.take (i := 0) (oi := ?ow642_0) (v := ?vw642_0) (m' := 1) ?hw642_0 (by kernel_rfl) (by kernel_rfl) (fun _ _ _ h => h) (Or.inl ⟨?sw642_0, ?yw642_0⟩) (by assumption) ?nw642_0
              case hw642_0 => simp only [List.getElem?_toArray, List.getElem?_cons_succ, List.getElem?_cons_zero]; rfl
              case sw642_0 => rfl
              case yw642_0 => (intro w hSw; (try dsimp only at hSw); go_simp <;> with_reducible rfl)
              try simp only [Act.put, List.setIfInBounds_toArray, List.set_cons_zero, List.set_cons_succ]
              refine hR.take (i := 1) (oi := ?ow643_1) (v := ?vw643_1) (m' := 3) ?hw643_1 (by kernel_rfl) (by kernel_rfl) (fun _ _ _ h => h) (Or.inl ⟨?sw643_1, ?yw643_1⟩) (by assumption) ?nw643_1
              case hw643_1 => simp only [List.getElem?_toArray, List.getElem?_cons_succ, List.getElem?_cons_zero]; rfl
              case sw643_1 => rfl
              case yw643_1 => (intro w hSw; (try dsimp only at hSw); go_simp <;> with_reducible rfl)
              try simp only [Act.put, List.setIfInBounds_toArray, List.set_cons_zero, List.set_cons_succ]
              refine hR.take (i := 2) (oi := ?ow644_2) (v := ?vw644_2) (m' := 7) ?hw644_2 (by kernel_rfl) (by kernel_rfl) (fun _ _ _ h => h) (Or.inl ⟨?sw644_2, ?yw644_2⟩) (by assumption) ?nw644_2
              case hw644_2 => simp only [List.getElem?_toArray, List.getElem?_cons_succ, List.getElem?_cons_zero]; rfl
              case sw644_2 => rfl
              case yw644_2 => (intro w hSw; (try dsimp only at hSw); go_simp <;> with_reducible rfl)
              try simp only [Act.put, List.setIfInBounds_toArray, List.set_cons_zero, List.set_cons_succ]
              refine hR.take (i := 3) (oi := ?ow645_3) (v := ?vw645_3) (m' := 15) ?hw645_3 (by kernel_rfl) (by kernel_rfl) (fun _ _ _ h => h) (Or.inl ⟨?sw645_3, ?yw645_3⟩) (by assumption) ?nw645_3
              case hw645_3 => simp only [List.getElem?_toArray, List.getElem?_cons_succ, List.getElem?_cons_zero]; rfl
              case sw645_3 => rfl
              case yw645_3 => (intro w hSw; (try dsimp only at hSw); go_simp <;> with_reducible rfl)
              try simp only [Act.put, List.setIfInBounds_toArray, List.set_cons_zero, List.set_cons_succ]
              refine hR.take (i := 4) (oi := ?ow646_4) (v := ?vw646_4) (m' := 31) ?hw646_4 (by kernel_rfl) (by kernel_rfl) (fun _ _ _ h => h) (Or.inl ⟨?sw646_4, ?yw646_4⟩) (by assumption) ?nw646_4
              case hw646_4 => simp only [List.getElem?_toArray, List.getElem?_cons_succ, List.getElem?_cons_zero]; rfl
              case sw646_4 => rfl
              case yw646_4 => (intro w hSw; (try dsimp only at hSw); go_simp <;> with_reducible rfl)
              try simp only [Act.put, List.setIfInBounds_toArray, List.set_cons_zero, List.set_cons_succ]
              refine hR.take (i := 5) (oi := ?ow647_5) (v := ?vw647_5) (m' := 63) ?hw647_5 (by kernel_rfl) (by kernel_rfl) (fun _ _ _ h => h) (Or.inl ⟨?sw647_5, ?yw647_5⟩) (by assumption) ?nw647_5
              case hw647_5 => simp only [List.getElem?_toArray, List.getElem?_cons_succ, List.getElem?_cons_zero]; rfl
              case sw647_5 => rfl
              case yw647_5 => (intro w hSw; (try dsimp only at hSw); go_simp <;> with_reducible rfl)
              try simp only [Act.put, List.setIfInBounds_toArray, List.set_cons_zero, List.set_cons_succ]
              refine hR.take (i := 6) (oi := ?ow648_6) (v := ?vw648_6) (m' := 127) ?hw648_6 (by kernel_rfl) (by kernel_rfl) (fun _ _ _ h => h) (Or.inl ⟨?sw648_6, ?yw648_6⟩) (by assumption) ?nw648_6
              case hw648_6 => simp only [List.getElem?_toArray, List.getElem?_cons_succ, List.getElem?_cons_zero]; rfl
              case sw648_6 => rfl
              case yw648_6 => (intro w hSw; (try dsimp only at hSw); go_simp <;> with_reducible rfl)
              try simp only [Act.put, List.setIfInBounds_toArray, List.set_cons_zero, List.set_cons_succ]
              refine hR.come (rs := [7]) (by kernel_rfl) (by simp) ?_
              refine AllReadyH.cons (o := ?o649_7) ?h649_7 (fun K hK => ?kw649_7) AllReadyH.nil
              case h649_7 => simp only [List.getElem?_toArray, List.getElem?_cons_succ, List.getElem?_cons_zero]; rfl
              go_simp
              go_at_call 24; refine (fieldI (r := r) _ hcol.1).mono ?_; rw [HY.out]; rintro e wF ⟨rfl, hF⟩; have hkF := bc _ _ (by (first | with_reducible assumption | (with_reducible refine Below.drew ?_; with_reducible assumption) | (with_reducible refine ba _ _ ?_; with_reducible assumption) | (with_reducible refine Below.drew ?_; with_reducible refine ba _ _ ?_; with_reducible assumption) | exact Below.refl _ _ | exact (Below.refl _ _).drew | exact (Below.refl _ _).alloc (Nat.le_refl _) _ | (refine bc _ _ (by assumption) (by assumption)))) hF
              refine hK.out _ _ ?_ (fun hHeld => ?_)
              · (first | with_reducible assumption | (with_reducible refine Below.drew ?_; with_reducible assumption) | (with_reducible refine ba _ _ ?_; with_reducible assumption) | (with_reducible refine Below.drew ?_; with_reducible refine ba _ _ ?_; with_reducible assumption) | exact Below.refl _ _ | exact (Below.refl _ _).drew | exact (Below.refl _ _).alloc (Nat.le_refl _) _ | (refine bc _ _ (by assumption) (by assumption)))
              clear hK K
              refine RegOk.put_ (m' := 255) (by kernel_rfl) ?_
              try simp only [Act.put, List.setIfInBounds_toArray, List.set_cons_zero, List.set_cons_succ]
              refine hR.take (i := 8) (oi := ?ow650_8) (v := ?vw650_8) (m' := 511) ?hw650_8 (by kernel_rfl) (by kernel_rfl) (fun _ _ _ h => h) (Or.inl ⟨?sw650_8, ?yw650_8⟩) (by assumption) ?nw650_8
              case hw650_8 => simp only [List.getElem?_toArray, List.getElem?_cons_succ, List.getElem?_cons_zero]; rfl
              case sw650_8 => rfl
              case yw650_8 => (intro w hSw; (try dsimp only at hSw); go_simp <;> with_reducible rfl)
              try simp only [Act.put, List.setIfInBounds_toArray, List.set_cons_zero, List.set_cons_succ]
              refine hR.take (i := 9) (oi := ?ow651_9) (v := ?vw651_9) (m' := 1023) ?hw651_9 (by kernel_rfl) (by kernel_rfl) (fun _ _ _ h => h) (Or.inl ⟨?sw651_9, ?yw651_9⟩) (by assumption) ?nw651_9
              case hw651_9 => simp only [List.getElem?_toArray, List.getElem?_cons_succ, List.getElem?_cons_zero]; rfl
              case sw651_9 => rfl
              case yw651_9 => (intro w hSw; (try dsimp only at hSw); go_simp <;> with_reducible rfl)
              try simp only [Act.put, List.setIfInBounds_toArray, List.set_cons_zero, List.set_cons_succ]
              refine hR.all (by kernel_rfl) ?_ _
              refine NoPanic.normal ?_
              go_wp2_with fail
              go_roundw
              case rel => exact ⟨m + 1, by omega, by go_num, by first | rfl | rw [hwy], Lib.hid (HBN.out.trans (Below.mono (by assumption) hz4))⟩
              case measure => simp [intOf]; omega
            · have hm1 : ¬ (m : Int) < q.k := by have := HE.out; omega
              obtain rfl : m = expF q := by omega
              go_wp2_with fail
              go_roundw
              case rel => exact ⟨j + 1, by omega, by go_num, by rw [HS.out, HT.out, HZ.out], Lib.hid (hbr.trans (HB2'.out.mono hlz))⟩
              case measure => simp [intOf]; omega
    · have hj1 : ¬ (j : Int) < (l.length : Int) := by omega
      obtain rfl : j = l.length := by omega
      rw [List.take_length]
      have B9 := Lib.hid (B2.out.trans (HB.out.mono B2.out.size))
      go_wp2_with fail
      go_ret
      rw [HSM.out]
      exact ⟨some ⟨wr.heap.size, 0, none⟩, 1, rfl, Sl.ofRow (cs := [.int .i64 (totalF q l 0)]) (heap_alloc_at rfl) (.single rfl) B9.out.size (by unfold maxLen; simp), B9.out.alloc B9.out.size _⟩
end Go.Proofs.YtmkpaolbejlodaaDoor
