/-
  Texts of this claim, merged: Q6. Conditions: as each theorem says.
-/
import Derived.Test.YtmkpaolbejlodaaDoorC1
import Derived.Test.YtmkpaolbejlodaaDoorC2
import Derived.Test.YtmkpaolbejlodaaDoorC3
import Derived.Test.YtmkpaolbejlodaaDoorC4
set_option linter.unusedSimpArgs false
set_option linter.unusedVariables false
namespace Go.Proofs.YtmkpaolbejlodaaDoor
open Go.RowKit

def q6A : List FRow := [(0, ([], (35, [1]))), (1, ([0], (36, [34]))), (2, ([1], (37, [35]))), (3, ([2], (38, [36]))), (4, ([3], (39, [1, 37]))), (5, ([4, 3], (40, [38, 37]))), (6, ([3], (41, [1, 37]))), (7, ([6, 3], (42, [40, 37]))), (8, ([7, 3, 3], (43, [41, 37]))), (9, ([5, 8, 3], (44, [39, 42, 37]))), (10, ([3, 9], (45, [37, 43]))), (11, ([10, 8], (46, [44]))), (12, ([11], (47, [1, 45]))), (13, ([12, 11], (48, [46, 45]))), (14, ([13, 11, 11], (49, [47, 45]))), (15, ([14, 11], (50, [48, 45]))), (16, ([15, 14, 11], (51, [49, 45]))), (17, ([16], (52, [1, 50]))), (18, ([17, 16], (53, [51, 50]))), (19, ([18, 16], (54, [52, 50]))), (20, ([16, 19, 11], (55, [50, 53, 45]))), (21, ([11, 20], (56, [45, 54])))]
set_option maxRecDepth 100000 in
set_option maxHeartbeats 8000000 in
theorem validRef {q : Qy} {A : Option Addr} {c : Nat} {S : Nat → Prop} (w : World) (h : Sl cdE.slice S w A c q.fs) :
    Calls Tryd.prog 42 #[(.agg #[.int .i64 q.kind, .int .i64 q.col, .int .i64 q.k, .slice A q.fs.length c])] w fun e w' => e = .returned (.bool (validQB q)) ∧ Below w.heap.size w w' := by
  have H := Lib.hid h
  have hm := h.max
  clear h
  go_enter Tryd.func42, Tryd.ntmps42
  go_upto_region 1 with fail
  refine wp_world (F := fun wx => Below w.heap.size w wx ∧ Hid (wx.heap[w.heap.size]? = some (.cells #[.int .i64 q.kind, .int .i64 q.col, .int .i64 q.k, .slice A q.fs.length c] 24 (0, 0)))) ⟨(Below.refl _ _).alloc (Nat.le_refl _) _, Lib.hid (heap_alloc_at rfl)⟩ ?_
  rintro wr ⟨bb, gq⟩
  have b0 := Lib.hid bb
  replace H := Lib.hid (H.out.keep (Below.agree bb))
  clear bb
  obtain ⟨x0, x1, x2, x3⟩ := row4 gq
  obtain ⟨hc, hhc⟩ : ∃ hc, hasColB q.kind = hc := ⟨_, rfl⟩
  have hhc' : hc = true ↔ (2 ≤ q.kind ∧ q.kind ≤ 6) := by rw [← hhc]; simp [hasColB]
  have Hhc := Lib.hid hhc'
  clear hhc'
  by_cases c1 : q.kind < 1
  · have hv := Lib.hid (not_head (q := q) fun h => by have := h.1; omega)
    (clear gq H; go_wp2_with (first | (go_at_call 40; refine (hasColRef _ _).mono ?_; rw [hhc]; rintro e w2 ⟨rfl, rfl⟩)); go_ret; exact ⟨ret_b hv.out.symm, b0.out⟩)
  by_cases c2 : 7 < q.kind
  · have hv := Lib.hid (not_head (q := q) fun h => by have := h.1; omega)
    (clear gq H; go_wp2_with (first | (go_at_call 40; refine (hasColRef _ _).mono ?_; rw [hhc]; rintro e w2 ⟨rfl, rfl⟩)); go_ret; exact ⟨ret_b hv.out.symm, b0.out⟩)
  by_cases c3 : q.col < 0
  · have hv := Lib.hid (not_head (q := q) fun h => by have := h.2.1; omega)
    (clear gq H; go_wp2_with (first | (go_at_call 40; refine (hasColRef _ _).mono ?_; rw [hhc]; rintro e w2 ⟨rfl, rfl⟩)); go_ret; exact ⟨ret_b hv.out.symm, b0.out⟩)
  by_cases c4 : 3 < q.col
  · have hv := Lib.hid (not_head (q := q) fun h => by have := h.2.1; omega)
    (clear gq H; go_wp2_with (first | (go_at_call 40; refine (hasColRef _ _).mono ?_; rw [hhc]; rintro e w2 ⟨rfl, rfl⟩)); go_ret; exact ⟨ret_b hv.out.symm, b0.out⟩)
  have f1 : decide (q.kind < 1) = false := decide_eq_false c1
  have f2 : decide (7 < q.kind) = false := decide_eq_false c2
  have f3 : decide (q.col < 0) = false := decide_eq_false c3
  have f4 : decide (3 < q.col) = false := decide_eq_false c4
  by_cases c5 : q.col = 0 ∨ hc = true
  rotate_left
  · have hv := Lib.hid (not_head (q := q) fun h => by
      rcases h.2.2.1 with h | h
      · exact c5 (.inl h)
      · exact c5 (.inr (Hhc.out.2 h)))
    have f5 : (q.col != 0) = true := by simp; omega
    have f6 : hc = false := by simpa using fun h => c5 (.inr h)
    clear c5
    subst f6
    (clear gq H; go_wp2_with (first | (go_at_call 40; refine (hasColRef _ _).mono ?_; rw [hhc]; rintro e w2 ⟨rfl, rfl⟩)); go_ret; exact ⟨ret_b hv.out.symm, b0.out⟩)
  have HK : Hid ((1 ≤ q.kind ∧ q.kind ≤ 7) ∧ (0 ≤ q.col ∧ q.col ≤ 3) ∧ (q.col = 0 ∨ (2 ≤ q.kind ∧ q.kind ≤ 6))) := Lib.hid ⟨by omega, by omega, c5.imp id (fun h => Hhc.out.1 h)⟩
  obtain ⟨mk, hmk⟩ : ∃ mk, maxKF q.kind = mk := ⟨_, rfl⟩
  have hmk3 : (0 < mk ∧ (q.kind = 3 ∨ q.kind = 6)) ∨ (mk = 0 ∧ ¬ (q.kind = 3 ∨ q.kind = 6)) := by
    rw [← hmk]; unfold maxKF
    split
    · omega
    · split <;> omega
  have Hmk := Lib.hid hmk
  have zq : ∀ W, Below wr.heap.size wr W → _ ∧ _ ∧ _ ∧ _ := fun W hW => row4 (mvQ gq hW)
  have br : Below wr.heap.size wr wr := Below.refl _ _
  have ba : ∀ W o, Below wr.heap.size wr W → Below wr.heap.size wr (W.alloc o) := fun W o h => h.alloc h.size o
  have bc : ∀ W W', Below wr.heap.size wr W → Below W.heap.size W W' → Below wr.heap.size wr W' := fun W W' h k => h.trans (k.mono h.size)
  clear hmk
  go_cut [33] (fun v wx => v = .bool false ∧ wx = wr)
  case first =>
    by_cases h0 : q.col = 0
    · have f5 : (q.col != 0) = false := by simp [h0]
      clear h0 c5
      go_wp2_with fail
      go_meet
      exact ⟨rfl, rfl⟩
    · have f5 : (q.col != 0) = true := by simp [h0]
      have f6 : hc = true := c5.resolve_left h0
      subst f6
      clear h0 c5
      go_wp2_with (go_at_call 40; refine (hasColRef _ _).mono ?_; rw [hhc]; rintro e w2 ⟨rfl, rfl⟩)
      go_meet
      exact ⟨rfl, rfl⟩
  case rest =>
    obtain ⟨rfl, rfl⟩ := hcut
    have zq : ∀ W, Below wc.heap.size wc W → _ ∧ _ ∧ _ ∧ _ := fun W hW => row4 (mvQ gq hW)
    have br : Below wc.heap.size wc wc := Below.refl _ _
    have ba : ∀ W o, Below wc.heap.size wc W → Below wc.heap.size wc (W.alloc o) := fun W o h => h.alloc h.size o
    have bc : ∀ W W', Below wc.heap.size wc W → Below W.heap.size W W' → Below wc.heap.size wc W' := fun W W' h k => h.trans (k.mono h.size)
    clear c1 c2 c3 c4 c5 f1 f2 f3 f4 Hhc x0 x1 x2 x3
    go_upto_region 3 with fail
    by_cases k1 : q.k < 0
    · have hv := Lib.hid (not_head (q := q) fun h => by have := h.2.2.2.1; omega)
      have g1 : (q.k < 0) = True := eq_true k1
      refine wp_region_noPanic ?_
      refine wp_region_held_drew (S := fun X => Below wc.heap.size wc X) (by kernel_rfl) ?_ (fun hHeld => ?_)
      · (first | with_reducible assumption | (with_reducible refine Below.drew ?_; with_reducible assumption) | (with_reducible refine ba _ _ ?_; with_reducible assumption) | (with_reducible refine Below.drew ?_; with_reducible refine ba _ _ ?_; with_reducible assumption) | exact Below.refl _ _ | exact (Below.refl _ _).drew | exact (Below.refl _ _).alloc (Nat.le_refl _) _ | (refine bc _ _ (by assumption) (by assumption)))
      refine RegOk.begin_ (n := 22) (T := q6A) ⟨by kernel_rfl, by kernel_rfl, by kernel_rfl, by kernel_rfl⟩ fun hR => ?_
      refine hR.take (i := 0) (oi := ?ow311_0) (v := ?vw311_0) (m' := 1) ?hw311_0 (by kernel_rfl) (by kernel_rfl) (fun _ _ _ h => h) (Or.inl ⟨?sw311_0, ?yw311_0⟩) (by assumption) ?nw311_0
      case hw311_0 => simp only [List.getElem?_toArray, List.getElem?_cons_succ, List.getElem?_cons_zero]; rfl
      case sw311_0 => rfl
      case yw311_0 => (intro w hSw; (try dsimp only at hSw); go_simp <;> with_reducible rfl)
      try simp only [Act.put, List.setIfInBounds_toArray, List.set_cons_zero, List.set_cons_succ]
      refine hR.take (i := 1) (oi := ?ow312_1) (v := ?vw312_1) (m' := 3) ?hw312_1 (by kernel_rfl) (by kernel_rfl) (fun _ _ _ h => h) (Or.inl ⟨?sw312_1, ?yw312_1⟩) (by assumption) ?nw312_1
      case hw312_1 => simp only [List.getElem?_toArray, List.getElem?_cons_succ, List.getElem?_cons_zero]; rfl
      case sw312_1 => rfl
      case yw312_1 => (intro w hSw; (try dsimp only at hSw); go_simp <;> with_reducible rfl)
      try simp only [Act.put, List.setIfInBounds_toArray, List.set_cons_zero, List.set_cons_succ]
      refine hR.take (i := 2) (oi := ?ow313_2) (v := ?vw313_2) (m' := 7) ?hw313_2 (by kernel_rfl) (by kernel_rfl) (fun _ _ _ h => h) (Or.inl ⟨?sw313_2, ?yw313_2⟩) (by assumption) ?nw313_2
      case hw313_2 => simp only [List.getElem?_toArray, List.getElem?_cons_succ, List.getElem?_cons_zero]; rfl
      case sw313_2 => rfl
      case yw313_2 => (intro w hSw; (try dsimp only at hSw); go_simp <;> with_reducible rfl)
      try simp only [Act.put, List.setIfInBounds_toArray, List.set_cons_zero, List.set_cons_succ]
      refine hR.take (i := 3) (oi := ?ow314_3) (v := ?vw314_3) (m' := 15) ?hw314_3 (by kernel_rfl) (by kernel_rfl) (fun _ _ _ h => h) (Or.inl ⟨?sw314_3, ?yw314_3⟩) (by assumption) ?nw314_3
      case hw314_3 => simp only [List.getElem?_toArray, List.getElem?_cons_succ, List.getElem?_cons_zero]; rfl
      case sw314_3 => rfl
      case yw314_3 => (intro w hSw; (try dsimp only at hSw); go_simp <;> with_reducible rfl)
      try simp only [Act.put, List.setIfInBounds_toArray, List.set_cons_zero, List.set_cons_succ]
      refine hR.take (i := 4) (oi := ?ow315_4) (v := ?vw315_4) (m' := 31) ?hw315_4 (by kernel_rfl) (by kernel_rfl) (fun _ _ _ h => h) (Or.inr ⟨?sw315_4, ?yw315_4⟩) (by assumption) ?nw315_4
      case hw315_4 => simp only [List.getElem?_toArray, List.getElem?_cons_succ, List.getElem?_cons_zero]; rfl
      case sw315_4 => rfl
      case yw315_4 => rfl
      try simp only [Act.put, List.setIfInBounds_toArray, List.set_cons_zero, List.set_cons_succ]
      refine hR.take (i := 5) (oi := ?ow316_5) (v := ?vw316_5) (m' := 63) ?hw316_5 (by kernel_rfl) (by kernel_rfl) (fun _ _ _ h => h) (Or.inr ⟨?sw316_5, ?yw316_5⟩) (by assumption) ?nw316_5
      case hw316_5 => simp only [List.getElem?_toArray, List.getElem?_cons_succ, List.getElem?_cons_zero]; rfl
      case sw316_5 => rfl
      case yw316_5 => rfl
      try simp only [Act.put, List.setIfInBounds_toArray, List.set_cons_zero, List.set_cons_succ]
      refine hR.take (i := 6) (oi := ?ow317_6) (v := ?vw317_6) (m' := 127) ?hw317_6 (by kernel_rfl) (by kernel_rfl) (fun _ _ _ h => h) (Or.inr ⟨?sw317_6, ?yw317_6⟩) (by assumption) ?nw317_6
      case hw317_6 => simp only [List.getElem?_toArray, List.getElem?_cons_succ, List.getElem?_cons_zero]; rfl
      case sw317_6 => rfl
      case yw317_6 => rfl
      try simp only [Act.put, List.setIfInBounds_toArray, List.set_cons_zero, List.set_cons_succ]
      refine hR.take (i := 7) (oi := ?ow318_7) (v := ?vw318_7) (m' := 255) ?hw318_7 (by kernel_rfl) (by kernel_rfl) (fun _ _ _ h => h) (Or.inr ⟨?sw318_7, ?yw318_7⟩) (by assumption) ?nw318_7
      case hw318_7 => simp only [List.getElem?_toArray, List.getElem?_cons_succ, List.getElem?_cons_zero]; rfl
      case sw318_7 => rfl
      case yw318_7 => rfl
      try simp only [Act.put, List.setIfInBounds_toArray, List.set_cons_zero, List.set_cons_succ]
      refine hR.take (i := 8) (oi := ?ow319_8) (v := ?vw319_8) (m' := 511) ?hw319_8 (by kernel_rfl) (by kernel_rfl) (fun _ _ _ h => h) (Or.inr ⟨?sw319_8, ?yw319_8⟩) (by assumption) ?nw319_8
      case hw319_8 => simp only [List.getElem?_toArray, List.getElem?_cons_succ, List.getElem?_cons_zero]; rfl
      case sw319_8 => rfl
      case yw319_8 => rfl
      try simp only [Act.put, List.setIfInBounds_toArray, List.set_cons_zero, List.set_cons_succ]
      refine hR.take (i := 9) (oi := ?ow320_9) (v := ?vw320_9) (m' := 1023) ?hw320_9 (by kernel_rfl) (by kernel_rfl) (fun _ _ _ h => h) (Or.inr ⟨?sw320_9, ?yw320_9⟩) (by assumption) ?nw320_9
      case hw320_9 => simp only [List.getElem?_toArray, List.getElem?_cons_succ, List.getElem?_cons_zero]; rfl
      case sw320_9 => rfl
      case yw320_9 => rfl
      try simp only [Act.put, List.setIfInBounds_toArray, List.set_cons_zero, List.set_cons_succ]
      refine hR.take (i := 10) (oi := ?ow321_10) (v := ?vw321_10) (m' := 2047) ?hw321_10 (by kernel_rfl) (by kernel_rfl) (fun _ _ _ h => h) (Or.inl ⟨?sw321_10, ?yw321_10⟩) (by assumption) ?nw321_10
      case hw321_10 => simp only [List.getElem?_toArray, List.getElem?_cons_succ, List.getElem?_cons_zero]; rfl
      case sw321_10 => rfl
      case yw321_10 => (intro w hSw; (try dsimp only at hSw); go_simp <;> with_reducible rfl)
      try simp only [Act.put, List.setIfInBounds_toArray, List.set_cons_zero, List.set_cons_succ]
      refine hR.take (i := 11) (oi := ?ow322_11) (v := ?vw322_11) (m' := 4095) ?hw322_11 (by kernel_rfl) (by kernel_rfl) (fun _ _ _ h => h) (Or.inl ⟨?sw322_11, ?yw322_11⟩) (by assumption) ?nw322_11
      case hw322_11 => simp only [List.getElem?_toArray, List.getElem?_cons_succ, List.getElem?_cons_zero]; rfl
      case sw322_11 => rfl
      case yw322_11 => (intro w hSw; (try dsimp only at hSw); go_simp <;> with_reducible rfl)
      try simp only [Act.put, List.setIfInBounds_toArray, List.set_cons_zero, List.set_cons_succ]
      refine hR.take (i := 12) (oi := ?ow323_12) (v := ?vw323_12) (m' := 8191) ?hw323_12 (by kernel_rfl) (by kernel_rfl) (fun _ _ _ h => h) (Or.inr ⟨?sw323_12, ?yw323_12⟩) (by assumption) ?nw323_12
      case hw323_12 => simp only [List.getElem?_toArray, List.getElem?_cons_succ, List.getElem?_cons_zero]; rfl
      case sw323_12 => rfl
      case yw323_12 => rfl
      try simp only [Act.put, List.setIfInBounds_toArray, List.set_cons_zero, List.set_cons_succ]
      refine hR.take (i := 13) (oi := ?ow324_13) (v := ?vw324_13) (m' := 16383) ?hw324_13 (by kernel_rfl) (by kernel_rfl) (fun _ _ _ h => h) (Or.inr ⟨?sw324_13, ?yw324_13⟩) (by assumption) ?nw324_13
      case hw324_13 => simp only [List.getElem?_toArray, List.getElem?_cons_succ, List.getElem?_cons_zero]; rfl
      case sw324_13 => rfl
      case yw324_13 => rfl
      try simp only [Act.put, List.setIfInBounds_toArray, List.set_cons_zero, List.set_cons_succ]
      refine hR.take (i := 14) (oi := ?ow325_14) (v := ?vw325_14) (m' := 32767) ?hw325_14 (by kernel_rfl) (by kernel_rfl) (fun _ _ _ h => h) (Or.inr ⟨?sw325_14, ?yw325_14⟩) (by assumption) ?nw325_14
      case hw325_14 => simp only [List.getElem?_toArray, List.getElem?_cons_succ, List.getElem?_cons_zero]; rfl
      case sw325_14 => rfl
      case yw325_14 => rfl
      try simp only [Act.put, List.setIfInBounds_toArray, List.set_cons_zero, List.set_cons_succ]
      refine hR.take (i := 15) (oi := ?ow326_15) (v := ?vw326_15) (m' := 65535) ?hw326_15 (by kernel_rfl) (by kernel_rfl) (fun _ _ _ h => h) (Or.inr ⟨?sw326_15, ?yw326_15⟩) (by assumption) ?nw326_15
      case hw326_15 => simp only [List.getElem?_toArray, List.getElem?_cons_succ, List.getElem?_cons_zero]; rfl
      case sw326_15 => rfl
      case yw326_15 => rfl
      try simp only [Act.put, List.setIfInBounds_toArray, List.set_cons_zero, List.set_cons_succ]
      refine hR.take (i := 16) (oi := ?ow327_16) (v := ?vw327_16) (m' := 131071) ?hw327_16 (by kernel_rfl) (by kernel_rfl) (fun _ _ _ h => h) (Or.inr ⟨?sw327_16, ?yw327_16⟩) (by assumption) ?nw327_16
      case hw327_16 => simp only [List.getElem?_toArray, List.getElem?_cons_succ, List.getElem?_cons_zero]; rfl
      case sw327_16 => rfl
      case yw327_16 => rfl
      try simp only [Act.put, List.setIfInBounds_toArray, List.set_cons_zero, List.set_cons_succ]
      refine hR.take (i := 17) (oi := ?ow328_17) (v := ?vw328_17) (m' := 262143) ?hw328_17 (by kernel_rfl) (by kernel_rfl) (fun _ _ _ h => h) (Or.inr ⟨?sw328_17, ?yw328_17⟩) (by assumption) ?nw328_17
      case hw328_17 => simp only [List.getElem?_toArray, List.getElem?_cons_succ, List.getElem?_cons_zero]; rfl
      case sw328_17 => rfl
      case yw328_17 => rfl
      try simp only [Act.put, List.setIfInBounds_toArray, List.set_cons_zero, List.set_cons_succ]
      refine hR.take (i := 18) (oi := ?ow329_18) (v := ?vw329_18) (m' := 524287) ?hw329_18 (by kernel_rfl) (by kernel_rfl) (fun _ _ _ h => h) (Or.inr ⟨?sw329_18, ?yw329_18⟩) (by assumption) ?nw329_18
      case hw329_18 => simp only [List.getElem?_toArray, List.getElem?_cons_succ, List.getElem?_cons_zero]; rfl
      case sw329_18 => rfl
      case yw329_18 => rfl
      try simp only [Act.put, List.setIfInBounds_toArray, List.set_cons_zero, List.set_cons_succ]
      refine hR.take (i := 19) (oi := ?ow330_19) (v := ?vw330_19) (m' := 1048575) ?hw330_19 (by kernel_rfl) (by kernel_rfl) (fun _ _ _ h => h) (Or.inr ⟨?sw330_19, ?yw330_19⟩) (by assumption) ?nw330_19
      case hw330_19 => simp only [List.getElem?_toArray, List.getElem?_cons_succ, List.getElem?_cons_zero]; rfl
      case sw330_19 => rfl
      case yw330_19 => rfl
      try simp only [Act.put, List.setIfInBounds_toArray, List.set_cons_zero, List.set_cons_succ]
      refine hR.take (i := 20) (oi := ?ow331_20) (v := ?vw331_20) (m' := 2097151) ?hw331_20 (by kernel_rfl) (by kernel_rfl) (fun _ _ _ h => h) (Or.inr ⟨?sw331_20, ?yw331_20⟩) (by assumption) ?nw331_20
      case hw331_20 => simp only [List.getElem?_toArray, List.getElem?_cons_succ, List.getElem?_cons_zero]; rfl
      case sw331_20 => rfl
      case yw331_20 => rfl
      try simp only [Act.put, List.setIfInBounds_toArray, List.set_cons_zero, List.set_cons_succ]
      refine hR.take (i := 21) (oi := ?ow332_21) (v := ?vw332_21) (m' := 4194303) ?hw332_21 (by kernel_rfl) (by kernel_rfl) (fun _ _ _ h => h) (Or.inl ⟨?sw332_21, ?yw332_21⟩) (by assumption) ?nw332_21
      case hw332_21 => simp only [List.getElem?_toArray, List.getElem?_cons_succ, List.getElem?_cons_zero]; rfl
      case sw332_21 => rfl
      case yw332_21 => (intro w hSw; (try dsimp only at hSw); go_simp <;> with_reducible rfl)
      try simp only [Act.put, List.setIfInBounds_toArray, List.set_cons_zero, List.set_cons_succ]
      refine hR.all (by kernel_rfl) ?_ _
      refine NoPanic.normal ?_
      go_wp2_with fail
      go_ret
      exact ⟨ret_b hv.out.symm, b0.out.drew⟩
    have g1 : (q.k < 0) = False := eq_false k1
    by_cases k2 : mk < q.k
    · have hv := Lib.hid (not_head (q := q) fun h => by have := h.2.2.2.2.1; rw [Hmk.out] at this; omega)
      have g2 : (mk < q.k) = True := eq_true k2
      refine wp_region_noPanic ?_
      refine wp_region_held_drew (S := fun X => Below wc.heap.size wc X) (by kernel_rfl) ?_ (fun hHeld => ?_)
      · (first | with_reducible assumption | (with_reducible refine Below.drew ?_; with_reducible assumption) | (with_reducible refine ba _ _ ?_; with_reducible assumption) | (with_reducible refine Below.drew ?_; with_reducible refine ba _ _ ?_; with_reducible assumption) | exact Below.refl _ _ | exact (Below.refl _ _).drew | exact (Below.refl _ _).alloc (Nat.le_refl _) _ | (refine bc _ _ (by assumption) (by assumption)))
      refine RegOk.begin_ (n := 22) (T := q6A) ⟨by kernel_rfl, by kernel_rfl, by kernel_rfl, by kernel_rfl⟩ fun hR => ?_
      refine hR.take (i := 0) (oi := ?ow333_0) (v := ?vw333_0) (m' := 1) ?hw333_0 (by kernel_rfl) (by kernel_rfl) (fun _ _ _ h => h) (Or.inl ⟨?sw333_0, ?yw333_0⟩) (by assumption) ?nw333_0
      case hw333_0 => simp only [List.getElem?_toArray, List.getElem?_cons_succ, List.getElem?_cons_zero]; rfl
      case sw333_0 => rfl
      case yw333_0 => (intro w hSw; (try dsimp only at hSw); go_simp <;> with_reducible rfl)
      try simp only [Act.put, List.setIfInBounds_toArray, List.set_cons_zero, List.set_cons_succ]
      refine hR.take (i := 1) (oi := ?ow334_1) (v := ?vw334_1) (m' := 3) ?hw334_1 (by kernel_rfl) (by kernel_rfl) (fun _ _ _ h => h) (Or.inl ⟨?sw334_1, ?yw334_1⟩) (by assumption) ?nw334_1
      case hw334_1 => simp only [List.getElem?_toArray, List.getElem?_cons_succ, List.getElem?_cons_zero]; rfl
      case sw334_1 => rfl
      case yw334_1 => (intro w hSw; (try dsimp only at hSw); go_simp <;> with_reducible rfl)
      try simp only [Act.put, List.setIfInBounds_toArray, List.set_cons_zero, List.set_cons_succ]
      refine hR.take (i := 2) (oi := ?ow335_2) (v := ?vw335_2) (m' := 7) ?hw335_2 (by kernel_rfl) (by kernel_rfl) (fun _ _ _ h => h) (Or.inl ⟨?sw335_2, ?yw335_2⟩) (by assumption) ?nw335_2
      case hw335_2 => simp only [List.getElem?_toArray, List.getElem?_cons_succ, List.getElem?_cons_zero]; rfl
      case sw335_2 => rfl
      case yw335_2 => (intro w hSw; (try dsimp only at hSw); go_simp <;> with_reducible rfl)
      try simp only [Act.put, List.setIfInBounds_toArray, List.set_cons_zero, List.set_cons_succ]
      refine hR.take (i := 3) (oi := ?ow336_3) (v := ?vw336_3) (m' := 15) ?hw336_3 (by kernel_rfl) (by kernel_rfl) (fun _ _ _ h => h) (Or.inl ⟨?sw336_3, ?yw336_3⟩) (by assumption) ?nw336_3
      case hw336_3 => simp only [List.getElem?_toArray, List.getElem?_cons_succ, List.getElem?_cons_zero]; rfl
      case sw336_3 => rfl
      case yw336_3 => (intro w hSw; (try dsimp only at hSw); go_simp <;> with_reducible rfl)
      try simp only [Act.put, List.setIfInBounds_toArray, List.set_cons_zero, List.set_cons_succ]
      refine hR.take (i := 4) (oi := ?ow337_4) (v := ?vw337_4) (m' := 31) ?hw337_4 (by kernel_rfl) (by kernel_rfl) (fun _ _ _ h => h) (Or.inl ⟨?sw337_4, ?yw337_4⟩) (by assumption) ?nw337_4
      case hw337_4 => simp only [List.getElem?_toArray, List.getElem?_cons_succ, List.getElem?_cons_zero]; rfl
      case sw337_4 => rfl
      case yw337_4 => (intro w hSw; (try dsimp only at hSw); go_simp <;> with_reducible rfl)
      try simp only [Act.put, List.setIfInBounds_toArray, List.set_cons_zero, List.set_cons_succ]
      refine hR.take (i := 5) (oi := ?ow338_5) (v := ?vw338_5) (m' := 63) ?hw338_5 (by kernel_rfl) (by kernel_rfl) (fun _ _ _ h => h) (Or.inl ⟨?sw338_5, ?yw338_5⟩) (by assumption) ?nw338_5
      case hw338_5 => simp only [List.getElem?_toArray, List.getElem?_cons_succ, List.getElem?_cons_zero]; rfl
      case sw338_5 => rfl
      case yw338_5 => (intro w hSw; (try dsimp only at hSw); go_simp <;> with_reducible rfl)
      try simp only [Act.put, List.setIfInBounds_toArray, List.set_cons_zero, List.set_cons_succ]
      refine hR.take (i := 6) (oi := ?ow339_6) (v := ?vw339_6) (m' := 127) ?hw339_6 (by kernel_rfl) (by kernel_rfl) (fun _ _ _ h => h) (Or.inl ⟨?sw339_6, ?yw339_6⟩) (by assumption) ?nw339_6
      case hw339_6 => simp only [List.getElem?_toArray, List.getElem?_cons_succ, List.getElem?_cons_zero]; rfl
      case sw339_6 => rfl
      case yw339_6 => (intro w hSw; (try dsimp only at hSw); go_simp <;> with_reducible rfl)
      try simp only [Act.put, List.setIfInBounds_toArray, List.set_cons_zero, List.set_cons_succ]
      refine hR.take (i := 7) (oi := ?ow340_7) (v := ?vw340_7) (m' := 255) ?hw340_7 (by kernel_rfl) (by kernel_rfl) (fun _ _ _ h => h) (Or.inl ⟨?sw340_7, ?yw340_7⟩) (by assumption) ?nw340_7
      case hw340_7 => simp only [List.getElem?_toArray, List.getElem?_cons_succ, List.getElem?_cons_zero]; rfl
      case sw340_7 => rfl
      case yw340_7 => (intro w hSw; (try dsimp only at hSw); go_simp <;> with_reducible rfl)
      try simp only [Act.put, List.setIfInBounds_toArray, List.set_cons_zero, List.set_cons_succ]
      refine hR.come (rs := [8]) (by kernel_rfl) (by simp) ?_
      refine AllReadyH.cons (o := ?o341_8) ?h341_8 (fun K hK => ?kw341_8) AllReadyH.nil
      case h341_8 => simp only [List.getElem?_toArray, List.getElem?_cons_succ, List.getElem?_cons_zero]; rfl
      go_simp
      go_at_call 41; refine (maxKRef _ _).mono ?_; rw [Hmk.out]; rintro e w2 ⟨rfl, rfl⟩
      refine hK.out _ _ ?_ (fun hHeld => ?_)
      · (first | with_reducible assumption | (with_reducible refine Below.drew ?_; with_reducible assumption) | (with_reducible refine ba _ _ ?_; with_reducible assumption) | (with_reducible refine Below.drew ?_; with_reducible refine ba _ _ ?_; with_reducible assumption) | exact Below.refl _ _ | exact (Below.refl _ _).drew | exact (Below.refl _ _).alloc (Nat.le_refl _) _ | (refine bc _ _ (by assumption) (by assumption)))
      clear hK K
      refine RegOk.put_ (m' := 511) (by kernel_rfl) ?_
      try simp only [Act.put, List.setIfInBounds_toArray, List.set_cons_zero, List.set_cons_succ]
      refine hR.take (i := 9) (oi := ?ow342_9) (v := ?vw342_9) (m' := 1023) ?hw342_9 (by kernel_rfl) (by kernel_rfl) (fun _ _ _ h => h) (Or.inl ⟨?sw342_9, ?yw342_9⟩) (by assumption) ?nw342_9
      case hw342_9 => simp only [List.getElem?_toArray, List.getElem?_cons_succ, List.getElem?_cons_zero]; rfl
      case sw342_9 => rfl
      case yw342_9 => (intro w hSw; (try dsimp only at hSw); go_simp <;> with_reducible rfl)
      try simp only [Act.put, List.setIfInBounds_toArray, List.set_cons_zero, List.set_cons_succ]
      refine hR.take (i := 10) (oi := ?ow343_10) (v := ?vw343_10) (m' := 2047) ?hw343_10 (by kernel_rfl) (by kernel_rfl) (fun _ _ _ h => h) (Or.inl ⟨?sw343_10, ?yw343_10⟩) (by assumption) ?nw343_10
      case hw343_10 => simp only [List.getElem?_toArray, List.getElem?_cons_succ, List.getElem?_cons_zero]; rfl
      case sw343_10 => rfl
      case yw343_10 => (intro w hSw; (try dsimp only at hSw); go_simp <;> with_reducible rfl)
      try simp only [Act.put, List.setIfInBounds_toArray, List.set_cons_zero, List.set_cons_succ]
      refine hR.take (i := 11) (oi := ?ow344_11) (v := ?vw344_11) (m' := 4095) ?hw344_11 (by kernel_rfl) (by kernel_rfl) (fun _ _ _ h => h) (Or.inl ⟨?sw344_11, ?yw344_11⟩) (by assumption) ?nw344_11
      case hw344_11 => simp only [List.getElem?_toArray, List.getElem?_cons_succ, List.getElem?_cons_zero]; rfl
      case sw344_11 => rfl
      case yw344_11 => (intro w hSw; (try dsimp only at hSw); go_simp <;> with_reducible rfl)
      try simp only [Act.put, List.setIfInBounds_toArray, List.set_cons_zero, List.set_cons_succ]
      refine hR.take (i := 12) (oi := ?ow345_12) (v := ?vw345_12) (m' := 8191) ?hw345_12 (by kernel_rfl) (by kernel_rfl) (fun _ _ _ h => h) (Or.inr ⟨?sw345_12, ?yw345_12⟩) (by assumption) ?nw345_12
      case hw345_12 => simp only [List.getElem?_toArray, List.getElem?_cons_succ, List.getElem?_cons_zero]; rfl
      case sw345_12 => rfl
      case yw345_12 => rfl
      try simp only [Act.put, List.setIfInBounds_toArray, List.set_cons_zero, List.set_cons_succ]
      refine hR.take (i := 13) (oi := ?ow346_13) (v := ?vw346_13) (m' := 16383) ?hw346_13 (by kernel_rfl) (by kernel_rfl) (fun _ _ _ h => h) (Or.inr ⟨?sw346_13, ?yw346_13⟩) (by assumption) ?nw346_13
      case hw346_13 => simp only [List.getElem?_toArray, List.getElem?_cons_succ, List.getElem?_cons_zero]; rfl
      case sw346_13 => rfl
      case yw346_13 => rfl
      try simp only [Act.put, List.setIfInBounds_toArray, List.set_cons_zero, List.set_cons_succ]
      refine hR.take (i := 14) (oi := ?ow347_14) (v := ?vw347_14) (m' := 32767) ?hw347_14 (by kernel_rfl) (by kernel_rfl) (fun _ _ _ h => h) (Or.inr ⟨?sw347_14, ?yw347_14⟩) (by assumption) ?nw347_14
      case hw347_14 => simp only [List.getElem?_toArray, List.getElem?_cons_succ, List.getElem?_cons_zero]; rfl
      case sw347_14 => rfl
      case yw347_14 => rfl
      try simp only [Act.put, List.setIfInBounds_toArray, List.set_cons_zero, List.set_cons_succ]
      refine hR.take (i := 15) (oi := ?ow348_15) (v := ?vw348_15) (m' := 65535) ?hw348_15 (by kernel_rfl) (by kernel_rfl) (fun _ _ _ h => h) (Or.inr ⟨?sw348_15, ?yw348_15⟩) (by assumption) ?nw348_15
      case hw348_15 => simp only [List.getElem?_toArray, List.getElem?_cons_succ, List.getElem?_cons_zero]; rfl
      case sw348_15 => rfl
      case yw348_15 => rfl
      try simp only [Act.put, List.setIfInBounds_toArray, List.set_cons_zero, List.set_cons_succ]
      refine hR.take (i := 16) (oi := ?ow349_16) (v := ?vw349_16) (m' := 131071) ?hw349_16 (by kernel_rfl) (by kernel_rfl) (fun _ _ _ h => h) (Or.inr ⟨?sw349_16, ?yw349_16⟩) (by assumption) ?nw349_16
      case hw349_16 => simp only [List.getElem?_toArray, List.getElem?_cons_succ, List.getElem?_cons_zero]; rfl
      case sw349_16 => rfl
      case yw349_16 => rfl
      try simp only [Act.put, List.setIfInBounds_toArray, List.set_cons_zero, List.set_cons_succ]
      refine hR.take (i := 17) (oi := ?ow350_17) (v := ?vw350_17) (m' := 262143) ?hw350_17 (by kernel_rfl) (by kernel_rfl) (fun _ _ _ h => h) (Or.inr ⟨?sw350_17, ?yw350_17⟩) (by assumption) ?nw350_17
      case hw350_17 => simp only [List.getElem?_toArray, List.getElem?_cons_succ, List.getElem?_cons_zero]; rfl
      case sw350_17 => rfl
      case yw350_17 => rfl
      try simp only [Act.put, List.setIfInBounds_toArray, List.set_cons_zero, List.set_cons_succ]
      refine hR.take (i := 18) (oi := ?ow351_18) (v := ?vw351_18) (m' := 524287) ?hw351_18 (by kernel_rfl) (by kernel_rfl) (fun _ _ _ h => h) (Or.inr ⟨?sw351_18, ?yw351_18⟩) (by assumption) ?nw351_18
      case hw351_18 => simp only [List.getElem?_toArray, List.getElem?_cons_succ, List.getElem?_cons_zero]; rfl
      case sw351_18 => rfl
      case yw351_18 => rfl
      try simp only [Act.put, List.setIfInBounds_toArray, List.set_cons_zero, List.set_cons_succ]
      refine hR.take (i := 19) (oi := ?ow352_19) (v := ?vw352_19) (m' := 1048575) ?hw352_19 (by kernel_rfl) (by kernel_rfl) (fun _ _ _ h => h) (Or.inr ⟨?sw352_19, ?yw352_19⟩) (by assumption) ?nw352_19
      case hw352_19 => simp only [List.getElem?_toArray, List.getElem?_cons_succ, List.getElem?_cons_zero]; rfl
      case sw352_19 => rfl
      case yw352_19 => rfl
      try simp only [Act.put, List.setIfInBounds_toArray, List.set_cons_zero, List.set_cons_succ]
      refine hR.take (i := 20) (oi := ?ow353_20) (v := ?vw353_20) (m' := 2097151) ?hw353_20 (by kernel_rfl) (by kernel_rfl) (fun _ _ _ h => h) (Or.inr ⟨?sw353_20, ?yw353_20⟩) (by assumption) ?nw353_20
      case hw353_20 => simp only [List.getElem?_toArray, List.getElem?_cons_succ, List.getElem?_cons_zero]; rfl
      case sw353_20 => rfl
      case yw353_20 => rfl
      try simp only [Act.put, List.setIfInBounds_toArray, List.set_cons_zero, List.set_cons_succ]
      refine hR.take (i := 21) (oi := ?ow354_21) (v := ?vw354_21) (m' := 4194303) ?hw354_21 (by kernel_rfl) (by kernel_rfl) (fun _ _ _ h => h) (Or.inl ⟨?sw354_21, ?yw354_21⟩) (by assumption) ?nw354_21
      case hw354_21 => simp only [List.getElem?_toArray, List.getElem?_cons_succ, List.getElem?_cons_zero]; rfl
      case sw354_21 => rfl
      case yw354_21 => (intro w hSw; (try dsimp only at hSw); go_simp <;> with_reducible rfl)
      try simp only [Act.put, List.setIfInBounds_toArray, List.set_cons_zero, List.set_cons_succ]
      refine hR.all (by kernel_rfl) ?_ _
      refine NoPanic.normal ?_
      go_wp2_with fail
      go_ret
      exact ⟨ret_b hv.out.symm, b0.out.drew⟩
    have g2 : (mk < q.k) = False := eq_false k2
    rcases hmk3 with ⟨hmk1, hk36⟩ | ⟨hmk0, hk36⟩
    · have g3 : (0 < mk) = True := eq_true hmk1
      by_cases k3 : q.k = 0
      · have hv := Lib.hid (not_head (q := q) fun h => by have := h.2.2.2.2.2.1 hk36; omega)
        have g4 : (q.k == 0) = true := by simp [k3]
        have g5 : (mk < 0) = False := eq_false (by omega)
        refine wp_region_noPanic ?_
        refine wp_region_held_drew (S := fun X => Below wc.heap.size wc X) (by kernel_rfl) ?_ (fun hHeld => ?_)
        · (first | with_reducible assumption | (with_reducible refine Below.drew ?_; with_reducible assumption) | (with_reducible refine ba _ _ ?_; with_reducible assumption) | (with_reducible refine Below.drew ?_; with_reducible refine ba _ _ ?_; with_reducible assumption) | exact Below.refl _ _ | exact (Below.refl _ _).drew | exact (Below.refl _ _).alloc (Nat.le_refl _) _ | (refine bc _ _ (by assumption) (by assumption)))
        refine RegOk.begin_ (n := 22) (T := q6A) ⟨by kernel_rfl, by kernel_rfl, by kernel_rfl, by kernel_rfl⟩ fun hR => ?_
        refine hR.take (i := 0) (oi := ?ow355_0) (v := ?vw355_0) (m' := 1) ?hw355_0 (by kernel_rfl) (by kernel_rfl) (fun _ _ _ h => h) (Or.inl ⟨?sw355_0, ?yw355_0⟩) (by assumption) ?nw355_0
        case hw355_0 => simp only [List.getElem?_toArray, List.getElem?_cons_succ, List.getElem?_cons_zero]; rfl
        case sw355_0 => rfl
        case yw355_0 => (intro w hSw; (try dsimp only at hSw); go_simp <;> with_reducible rfl)
        try simp only [Act.put, List.setIfInBounds_toArray, List.set_cons_zero, List.set_cons_succ]
        refine hR.take (i := 1) (oi := ?ow356_1) (v := ?vw356_1) (m' := 3) ?hw356_1 (by kernel_rfl) (by kernel_rfl) (fun _ _ _ h => h) (Or.inl ⟨?sw356_1, ?yw356_1⟩) (by assumption) ?nw356_1
        case hw356_1 => simp only [List.getElem?_toArray, List.getElem?_cons_succ, List.getElem?_cons_zero]; rfl
        case sw356_1 => rfl
        case yw356_1 => (intro w hSw; (try dsimp only at hSw); go_simp <;> with_reducible rfl)
        try simp only [Act.put, List.setIfInBounds_toArray, List.set_cons_zero, List.set_cons_succ]
        refine hR.take (i := 2) (oi := ?ow357_2) (v := ?vw357_2) (m' := 7) ?hw357_2 (by kernel_rfl) (by kernel_rfl) (fun _ _ _ h => h) (Or.inl ⟨?sw357_2, ?yw357_2⟩) (by assumption) ?nw357_2
        case hw357_2 => simp only [List.getElem?_toArray, List.getElem?_cons_succ, List.getElem?_cons_zero]; rfl
        case sw357_2 => rfl
        case yw357_2 => (intro w hSw; (try dsimp only at hSw); go_simp <;> with_reducible rfl)
        try simp only [Act.put, List.setIfInBounds_toArray, List.set_cons_zero, List.set_cons_succ]
        refine hR.take (i := 3) (oi := ?ow358_3) (v := ?vw358_3) (m' := 15) ?hw358_3 (by kernel_rfl) (by kernel_rfl) (fun _ _ _ h => h) (Or.inl ⟨?sw358_3, ?yw358_3⟩) (by assumption) ?nw358_3
        case hw358_3 => simp only [List.getElem?_toArray, List.getElem?_cons_succ, List.getElem?_cons_zero]; rfl
        case sw358_3 => rfl
        case yw358_3 => (intro w hSw; (try dsimp only at hSw); go_simp <;> with_reducible rfl)
        try simp only [Act.put, List.setIfInBounds_toArray, List.set_cons_zero, List.set_cons_succ]
        refine hR.take (i := 4) (oi := ?ow359_4) (v := ?vw359_4) (m' := 31) ?hw359_4 (by kernel_rfl) (by kernel_rfl) (fun _ _ _ h => h) (Or.inl ⟨?sw359_4, ?yw359_4⟩) (by assumption) ?nw359_4
        case hw359_4 => simp only [List.getElem?_toArray, List.getElem?_cons_succ, List.getElem?_cons_zero]; rfl
        case sw359_4 => rfl
        case yw359_4 => (intro w hSw; (try dsimp only at hSw); go_simp <;> with_reducible rfl)
        try simp only [Act.put, List.setIfInBounds_toArray, List.set_cons_zero, List.set_cons_succ]
        refine hR.take (i := 5) (oi := ?ow360_5) (v := ?vw360_5) (m' := 63) ?hw360_5 (by kernel_rfl) (by kernel_rfl) (fun _ _ _ h => h) (Or.inl ⟨?sw360_5, ?yw360_5⟩) (by assumption) ?nw360_5
        case hw360_5 => simp only [List.getElem?_toArray, List.getElem?_cons_succ, List.getElem?_cons_zero]; rfl
        case sw360_5 => rfl
        case yw360_5 => (intro w hSw; (try dsimp only at hSw); go_simp <;> with_reducible rfl)
        try simp only [Act.put, List.setIfInBounds_toArray, List.set_cons_zero, List.set_cons_succ]
        refine hR.take (i := 6) (oi := ?ow361_6) (v := ?vw361_6) (m' := 127) ?hw361_6 (by kernel_rfl) (by kernel_rfl) (fun _ _ _ h => h) (Or.inl ⟨?sw361_6, ?yw361_6⟩) (by assumption) ?nw361_6
        case hw361_6 => simp only [List.getElem?_toArray, List.getElem?_cons_succ, List.getElem?_cons_zero]; rfl
        case sw361_6 => rfl
        case yw361_6 => (intro w hSw; (try dsimp only at hSw); go_simp <;> with_reducible rfl)
        try simp only [Act.put, List.setIfInBounds_toArray, List.set_cons_zero, List.set_cons_succ]
        refine hR.take (i := 7) (oi := ?ow362_7) (v := ?vw362_7) (m' := 255) ?hw362_7 (by kernel_rfl) (by kernel_rfl) (fun _ _ _ h => h) (Or.inl ⟨?sw362_7, ?yw362_7⟩) (by assumption) ?nw362_7
        case hw362_7 => simp only [List.getElem?_toArray, List.getElem?_cons_succ, List.getElem?_cons_zero]; rfl
        case sw362_7 => rfl
        case yw362_7 => (intro w hSw; (try dsimp only at hSw); go_simp <;> with_reducible rfl)
        try simp only [Act.put, List.setIfInBounds_toArray, List.set_cons_zero, List.set_cons_succ]
        refine hR.come (rs := [8]) (by kernel_rfl) (by simp) ?_
        refine AllReadyH.cons (o := ?o363_8) ?h363_8 (fun K hK => ?kw363_8) AllReadyH.nil
        case h363_8 => simp only [List.getElem?_toArray, List.getElem?_cons_succ, List.getElem?_cons_zero]; rfl
        go_simp
        go_at_call 41; refine (maxKRef _ _).mono ?_; rw [Hmk.out]; rintro e w2 ⟨rfl, rfl⟩
        refine hK.out _ _ ?_ (fun hHeld => ?_)
        · (first | with_reducible assumption | (with_reducible refine Below.drew ?_; with_reducible assumption) | (with_reducible refine ba _ _ ?_; with_reducible assumption) | (with_reducible refine Below.drew ?_; with_reducible refine ba _ _ ?_; with_reducible assumption) | exact Below.refl _ _ | exact (Below.refl _ _).drew | exact (Below.refl _ _).alloc (Nat.le_refl _) _ | (refine bc _ _ (by assumption) (by assumption)))
        clear hK K
        refine RegOk.put_ (m' := 511) (by kernel_rfl) ?_
        try simp only [Act.put, List.setIfInBounds_toArray, List.set_cons_zero, List.set_cons_succ]
        refine hR.take (i := 9) (oi := ?ow364_9) (v := ?vw364_9) (m' := 1023) ?hw364_9 (by kernel_rfl) (by kernel_rfl) (fun _ _ _ h => h) (Or.inl ⟨?sw364_9, ?yw364_9⟩) (by assumption) ?nw364_9
        case hw364_9 => simp only [List.getElem?_toArray, List.getElem?_cons_succ, List.getElem?_cons_zero]; rfl
        case sw364_9 => rfl
        case yw364_9 => (intro w hSw; (try dsimp only at hSw); go_simp <;> with_reducible rfl)
        try simp only [Act.put, List.setIfInBounds_toArray, List.set_cons_zero, List.set_cons_succ]
        refine hR.take (i := 10) (oi := ?ow365_10) (v := ?vw365_10) (m' := 2047) ?hw365_10 (by kernel_rfl) (by kernel_rfl) (fun _ _ _ h => h) (Or.inl ⟨?sw365_10, ?yw365_10⟩) (by assumption) ?nw365_10
        case hw365_10 => simp only [List.getElem?_toArray, List.getElem?_cons_succ, List.getElem?_cons_zero]; rfl
        case sw365_10 => rfl
        case yw365_10 => (intro w hSw; (try dsimp only at hSw); go_simp <;> with_reducible rfl)
        try simp only [Act.put, List.setIfInBounds_toArray, List.set_cons_zero, List.set_cons_succ]
        refine hR.take (i := 11) (oi := ?ow366_11) (v := ?vw366_11) (m' := 4095) ?hw366_11 (by kernel_rfl) (by kernel_rfl) (fun _ _ _ h => h) (Or.inl ⟨?sw366_11, ?yw366_11⟩) (by assumption) ?nw366_11
        case hw366_11 => simp only [List.getElem?_toArray, List.getElem?_cons_succ, List.getElem?_cons_zero]; rfl
        case sw366_11 => rfl
        case yw366_11 => (intro w hSw; (try dsimp only at hSw); go_simp <;> with_reducible rfl)
        try simp only [Act.put, List.setIfInBounds_toArray, List.set_cons_zero, List.set_cons_succ]
        refine hR.take (i := 12) (oi := ?ow367_12) (v := ?vw367_12) (m' := 8191) ?hw367_12 (by kernel_rfl) (by kernel_rfl) (fun _ _ _ h => h) (Or.inl ⟨?sw367_12, ?yw367_12⟩) (by assumption) ?nw367_12
        case hw367_12 => simp only [List.getElem?_toArray, List.getElem?_cons_succ, List.getElem?_cons_zero]; rfl
        case sw367_12 => rfl
        case yw367_12 => (intro w hSw; (try dsimp only at hSw); go_simp <;> with_reducible rfl)
        try simp only [Act.put, List.setIfInBounds_toArray, List.set_cons_zero, List.set_cons_succ]
        refine hR.take (i := 13) (oi := ?ow368_13) (v := ?vw368_13) (m' := 16383) ?hw368_13 (by kernel_rfl) (by kernel_rfl) (fun _ _ _ h => h) (Or.inl ⟨?sw368_13, ?yw368_13⟩) (by assumption) ?nw368_13
        case hw368_13 => simp only [List.getElem?_toArray, List.getElem?_cons_succ, List.getElem?_cons_zero]; rfl
        case sw368_13 => rfl
        case yw368_13 => (intro w hSw; (try dsimp only at hSw); go_simp <;> with_reducible rfl)
        try simp only [Act.put, List.setIfInBounds_toArray, List.set_cons_zero, List.set_cons_succ]
        refine hR.come (rs := [14]) (by kernel_rfl) (by simp) ?_
        refine AllReadyH.cons (o := ?o369_14) ?h369_14 (fun K hK => ?kw369_14) AllReadyH.nil
        case h369_14 => simp only [List.getElem?_toArray, List.getElem?_cons_succ, List.getElem?_cons_zero]; rfl
        go_simp
        go_at_call 41; refine (maxKRef _ _).mono ?_; rw [Hmk.out]; rintro e w3 ⟨rfl, rfl⟩
        refine hK.out _ _ ?_ (fun hHeld => ?_)
        · (first | with_reducible assumption | (with_reducible refine Below.drew ?_; with_reducible assumption) | (with_reducible refine ba _ _ ?_; with_reducible assumption) | (with_reducible refine Below.drew ?_; with_reducible refine ba _ _ ?_; with_reducible assumption) | exact Below.refl _ _ | exact (Below.refl _ _).drew | exact (Below.refl _ _).alloc (Nat.le_refl _) _ | (refine bc _ _ (by assumption) (by assumption)))
        clear hK K
        refine RegOk.put_ (m' := 32767) (by kernel_rfl) ?_
        try simp only [Act.put, List.setIfInBounds_toArray, List.set_cons_zero, List.set_cons_succ]
        refine hR.take (i := 15) (oi := ?ow370_15) (v := ?vw370_15) (m' := 65535) ?hw370_15 (by kernel_rfl) (by kernel_rfl) (fun _ _ _ h => h) (Or.inl ⟨?sw370_15, ?yw370_15⟩) (by assumption) ?nw370_15
        case hw370_15 => simp only [List.getElem?_toArray, List.getElem?_cons_succ, List.getElem?_cons_zero]; rfl
        case sw370_15 => rfl
        case yw370_15 => (intro w hSw; (try dsimp only at hSw); go_simp <;> with_reducible rfl)
        try simp only [Act.put, List.setIfInBounds_toArray, List.set_cons_zero, List.set_cons_succ]
        refine hR.take (i := 16) (oi := ?ow371_16) (v := ?vw371_16) (m' := 131071) ?hw371_16 (by kernel_rfl) (by kernel_rfl) (fun _ _ _ h => h) (Or.inl ⟨?sw371_16, ?yw371_16⟩) (by assumption) ?nw371_16
        case hw371_16 => simp only [List.getElem?_toArray, List.getElem?_cons_succ, List.getElem?_cons_zero]; rfl
        case sw371_16 => rfl
        case yw371_16 => (intro w hSw; (try dsimp only at hSw); go_simp <;> with_reducible rfl)
        try simp only [Act.put, List.setIfInBounds_toArray, List.set_cons_zero, List.set_cons_succ]
        refine hR.take (i := 17) (oi := ?ow372_17) (v := ?vw372_17) (m' := 262143) ?hw372_17 (by kernel_rfl) (by kernel_rfl) (fun _ _ _ h => h) (Or.inl ⟨?sw372_17, ?yw372_17⟩) (by assumption) ?nw372_17
        case hw372_17 => simp only [List.getElem?_toArray, List.getElem?_cons_succ, List.getElem?_cons_zero]; rfl
        case sw372_17 => rfl
        case yw372_17 => (intro w hSw; (try dsimp only at hSw); go_simp <;> with_reducible rfl)
        try simp only [Act.put, List.setIfInBounds_toArray, List.set_cons_zero, List.set_cons_succ]
        refine hR.take (i := 18) (oi := ?ow373_18) (v := ?vw373_18) (m' := 524287) ?hw373_18 (by kernel_rfl) (by kernel_rfl) (fun _ _ _ h => h) (Or.inl ⟨?sw373_18, ?yw373_18⟩) (by assumption) ?nw373_18
        case hw373_18 => simp only [List.getElem?_toArray, List.getElem?_cons_succ, List.getElem?_cons_zero]; rfl
        case sw373_18 => rfl
        case yw373_18 => (intro w hSw; (try dsimp only at hSw); go_simp <;> with_reducible rfl)
        try simp only [Act.put, List.setIfInBounds_toArray, List.set_cons_zero, List.set_cons_succ]
        refine hR.take (i := 19) (oi := ?ow374_19) (v := ?vw374_19) (m' := 1048575) ?hw374_19 (by kernel_rfl) (by kernel_rfl) (fun _ _ _ h => h) (Or.inl ⟨?sw374_19, ?yw374_19⟩) (by assumption) ?nw374_19
        case hw374_19 => simp only [List.getElem?_toArray, List.getElem?_cons_succ, List.getElem?_cons_zero]; rfl
        case sw374_19 => rfl
        case yw374_19 => (intro w hSw; (try dsimp only at hSw); go_simp <;> with_reducible rfl)
        try simp only [Act.put, List.setIfInBounds_toArray, List.set_cons_zero, List.set_cons_succ]
        refine hR.take (i := 20) (oi := ?ow375_20) (v := ?vw375_20) (m' := 2097151) ?hw375_20 (by kernel_rfl) (by kernel_rfl) (fun _ _ _ h => h) (Or.inl ⟨?sw375_20, ?yw375_20⟩) (by assumption) ?nw375_20
        case hw375_20 => simp only [List.getElem?_toArray, List.getElem?_cons_succ, List.getElem?_cons_zero]; rfl
        case sw375_20 => rfl
        case yw375_20 => (intro w hSw; (try dsimp only at hSw); go_simp <;> with_reducible rfl)
        try simp only [Act.put, List.setIfInBounds_toArray, List.set_cons_zero, List.set_cons_succ]
        refine hR.take (i := 21) (oi := ?ow376_21) (v := ?vw376_21) (m' := 4194303) ?hw376_21 (by kernel_rfl) (by kernel_rfl) (fun _ _ _ h => h) (Or.inl ⟨?sw376_21, ?yw376_21⟩) (by assumption) ?nw376_21
        case hw376_21 => simp only [List.getElem?_toArray, List.getElem?_cons_succ, List.getElem?_cons_zero]; rfl
        case sw376_21 => rfl
        case yw376_21 => (intro w hSw; (try dsimp only at hSw); go_simp <;> with_reducible rfl)
        try simp only [Act.put, List.setIfInBounds_toArray, List.set_cons_zero, List.set_cons_succ]
        refine hR.all (by kernel_rfl) ?_ _
        refine NoPanic.normal ?_
        go_wp2_with fail
        go_ret
        exact ⟨ret_b hv.out.symm, b0.out.drew⟩
      · have g4 : (q.k == 0) = false := by simpa using k3
        refine wp_region_noPanic ?_
        refine wp_region_held_drew (S := fun X => Below wc.heap.size wc X) (by kernel_rfl) ?_ (fun hHeld => ?_)
        · (first | with_reducible assumption | (with_reducible refine Below.drew ?_; with_reducible assumption) | (with_reducible refine ba _ _ ?_; with_reducible assumption) | (with_reducible refine Below.drew ?_; with_reducible refine ba _ _ ?_; with_reducible assumption) | exact Below.refl _ _ | exact (Below.refl _ _).drew | exact (Below.refl _ _).alloc (Nat.le_refl _) _ | (refine bc _ _ (by assumption) (by assumption)))
        refine RegOk.begin_ (n := 22) (T := q6A) ⟨by kernel_rfl, by kernel_rfl, by kernel_rfl, by kernel_rfl⟩ fun hR => ?_
        refine hR.take (i := 0) (oi := ?ow377_0) (v := ?vw377_0) (m' := 1) ?hw377_0 (by kernel_rfl) (by kernel_rfl) (fun _ _ _ h => h) (Or.inl ⟨?sw377_0, ?yw377_0⟩) (by assumption) ?nw377_0
        case hw377_0 => simp only [List.getElem?_toArray, List.getElem?_cons_succ, List.getElem?_cons_zero]; rfl
        case sw377_0 => rfl
        case yw377_0 => (intro w hSw; (try dsimp only at hSw); go_simp <;> with_reducible rfl)
        try simp only [Act.put, List.setIfInBounds_toArray, List.set_cons_zero, List.set_cons_succ]
        refine hR.take (i := 1) (oi := ?ow378_1) (v := ?vw378_1) (m' := 3) ?hw378_1 (by kernel_rfl) (by kernel_rfl) (fun _ _ _ h => h) (Or.inl ⟨?sw378_1, ?yw378_1⟩) (by assumption) ?nw378_1
        case hw378_1 => simp only [List.getElem?_toArray, List.getElem?_cons_succ, List.getElem?_cons_zero]; rfl
        case sw378_1 => rfl
        case yw378_1 => (intro w hSw; (try dsimp only at hSw); go_simp <;> with_reducible rfl)
        try simp only [Act.put, List.setIfInBounds_toArray, List.set_cons_zero, List.set_cons_succ]
        refine hR.take (i := 2) (oi := ?ow379_2) (v := ?vw379_2) (m' := 7) ?hw379_2 (by kernel_rfl) (by kernel_rfl) (fun _ _ _ h => h) (Or.inl ⟨?sw379_2, ?yw379_2⟩) (by assumption) ?nw379_2
        case hw379_2 => simp only [List.getElem?_toArray, List.getElem?_cons_succ, List.getElem?_cons_zero]; rfl
        case sw379_2 => rfl
        case yw379_2 => (intro w hSw; (try dsimp only at hSw); go_simp <;> with_reducible rfl)
        try simp only [Act.put, List.setIfInBounds_toArray, List.set_cons_zero, List.set_cons_succ]
        refine hR.take (i := 3) (oi := ?ow380_3) (v := ?vw380_3) (m' := 15) ?hw380_3 (by kernel_rfl) (by kernel_rfl) (fun _ _ _ h => h) (Or.inl ⟨?sw380_3, ?yw380_3⟩) (by assumption) ?nw380_3
        case hw380_3 => simp only [List.getElem?_toArray, List.getElem?_cons_succ, List.getElem?_cons_zero]; rfl
        case sw380_3 => rfl
        case yw380_3 => (intro w hSw; (try dsimp only at hSw); go_simp <;> with_reducible rfl)
        try simp only [Act.put, List.setIfInBounds_toArray, List.set_cons_zero, List.set_cons_succ]
        refine hR.take (i := 4) (oi := ?ow381_4) (v := ?vw381_4) (m' := 31) ?hw381_4 (by kernel_rfl) (by kernel_rfl) (fun _ _ _ h => h) (Or.inl ⟨?sw381_4, ?yw381_4⟩) (by assumption) ?nw381_4
        case hw381_4 => simp only [List.getElem?_toArray, List.getElem?_cons_succ, List.getElem?_cons_zero]; rfl
        case sw381_4 => rfl
        case yw381_4 => (intro w hSw; (try dsimp only at hSw); go_simp <;> with_reducible rfl)
        try simp only [Act.put, List.setIfInBounds_toArray, List.set_cons_zero, List.set_cons_succ]
        refine hR.take (i := 5) (oi := ?ow382_5) (v := ?vw382_5) (m' := 63) ?hw382_5 (by kernel_rfl) (by kernel_rfl) (fun _ _ _ h => h) (Or.inl ⟨?sw382_5, ?yw382_5⟩) (by assumption) ?nw382_5
        case hw382_5 => simp only [List.getElem?_toArray, List.getElem?_cons_succ, List.getElem?_cons_zero]; rfl
        case sw382_5 => rfl
        case yw382_5 => (intro w hSw; (try dsimp only at hSw); go_simp <;> with_reducible rfl)
        try simp only [Act.put, List.setIfInBounds_toArray, List.set_cons_zero, List.set_cons_succ]
        refine hR.take (i := 6) (oi := ?ow383_6) (v := ?vw383_6) (m' := 127) ?hw383_6 (by kernel_rfl) (by kernel_rfl) (fun _ _ _ h => h) (Or.inl ⟨?sw383_6, ?yw383_6⟩) (by assumption) ?nw383_6
        case hw383_6 => simp only [List.getElem?_toArray, List.getElem?_cons_succ, List.getElem?_cons_zero]; rfl
        case sw383_6 => rfl
        case yw383_6 => (intro w hSw; (try dsimp only at hSw); go_simp <;> with_reducible rfl)
        try simp only [Act.put, List.setIfInBounds_toArray, List.set_cons_zero, List.set_cons_succ]
        refine hR.take (i := 7) (oi := ?ow384_7) (v := ?vw384_7) (m' := 255) ?hw384_7 (by kernel_rfl) (by kernel_rfl) (fun _ _ _ h => h) (Or.inl ⟨?sw384_7, ?yw384_7⟩) (by assumption) ?nw384_7
        case hw384_7 => simp only [List.getElem?_toArray, List.getElem?_cons_succ, List.getElem?_cons_zero]; rfl
        case sw384_7 => rfl
        case yw384_7 => (intro w hSw; (try dsimp only at hSw); go_simp <;> with_reducible rfl)
        try simp only [Act.put, List.setIfInBounds_toArray, List.set_cons_zero, List.set_cons_succ]
        refine hR.come (rs := [8]) (by kernel_rfl) (by simp) ?_
        refine AllReadyH.cons (o := ?o385_8) ?h385_8 (fun K hK => ?kw385_8) AllReadyH.nil
        case h385_8 => simp only [List.getElem?_toArray, List.getElem?_cons_succ, List.getElem?_cons_zero]; rfl
        go_simp
        go_at_call 41; refine (maxKRef _ _).mono ?_; rw [Hmk.out]; rintro e w2 ⟨rfl, rfl⟩
        refine hK.out _ _ ?_ (fun hHeld => ?_)
        · (first | with_reducible assumption | (with_reducible refine Below.drew ?_; with_reducible assumption) | (with_reducible refine ba _ _ ?_; with_reducible assumption) | (with_reducible refine Below.drew ?_; with_reducible refine ba _ _ ?_; with_reducible assumption) | exact Below.refl _ _ | exact (Below.refl _ _).drew | exact (Below.refl _ _).alloc (Nat.le_refl _) _ | (refine bc _ _ (by assumption) (by assumption)))
        clear hK K
        refine RegOk.put_ (m' := 511) (by kernel_rfl) ?_
        try simp only [Act.put, List.setIfInBounds_toArray, List.set_cons_zero, List.set_cons_succ]
        refine hR.take (i := 9) (oi := ?ow386_9) (v := ?vw386_9) (m' := 1023) ?hw386_9 (by kernel_rfl) (by kernel_rfl) (fun _ _ _ h => h) (Or.inl ⟨?sw386_9, ?yw386_9⟩) (by assumption) ?nw386_9
        case hw386_9 => simp only [List.getElem?_toArray, List.getElem?_cons_succ, List.getElem?_cons_zero]; rfl
        case sw386_9 => rfl
        case yw386_9 => (intro w hSw; (try dsimp only at hSw); go_simp <;> with_reducible rfl)
        try simp only [Act.put, List.setIfInBounds_toArray, List.set_cons_zero, List.set_cons_succ]
        refine hR.take (i := 10) (oi := ?ow387_10) (v := ?vw387_10) (m' := 2047) ?hw387_10 (by kernel_rfl) (by kernel_rfl) (fun _ _ _ h => h) (Or.inl ⟨?sw387_10, ?yw387_10⟩) (by assumption) ?nw387_10
        case hw387_10 => simp only [List.getElem?_toArray, List.getElem?_cons_succ, List.getElem?_cons_zero]; rfl
        case sw387_10 => rfl
        case yw387_10 => (intro w hSw; (try dsimp only at hSw); go_simp <;> with_reducible rfl)
        try simp only [Act.put, List.setIfInBounds_toArray, List.set_cons_zero, List.set_cons_succ]
        refine hR.take (i := 11) (oi := ?ow388_11) (v := ?vw388_11) (m' := 4095) ?hw388_11 (by kernel_rfl) (by kernel_rfl) (fun _ _ _ h => h) (Or.inl ⟨?sw388_11, ?yw388_11⟩) (by assumption) ?nw388_11
        case hw388_11 => simp only [List.getElem?_toArray, List.getElem?_cons_succ, List.getElem?_cons_zero]; rfl
        case sw388_11 => rfl
        case yw388_11 => (intro w hSw; (try dsimp only at hSw); go_simp <;> with_reducible rfl)
        try simp only [Act.put, List.setIfInBounds_toArray, List.set_cons_zero, List.set_cons_succ]
        refine hR.take (i := 12) (oi := ?ow389_12) (v := ?vw389_12) (m' := 8191) ?hw389_12 (by kernel_rfl) (by kernel_rfl) (fun _ _ _ h => h) (Or.inl ⟨?sw389_12, ?yw389_12⟩) (by assumption) ?nw389_12
        case hw389_12 => simp only [List.getElem?_toArray, List.getElem?_cons_succ, List.getElem?_cons_zero]; rfl
        case sw389_12 => rfl
        case yw389_12 => (intro w hSw; (try dsimp only at hSw); go_simp <;> with_reducible rfl)
        try simp only [Act.put, List.setIfInBounds_toArray, List.set_cons_zero, List.set_cons_succ]
        refine hR.take (i := 13) (oi := ?ow390_13) (v := ?vw390_13) (m' := 16383) ?hw390_13 (by kernel_rfl) (by kernel_rfl) (fun _ _ _ h => h) (Or.inl ⟨?sw390_13, ?yw390_13⟩) (by assumption) ?nw390_13
        case hw390_13 => simp only [List.getElem?_toArray, List.getElem?_cons_succ, List.getElem?_cons_zero]; rfl
        case sw390_13 => rfl
        case yw390_13 => (intro w hSw; (try dsimp only at hSw); go_simp <;> with_reducible rfl)
        try simp only [Act.put, List.setIfInBounds_toArray, List.set_cons_zero, List.set_cons_succ]
        refine hR.come (rs := [14]) (by kernel_rfl) (by simp) ?_
        refine AllReadyH.cons (o := ?o391_14) ?h391_14 (fun K hK => ?kw391_14) AllReadyH.nil
        case h391_14 => simp only [List.getElem?_toArray, List.getElem?_cons_succ, List.getElem?_cons_zero]; rfl
        go_simp
        go_at_call 41; refine (maxKRef _ _).mono ?_; rw [Hmk.out]; rintro e w3 ⟨rfl, rfl⟩
        refine hK.out _ _ ?_ (fun hHeld => ?_)
        · (first | with_reducible assumption | (with_reducible refine Below.drew ?_; with_reducible assumption) | (with_reducible refine ba _ _ ?_; with_reducible assumption) | (with_reducible refine Below.drew ?_; with_reducible refine ba _ _ ?_; with_reducible assumption) | exact Below.refl _ _ | exact (Below.refl _ _).drew | exact (Below.refl _ _).alloc (Nat.le_refl _) _ | (refine bc _ _ (by assumption) (by assumption)))
        clear hK K
        refine RegOk.put_ (m' := 32767) (by kernel_rfl) ?_
        try simp only [Act.put, List.setIfInBounds_toArray, List.set_cons_zero, List.set_cons_succ]
        refine hR.take (i := 15) (oi := ?ow392_15) (v := ?vw392_15) (m' := 65535) ?hw392_15 (by kernel_rfl) (by kernel_rfl) (fun _ _ _ h => h) (Or.inl ⟨?sw392_15, ?yw392_15⟩) (by assumption) ?nw392_15
        case hw392_15 => simp only [List.getElem?_toArray, List.getElem?_cons_succ, List.getElem?_cons_zero]; rfl
        case sw392_15 => rfl
        case yw392_15 => (intro w hSw; (try dsimp only at hSw); go_simp <;> with_reducible rfl)
        try simp only [Act.put, List.setIfInBounds_toArray, List.set_cons_zero, List.set_cons_succ]
        refine hR.take (i := 16) (oi := ?ow393_16) (v := ?vw393_16) (m' := 131071) ?hw393_16 (by kernel_rfl) (by kernel_rfl) (fun _ _ _ h => h) (Or.inl ⟨?sw393_16, ?yw393_16⟩) (by assumption) ?nw393_16
        case hw393_16 => simp only [List.getElem?_toArray, List.getElem?_cons_succ, List.getElem?_cons_zero]; rfl
        case sw393_16 => rfl
        case yw393_16 => (intro w hSw; (try dsimp only at hSw); go_simp <;> with_reducible rfl)
        try simp only [Act.put, List.setIfInBounds_toArray, List.set_cons_zero, List.set_cons_succ]
        refine hR.take (i := 17) (oi := ?ow394_17) (v := ?vw394_17) (m' := 262143) ?hw394_17 (by kernel_rfl) (by kernel_rfl) (fun _ _ _ h => h) (Or.inl ⟨?sw394_17, ?yw394_17⟩) (by assumption) ?nw394_17
        case hw394_17 => simp only [List.getElem?_toArray, List.getElem?_cons_succ, List.getElem?_cons_zero]; rfl
        case sw394_17 => rfl
        case yw394_17 => (intro w hSw; (try dsimp only at hSw); go_simp <;> with_reducible rfl)
        try simp only [Act.put, List.setIfInBounds_toArray, List.set_cons_zero, List.set_cons_succ]
        refine hR.take (i := 18) (oi := ?ow395_18) (v := ?vw395_18) (m' := 524287) ?hw395_18 (by kernel_rfl) (by kernel_rfl) (fun _ _ _ h => h) (Or.inl ⟨?sw395_18, ?yw395_18⟩) (by assumption) ?nw395_18
        case hw395_18 => simp only [List.getElem?_toArray, List.getElem?_cons_succ, List.getElem?_cons_zero]; rfl
        case sw395_18 => rfl
        case yw395_18 => (intro w hSw; (try dsimp only at hSw); go_simp <;> with_reducible rfl)
        try simp only [Act.put, List.setIfInBounds_toArray, List.set_cons_zero, List.set_cons_succ]
        refine hR.take (i := 19) (oi := ?ow396_19) (v := ?vw396_19) (m' := 1048575) ?hw396_19 (by kernel_rfl) (by kernel_rfl) (fun _ _ _ h => h) (Or.inl ⟨?sw396_19, ?yw396_19⟩) (by assumption) ?nw396_19
        case hw396_19 => simp only [List.getElem?_toArray, List.getElem?_cons_succ, List.getElem?_cons_zero]; rfl
        case sw396_19 => rfl
        case yw396_19 => (intro w hSw; (try dsimp only at hSw); go_simp <;> with_reducible rfl)
        try simp only [Act.put, List.setIfInBounds_toArray, List.set_cons_zero, List.set_cons_succ]
        refine hR.take (i := 20) (oi := ?ow397_20) (v := ?vw397_20) (m' := 2097151) ?hw397_20 (by kernel_rfl) (by kernel_rfl) (fun _ _ _ h => h) (Or.inl ⟨?sw397_20, ?yw397_20⟩) (by assumption) ?nw397_20
        case hw397_20 => simp only [List.getElem?_toArray, List.getElem?_cons_succ, List.getElem?_cons_zero]; rfl
        case sw397_20 => rfl
        case yw397_20 => (intro w hSw; (try dsimp only at hSw); go_simp <;> with_reducible rfl)
        try simp only [Act.put, List.setIfInBounds_toArray, List.set_cons_zero, List.set_cons_succ]
        refine hR.take (i := 21) (oi := ?ow398_21) (v := ?vw398_21) (m' := 4194303) ?hw398_21 (by kernel_rfl) (by kernel_rfl) (fun _ _ _ h => h) (Or.inl ⟨?sw398_21, ?yw398_21⟩) (by assumption) ?nw398_21
        case hw398_21 => simp only [List.getElem?_toArray, List.getElem?_cons_succ, List.getElem?_cons_zero]; rfl
        case sw398_21 => rfl
        case yw398_21 => (intro w hSw; (try dsimp only at hSw); go_simp <;> with_reducible rfl)
        try simp only [Act.put, List.setIfInBounds_toArray, List.set_cons_zero, List.set_cons_succ]
        refine hR.all (by kernel_rfl) ?_ _
        refine NoPanic.normal ?_
        have hk : Hid (0 ≤ q.k ∧ q.k ≤ maxKF q.kind ∧ (q.kind = 3 ∨ q.kind = 6 → 1 ≤ q.k)) := Lib.hid (by rw [Hmk.out]; omega)
        clear hk36
        have b1 := b0
        by_cases h7 : q.kind = 7
        · have h7' : (q.kind == 7) = true := by simp [h7]
          have hnf : nFilF q.kind = 2 := by unfold nFilF; rw [if_pos h7]
          by_cases hln : q.fs.length = 2
          · have hl1 : ((q.fs.length : Int) != 2) = false := by simp [hln]
            have Hln := Lib.hid (hln.trans hnf.symm)
            have Hnf := Lib.hid hnf
            clear hln hnf
            have hd := Lib.hid (show HeadOk q from ⟨HK.out.1, HK.out.2.1, HK.out.2.2, hk.out.1, hk.out.2.1, hk.out.2.2, Hln.out⟩)
            go_wp2_with fail
            go_loopw [4] (fun i wx => ∃ j : Nat, j ≤ q.fs.length ∧ i = .int .i64 j ∧ (q.fs.take j).all validFltB = true ∧ Below wc.heap.size wc wx) (fun i _ => q.fs.length - (intOf i).toNat)
            case atStart => exact ⟨0, Nat.zero_le _, rfl, rfl, (Below.refl _ _).drew⟩
            case round =>
              rename_i wo wq
              obtain ⟨j, hj, rfl, ha, hb⟩ := hrel
              have Ha := Lib.hid ha
              have Hb := Lib.hid hb
              have Hs := Lib.hid (H.out.keep (Below.agree hb))
              obtain ⟨x0, x1, x2, x3⟩ := row4 (mvQ gq hb)
              clear ha hb
              have hj0 : (0 : Int) ≤ (j : Int) := by omega
              by_cases hlt : j < q.fs.length
              · have hj1 : (j : Int) < (q.fs.length : Int) := by omega
                have hj2 : (j : Int) < 2 := by have e1 := Hln.out; have e2 := Hnf.out; omega
                obtain ⟨l, hl⟩ : ∃ l, q.fs[j]? = some l := ⟨_, List.getElem?_eq_getElem hlt⟩
                obtain ⟨b5, o5, B5, d5, rfl, -, l5, z5, hs5⟩ := flt_at Hs.out hl
                have Hs5 := Lib.hid hs5
                have Hl := Lib.hid hl
                have hn : (q.fs.take (j + 1)).all validFltB = ((q.fs.take j).all validFltB && validFltB l) := by rw [take_snocR hl]; simp
                have Hn := Lib.hid hn
                clear hl hs5 hn
                cases hvl : validFltB l with
                | true =>
                  go_wp2_with (go_at_call 61; refine (validFltRef (l := l) _ Hs5.out).mono ?_; rw [hvl]; rintro e w6 ⟨rfl, hb6⟩)
                  go_roundw
                  case rel => exact ⟨j + 1, by omega, by go_num, by rw [Hn.out, Ha.out, hvl]; rfl, Hb.out.trans (hb6.mono Hb.out.size)⟩
                  case measure => simp [intOf]; omega
                | false =>
                  go_wp2_with (go_at_call 61; refine (validFltRef (l := l) _ Hs5.out).mono ?_; rw [hvl]; rintro e w6 ⟨rfl, hb6⟩)
                  go_ret
                  exact ⟨ret_b (not_flt (List.mem_of_getElem? Hl.out) hvl).symm, b0.out.trans ((Hb.out.trans (hb6.mono Hb.out.size)).mono b0.out.size)⟩
              · have hj1 : ¬ (j : Int) < (q.fs.length : Int) := by omega
                have hj2 : ¬ (j : Int) < 2 := by have e1 := Hln.out; have e2 := Hnf.out; omega
                go_wp2_with fail
                go_ret
                refine ⟨ret_b ?_, b0.out.trans (Hb.out.mono b0.out.size)⟩
                have := Ha.out
                rw [List.take_of_length_le (by omega)] at this
                unfold validQB
                rw [decide_eq_true hd.out, this]; rfl
          · have hl1 : ((q.fs.length : Int) != 2) = true := by simp; omega
            have hv := Lib.hid (not_head (q := q) fun h => hln (h.2.2.2.2.2.2.trans hnf))
            clear hnf
            go_wp2_with fail
            go_ret
            exact ⟨ret_b hv.out.symm, b0.out.drew⟩
        · have h7' : (q.kind == 7) = false := by simpa using h7
          have hnf : nFilF q.kind = 1 := by unfold nFilF; rw [if_neg h7]
          by_cases hln : q.fs.length = 1
          · have hl1 : ((q.fs.length : Int) != 1) = false := by simp [hln]
            have Hln := Lib.hid (hln.trans hnf.symm)
            have Hnf := Lib.hid hnf
            clear hln hnf
            have hd := Lib.hid (show HeadOk q from ⟨HK.out.1, HK.out.2.1, HK.out.2.2, hk.out.1, hk.out.2.1, hk.out.2.2, Hln.out⟩)
            go_wp2_with fail
            go_loopw [4] (fun i wx => ∃ j : Nat, j ≤ q.fs.length ∧ i = .int .i64 j ∧ (q.fs.take j).all validFltB = true ∧ Below wc.heap.size wc wx) (fun i _ => q.fs.length - (intOf i).toNat)
            case atStart => exact ⟨0, Nat.zero_le _, rfl, rfl, (Below.refl _ _).drew⟩
            case round =>
              rename_i wo wq
              obtain ⟨j, hj, rfl, ha, hb⟩ := hrel
              have Ha := Lib.hid ha
              have Hb := Lib.hid hb
              have Hs := Lib.hid (H.out.keep (Below.agree hb))
              obtain ⟨x0, x1, x2, x3⟩ := row4 (mvQ gq hb)
              clear ha hb
              have hj0 : (0 : Int) ≤ (j : Int) := by omega
              by_cases hlt : j < q.fs.length
              · have hj1 : (j : Int) < (q.fs.length : Int) := by omega
                have hj2 : (j : Int) < 1 := by have e1 := Hln.out; have e2 := Hnf.out; omega
                obtain ⟨l, hl⟩ : ∃ l, q.fs[j]? = some l := ⟨_, List.getElem?_eq_getElem hlt⟩
                obtain ⟨b5, o5, B5, d5, rfl, -, l5, z5, hs5⟩ := flt_at Hs.out hl
                have Hs5 := Lib.hid hs5
                have Hl := Lib.hid hl
                have hn : (q.fs.take (j + 1)).all validFltB = ((q.fs.take j).all validFltB && validFltB l) := by rw [take_snocR hl]; simp
                have Hn := Lib.hid hn
                clear hl hs5 hn
                cases hvl : validFltB l with
                | true =>
                  go_wp2_with (go_at_call 61; refine (validFltRef (l := l) _ Hs5.out).mono ?_; rw [hvl]; rintro e w6 ⟨rfl, hb6⟩)
                  go_roundw
                  case rel => exact ⟨j + 1, by omega, by go_num, by rw [Hn.out, Ha.out, hvl]; rfl, Hb.out.trans (hb6.mono Hb.out.size)⟩
                  case measure => simp [intOf]; omega
                | false =>
                  go_wp2_with (go_at_call 61; refine (validFltRef (l := l) _ Hs5.out).mono ?_; rw [hvl]; rintro e w6 ⟨rfl, hb6⟩)
                  go_ret
                  exact ⟨ret_b (not_flt (List.mem_of_getElem? Hl.out) hvl).symm, b0.out.trans ((Hb.out.trans (hb6.mono Hb.out.size)).mono b0.out.size)⟩
              · have hj1 : ¬ (j : Int) < (q.fs.length : Int) := by omega
                have hj2 : ¬ (j : Int) < 1 := by have e1 := Hln.out; have e2 := Hnf.out; omega
                go_wp2_with fail
                go_ret
                refine ⟨ret_b ?_, b0.out.trans (Hb.out.mono b0.out.size)⟩
                have := Ha.out
                rw [List.take_of_length_le (by omega)] at this
                unfold validQB
                rw [decide_eq_true hd.out, this]; rfl
          · have hl1 : ((q.fs.length : Int) != 1) = true := by simp; omega
            have hv := Lib.hid (not_head (q := q) fun h => hln (h.2.2.2.2.2.2.trans hnf))
            clear hnf
            go_wp2_with fail
            go_ret
            exact ⟨ret_b hv.out.symm, b0.out.drew⟩
    · subst hmk0
      refine wp_region_noPanic ?_
      refine wp_region_held_drew (S := fun X => Below wc.heap.size wc X) (by kernel_rfl) ?_ (fun hHeld => ?_)
      · (first | with_reducible assumption | (with_reducible refine Below.drew ?_; with_reducible assumption) | (with_reducible refine ba _ _ ?_; with_reducible assumption) | (with_reducible refine Below.drew ?_; with_reducible refine ba _ _ ?_; with_reducible assumption) | exact Below.refl _ _ | exact (Below.refl _ _).drew | exact (Below.refl _ _).alloc (Nat.le_refl _) _ | (refine bc _ _ (by assumption) (by assumption)))
      refine RegOk.begin_ (n := 22) (T := q6A) ⟨by kernel_rfl, by kernel_rfl, by kernel_rfl, by kernel_rfl⟩ fun hR => ?_
      refine hR.take (i := 0) (oi := ?ow399_0) (v := ?vw399_0) (m' := 1) ?hw399_0 (by kernel_rfl) (by kernel_rfl) (fun _ _ _ h => h) (Or.inl ⟨?sw399_0, ?yw399_0⟩) (by assumption) ?nw399_0
      case hw399_0 => simp only [List.getElem?_toArray, List.getElem?_cons_succ, List.getElem?_cons_zero]; rfl
      case sw399_0 => rfl
      case yw399_0 => (intro w hSw; (try dsimp only at hSw); go_simp <;> with_reducible rfl)
      try simp only [Act.put, List.setIfInBounds_toArray, List.set_cons_zero, List.set_cons_succ]
      refine hR.take (i := 1) (oi := ?ow400_1) (v := ?vw400_1) (m' := 3) ?hw400_1 (by kernel_rfl) (by kernel_rfl) (fun _ _ _ h => h) (Or.inl ⟨?sw400_1, ?yw400_1⟩) (by assumption) ?nw400_1
      case hw400_1 => simp only [List.getElem?_toArray, List.getElem?_cons_succ, List.getElem?_cons_zero]; rfl
      case sw400_1 => rfl
      case yw400_1 => (intro w hSw; (try dsimp only at hSw); go_simp <;> with_reducible rfl)
      try simp only [Act.put, List.setIfInBounds_toArray, List.set_cons_zero, List.set_cons_succ]
      refine hR.take (i := 2) (oi := ?ow401_2) (v := ?vw401_2) (m' := 7) ?hw401_2 (by kernel_rfl) (by kernel_rfl) (fun _ _ _ h => h) (Or.inl ⟨?sw401_2, ?yw401_2⟩) (by assumption) ?nw401_2
      case hw401_2 => simp only [List.getElem?_toArray, List.getElem?_cons_succ, List.getElem?_cons_zero]; rfl
      case sw401_2 => rfl
      case yw401_2 => (intro w hSw; (try dsimp only at hSw); go_simp <;> with_reducible rfl)
      try simp only [Act.put, List.setIfInBounds_toArray, List.set_cons_zero, List.set_cons_succ]
      refine hR.take (i := 3) (oi := ?ow402_3) (v := ?vw402_3) (m' := 15) ?hw402_3 (by kernel_rfl) (by kernel_rfl) (fun _ _ _ h => h) (Or.inl ⟨?sw402_3, ?yw402_3⟩) (by assumption) ?nw402_3
      case hw402_3 => simp only [List.getElem?_toArray, List.getElem?_cons_succ, List.getElem?_cons_zero]; rfl
      case sw402_3 => rfl
      case yw402_3 => (intro w hSw; (try dsimp only at hSw); go_simp <;> with_reducible rfl)
      try simp only [Act.put, List.setIfInBounds_toArray, List.set_cons_zero, List.set_cons_succ]
      refine hR.take (i := 4) (oi := ?ow403_4) (v := ?vw403_4) (m' := 31) ?hw403_4 (by kernel_rfl) (by kernel_rfl) (fun _ _ _ h => h) (Or.inl ⟨?sw403_4, ?yw403_4⟩) (by assumption) ?nw403_4
      case hw403_4 => simp only [List.getElem?_toArray, List.getElem?_cons_succ, List.getElem?_cons_zero]; rfl
      case sw403_4 => rfl
      case yw403_4 => (intro w hSw; (try dsimp only at hSw); go_simp <;> with_reducible rfl)
      try simp only [Act.put, List.setIfInBounds_toArray, List.set_cons_zero, List.set_cons_succ]
      refine hR.take (i := 5) (oi := ?ow404_5) (v := ?vw404_5) (m' := 63) ?hw404_5 (by kernel_rfl) (by kernel_rfl) (fun _ _ _ h => h) (Or.inl ⟨?sw404_5, ?yw404_5⟩) (by assumption) ?nw404_5
      case hw404_5 => simp only [List.getElem?_toArray, List.getElem?_cons_succ, List.getElem?_cons_zero]; rfl
      case sw404_5 => rfl
      case yw404_5 => (intro w hSw; (try dsimp only at hSw); go_simp <;> with_reducible rfl)
      try simp only [Act.put, List.setIfInBounds_toArray, List.set_cons_zero, List.set_cons_succ]
      refine hR.take (i := 6) (oi := ?ow405_6) (v := ?vw405_6) (m' := 127) ?hw405_6 (by kernel_rfl) (by kernel_rfl) (fun _ _ _ h => h) (Or.inl ⟨?sw405_6, ?yw405_6⟩) (by assumption) ?nw405_6
      case hw405_6 => simp only [List.getElem?_toArray, List.getElem?_cons_succ, List.getElem?_cons_zero]; rfl
      case sw405_6 => rfl
      case yw405_6 => (intro w hSw; (try dsimp only at hSw); go_simp <;> with_reducible rfl)
      try simp only [Act.put, List.setIfInBounds_toArray, List.set_cons_zero, List.set_cons_succ]
      refine hR.take (i := 7) (oi := ?ow406_7) (v := ?vw406_7) (m' := 255) ?hw406_7 (by kernel_rfl) (by kernel_rfl) (fun _ _ _ h => h) (Or.inl ⟨?sw406_7, ?yw406_7⟩) (by assumption) ?nw406_7
      case hw406_7 => simp only [List.getElem?_toArray, List.getElem?_cons_succ, List.getElem?_cons_zero]; rfl
      case sw406_7 => rfl
      case yw406_7 => (intro w hSw; (try dsimp only at hSw); go_simp <;> with_reducible rfl)
      try simp only [Act.put, List.setIfInBounds_toArray, List.set_cons_zero, List.set_cons_succ]
      refine hR.come (rs := [8]) (by kernel_rfl) (by simp) ?_
      refine AllReadyH.cons (o := ?o407_8) ?h407_8 (fun K hK => ?kw407_8) AllReadyH.nil
      case h407_8 => simp only [List.getElem?_toArray, List.getElem?_cons_succ, List.getElem?_cons_zero]; rfl
      go_simp
      go_at_call 41; refine (maxKRef _ _).mono ?_; rw [Hmk.out]; rintro e w2 ⟨rfl, rfl⟩
      refine hK.out _ _ ?_ (fun hHeld => ?_)
      · (first | with_reducible assumption | (with_reducible refine Below.drew ?_; with_reducible assumption) | (with_reducible refine ba _ _ ?_; with_reducible assumption) | (with_reducible refine Below.drew ?_; with_reducible refine ba _ _ ?_; with_reducible assumption) | exact Below.refl _ _ | exact (Below.refl _ _).drew | exact (Below.refl _ _).alloc (Nat.le_refl _) _ | (refine bc _ _ (by assumption) (by assumption)))
      clear hK K
      refine RegOk.put_ (m' := 511) (by kernel_rfl) ?_
      try simp only [Act.put, List.setIfInBounds_toArray, List.set_cons_zero, List.set_cons_succ]
      refine hR.take (i := 9) (oi := ?ow408_9) (v := ?vw408_9) (m' := 1023) ?hw408_9 (by kernel_rfl) (by kernel_rfl) (fun _ _ _ h => h) (Or.inl ⟨?sw408_9, ?yw408_9⟩) (by assumption) ?nw408_9
      case hw408_9 => simp only [List.getElem?_toArray, List.getElem?_cons_succ, List.getElem?_cons_zero]; rfl
      case sw408_9 => rfl
      case yw408_9 => (intro w hSw; (try dsimp only at hSw); go_simp <;> with_reducible rfl)
      try simp only [Act.put, List.setIfInBounds_toArray, List.set_cons_zero, List.set_cons_succ]
      refine hR.take (i := 10) (oi := ?ow409_10) (v := ?vw409_10) (m' := 2047) ?hw409_10 (by kernel_rfl) (by kernel_rfl) (fun _ _ _ h => h) (Or.inl ⟨?sw409_10, ?yw409_10⟩) (by assumption) ?nw409_10
      case hw409_10 => simp only [List.getElem?_toArray, List.getElem?_cons_succ, List.getElem?_cons_zero]; rfl
      case sw409_10 => rfl
      case yw409_10 => (intro w hSw; (try dsimp only at hSw); go_simp <;> with_reducible rfl)
      try simp only [Act.put, List.setIfInBounds_toArray, List.set_cons_zero, List.set_cons_succ]
      refine hR.take (i := 11) (oi := ?ow410_11) (v := ?vw410_11) (m' := 4095) ?hw410_11 (by kernel_rfl) (by kernel_rfl) (fun _ _ _ h => h) (Or.inl ⟨?sw410_11, ?yw410_11⟩) (by assumption) ?nw410_11
      case hw410_11 => simp only [List.getElem?_toArray, List.getElem?_cons_succ, List.getElem?_cons_zero]; rfl
      case sw410_11 => rfl
      case yw410_11 => (intro w hSw; (try dsimp only at hSw); go_simp <;> with_reducible rfl)
      try simp only [Act.put, List.setIfInBounds_toArray, List.set_cons_zero, List.set_cons_succ]
      refine hR.take (i := 12) (oi := ?ow411_12) (v := ?vw411_12) (m' := 8191) ?hw411_12 (by kernel_rfl) (by kernel_rfl) (fun _ _ _ h => h) (Or.inl ⟨?sw411_12, ?yw411_12⟩) (by assumption) ?nw411_12
      case hw411_12 => simp only [List.getElem?_toArray, List.getElem?_cons_succ, List.getElem?_cons_zero]; rfl
      case sw411_12 => rfl
      case yw411_12 => (intro w hSw; (try dsimp only at hSw); go_simp <;> with_reducible rfl)
      try simp only [Act.put, List.setIfInBounds_toArray, List.set_cons_zero, List.set_cons_succ]
      refine hR.take (i := 13) (oi := ?ow412_13) (v := ?vw412_13) (m' := 16383) ?hw412_13 (by kernel_rfl) (by kernel_rfl) (fun _ _ _ h => h) (Or.inl ⟨?sw412_13, ?yw412_13⟩) (by assumption) ?nw412_13
      case hw412_13 => simp only [List.getElem?_toArray, List.getElem?_cons_succ, List.getElem?_cons_zero]; rfl
      case sw412_13 => rfl
      case yw412_13 => (intro w hSw; (try dsimp only at hSw); go_simp <;> with_reducible rfl)
      try simp only [Act.put, List.setIfInBounds_toArray, List.set_cons_zero, List.set_cons_succ]
      refine hR.come (rs := [14]) (by kernel_rfl) (by simp) ?_
      refine AllReadyH.cons (o := ?o413_14) ?h413_14 (fun K hK => ?kw413_14) AllReadyH.nil
      case h413_14 => simp only [List.getElem?_toArray, List.getElem?_cons_succ, List.getElem?_cons_zero]; rfl
      go_simp
      go_at_call 41; refine (maxKRef _ _).mono ?_; rw [Hmk.out]; rintro e w3 ⟨rfl, rfl⟩
      refine hK.out _ _ ?_ (fun hHeld => ?_)
      · (first | with_reducible assumption | (with_reducible refine Below.drew ?_; with_reducible assumption) | (with_reducible refine ba _ _ ?_; with_reducible assumption) | (with_reducible refine Below.drew ?_; with_reducible refine ba _ _ ?_; with_reducible assumption) | exact Below.refl _ _ | exact (Below.refl _ _).drew | exact (Below.refl _ _).alloc (Nat.le_refl _) _ | (refine bc _ _ (by assumption) (by assumption)))
      clear hK K
      refine RegOk.put_ (m' := 32767) (by kernel_rfl) ?_
      try simp only [Act.put, List.setIfInBounds_toArray, List.set_cons_zero, List.set_cons_succ]
      refine hR.take (i := 15) (oi := ?ow414_15) (v := ?vw414_15) (m' := 65535) ?hw414_15 (by kernel_rfl) (by kernel_rfl) (fun _ _ _ h => h) (Or.inl ⟨?sw414_15, ?yw414_15⟩) (by assumption) ?nw414_15
      case hw414_15 => simp only [List.getElem?_toArray, List.getElem?_cons_succ, List.getElem?_cons_zero]; rfl
      case sw414_15 => rfl
      case yw414_15 => (intro w hSw; (try dsimp only at hSw); go_simp <;> with_reducible rfl)
      try simp only [Act.put, List.setIfInBounds_toArray, List.set_cons_zero, List.set_cons_succ]
      refine hR.take (i := 16) (oi := ?ow415_16) (v := ?vw415_16) (m' := 131071) ?hw415_16 (by kernel_rfl) (by kernel_rfl) (fun _ _ _ h => h) (Or.inl ⟨?sw415_16, ?yw415_16⟩) (by assumption) ?nw415_16
      case hw415_16 => simp only [List.getElem?_toArray, List.getElem?_cons_succ, List.getElem?_cons_zero]; rfl
      case sw415_16 => rfl
      case yw415_16 => (intro w hSw; (try dsimp only at hSw); go_simp <;> with_reducible rfl)
      try simp only [Act.put, List.setIfInBounds_toArray, List.set_cons_zero, List.set_cons_succ]
      refine hR.take (i := 17) (oi := ?ow416_17) (v := ?vw416_17) (m' := 262143) ?hw416_17 (by kernel_rfl) (by kernel_rfl) (fun _ _ _ h => h) (Or.inr ⟨?sw416_17, ?yw416_17⟩) (by assumption) ?nw416_17
      case hw416_17 => simp only [List.getElem?_toArray, List.getElem?_cons_succ, List.getElem?_cons_zero]; rfl
      case sw416_17 => rfl
      case yw416_17 => rfl
      try simp only [Act.put, List.setIfInBounds_toArray, List.set_cons_zero, List.set_cons_succ]
      refine hR.take (i := 18) (oi := ?ow417_18) (v := ?vw417_18) (m' := 524287) ?hw417_18 (by kernel_rfl) (by kernel_rfl) (fun _ _ _ h => h) (Or.inr ⟨?sw417_18, ?yw417_18⟩) (by assumption) ?nw417_18
      case hw417_18 => simp only [List.getElem?_toArray, List.getElem?_cons_succ, List.getElem?_cons_zero]; rfl
      case sw417_18 => rfl
      case yw417_18 => rfl
      try simp only [Act.put, List.setIfInBounds_toArray, List.set_cons_zero, List.set_cons_succ]
      refine hR.take (i := 19) (oi := ?ow418_19) (v := ?vw418_19) (m' := 1048575) ?hw418_19 (by kernel_rfl) (by kernel_rfl) (fun _ _ _ h => h) (Or.inr ⟨?sw418_19, ?yw418_19⟩) (by assumption) ?nw418_19
      case hw418_19 => simp only [List.getElem?_toArray, List.getElem?_cons_succ, List.getElem?_cons_zero]; rfl
      case sw418_19 => rfl
      case yw418_19 => rfl
      try simp only [Act.put, List.setIfInBounds_toArray, List.set_cons_zero, List.set_cons_succ]
      refine hR.take (i := 20) (oi := ?ow419_20) (v := ?vw419_20) (m' := 2097151) ?hw419_20 (by kernel_rfl) (by kernel_rfl) (fun _ _ _ h => h) (Or.inl ⟨?sw419_20, ?yw419_20⟩) (by assumption) ?nw419_20
      case hw419_20 => simp only [List.getElem?_toArray, List.getElem?_cons_succ, List.getElem?_cons_zero]; rfl
      case sw419_20 => rfl
      case yw419_20 => (intro w hSw; (try dsimp only at hSw); go_simp <;> with_reducible rfl)
      try simp only [Act.put, List.setIfInBounds_toArray, List.set_cons_zero, List.set_cons_succ]
      refine hR.take (i := 21) (oi := ?ow420_21) (v := ?vw420_21) (m' := 4194303) ?hw420_21 (by kernel_rfl) (by kernel_rfl) (fun _ _ _ h => h) (Or.inl ⟨?sw420_21, ?yw420_21⟩) (by assumption) ?nw420_21
      case hw420_21 => simp only [List.getElem?_toArray, List.getElem?_cons_succ, List.getElem?_cons_zero]; rfl
      case sw420_21 => rfl
      case yw420_21 => (intro w hSw; (try dsimp only at hSw); go_simp <;> with_reducible rfl)
      try simp only [Act.put, List.setIfInBounds_toArray, List.set_cons_zero, List.set_cons_succ]
      refine hR.all (by kernel_rfl) ?_ _
      refine NoPanic.normal ?_
      have hk : Hid (0 ≤ q.k ∧ q.k ≤ maxKF q.kind ∧ (q.kind = 3 ∨ q.kind = 6 → 1 ≤ q.k)) := Lib.hid (by rw [Hmk.out]; omega)
      clear hk36
      have b1 := b0
      by_cases h7 : q.kind = 7
      · have h7' : (q.kind == 7) = true := by simp [h7]
        have hnf : nFilF q.kind = 2 := by unfold nFilF; rw [if_pos h7]
        by_cases hln : q.fs.length = 2
        · have hl1 : ((q.fs.length : Int) != 2) = false := by simp [hln]
          have Hln := Lib.hid (hln.trans hnf.symm)
          have Hnf := Lib.hid hnf
          clear hln hnf
          have hd := Lib.hid (show HeadOk q from ⟨HK.out.1, HK.out.2.1, HK.out.2.2, hk.out.1, hk.out.2.1, hk.out.2.2, Hln.out⟩)
          go_wp2_with fail
          go_loopw [4] (fun i wx => ∃ j : Nat, j ≤ q.fs.length ∧ i = .int .i64 j ∧ (q.fs.take j).all validFltB = true ∧ Below wc.heap.size wc wx) (fun i _ => q.fs.length - (intOf i).toNat)
          case atStart => exact ⟨0, Nat.zero_le _, rfl, rfl, (Below.refl _ _).drew⟩
          case round =>
            rename_i wo wq
            obtain ⟨j, hj, rfl, ha, hb⟩ := hrel
            have Ha := Lib.hid ha
            have Hb := Lib.hid hb
            have Hs := Lib.hid (H.out.keep (Below.agree hb))
            obtain ⟨x0, x1, x2, x3⟩ := row4 (mvQ gq hb)
            clear ha hb
            have hj0 : (0 : Int) ≤ (j : Int) := by omega
            by_cases hlt : j < q.fs.length
            · have hj1 : (j : Int) < (q.fs.length : Int) := by omega
              have hj2 : (j : Int) < 2 := by have e1 := Hln.out; have e2 := Hnf.out; omega
              obtain ⟨l, hl⟩ : ∃ l, q.fs[j]? = some l := ⟨_, List.getElem?_eq_getElem hlt⟩
              obtain ⟨b5, o5, B5, d5, rfl, -, l5, z5, hs5⟩ := flt_at Hs.out hl
              have Hs5 := Lib.hid hs5
              have Hl := Lib.hid hl
              have hn : (q.fs.take (j + 1)).all validFltB = ((q.fs.take j).all validFltB && validFltB l) := by rw [take_snocR hl]; simp
              have Hn := Lib.hid hn
              clear hl hs5 hn
              cases hvl : validFltB l with
              | true =>
                go_wp2_with (go_at_call 61; refine (validFltRef (l := l) _ Hs5.out).mono ?_; rw [hvl]; rintro e w6 ⟨rfl, hb6⟩)
                go_roundw
                case rel => exact ⟨j + 1, by omega, by go_num, by rw [Hn.out, Ha.out, hvl]; rfl, Hb.out.trans (hb6.mono Hb.out.size)⟩
                case measure => simp [intOf]; omega
              | false =>
                go_wp2_with (go_at_call 61; refine (validFltRef (l := l) _ Hs5.out).mono ?_; rw [hvl]; rintro e w6 ⟨rfl, hb6⟩)
                go_ret
                exact ⟨ret_b (not_flt (List.mem_of_getElem? Hl.out) hvl).symm, b0.out.trans ((Hb.out.trans (hb6.mono Hb.out.size)).mono b0.out.size)⟩
            · have hj1 : ¬ (j : Int) < (q.fs.length : Int) := by omega
              have hj2 : ¬ (j : Int) < 2 := by have e1 := Hln.out; have e2 := Hnf.out; omega
              go_wp2_with fail
              go_ret
              refine ⟨ret_b ?_, b0.out.trans (Hb.out.mono b0.out.size)⟩
              have := Ha.out
              rw [List.take_of_length_le (by omega)] at this
              unfold validQB
              rw [decide_eq_true hd.out, this]; rfl
        · have hl1 : ((q.fs.length : Int) != 2) = true := by simp; omega
          have hv := Lib.hid (not_head (q := q) fun h => hln (h.2.2.2.2.2.2.trans hnf))
          clear hnf
          go_wp2_with fail
          go_ret
          exact ⟨ret_b hv.out.symm, b0.out.drew⟩
      · have h7' : (q.kind == 7) = false := by simpa using h7
        have hnf : nFilF q.kind = 1 := by unfold nFilF; rw [if_neg h7]
        by_cases hln : q.fs.length = 1
        · have hl1 : ((q.fs.length : Int) != 1) = false := by simp [hln]
          have Hln := Lib.hid (hln.trans hnf.symm)
          have Hnf := Lib.hid hnf
          clear hln hnf
          have hd := Lib.hid (show HeadOk q from ⟨HK.out.1, HK.out.2.1, HK.out.2.2, hk.out.1, hk.out.2.1, hk.out.2.2, Hln.out⟩)
          go_wp2_with fail
          go_loopw [4] (fun i wx => ∃ j : Nat, j ≤ q.fs.length ∧ i = .int .i64 j ∧ (q.fs.take j).all validFltB = true ∧ Below wc.heap.size wc wx) (fun i _ => q.fs.length - (intOf i).toNat)
          case atStart => exact ⟨0, Nat.zero_le _, rfl, rfl, (Below.refl _ _).drew⟩
          case round =>
            rename_i wo wq
            obtain ⟨j, hj, rfl, ha, hb⟩ := hrel
            have Ha := Lib.hid ha
            have Hb := Lib.hid hb
            have Hs := Lib.hid (H.out.keep (Below.agree hb))
            obtain ⟨x0, x1, x2, x3⟩ := row4 (mvQ gq hb)
            clear ha hb
            have hj0 : (0 : Int) ≤ (j : Int) := by omega
            by_cases hlt : j < q.fs.length
            · have hj1 : (j : Int) < (q.fs.length : Int) := by omega
              have hj2 : (j : Int) < 1 := by have e1 := Hln.out; have e2 := Hnf.out; omega
              obtain ⟨l, hl⟩ : ∃ l, q.fs[j]? = some l := ⟨_, List.getElem?_eq_getElem hlt⟩
              obtain ⟨b5, o5, B5, d5, rfl, -, l5, z5, hs5⟩ := flt_at Hs.out hl
              have Hs5 := Lib.hid hs5
              have Hl := Lib.hid hl
              have hn : (q.fs.take (j + 1)).all validFltB = ((q.fs.take j).all validFltB && validFltB l) := by rw [take_snocR hl]; simp
              have Hn := Lib.hid hn
              clear hl hs5 hn
              cases hvl : validFltB l with
              | true =>
                go_wp2_with (go_at_call 61; refine (validFltRef (l := l) _ Hs5.out).mono ?_; rw [hvl]; rintro e w6 ⟨rfl, hb6⟩)
                go_roundw
                case rel => exact ⟨j + 1, by omega, by go_num, by rw [Hn.out, Ha.out, hvl]; rfl, Hb.out.trans (hb6.mono Hb.out.size)⟩
                case measure => simp [intOf]; omega
              | false =>
                go_wp2_with (go_at_call 61; refine (validFltRef (l := l) _ Hs5.out).mono ?_; rw [hvl]; rintro e w6 ⟨rfl, hb6⟩)
                go_ret
                exact ⟨ret_b (not_flt (List.mem_of_getElem? Hl.out) hvl).symm, b0.out.trans ((Hb.out.trans (hb6.mono Hb.out.size)).mono b0.out.size)⟩
            · have hj1 : ¬ (j : Int) < (q.fs.length : Int) := by omega
              have hj2 : ¬ (j : Int) < 1 := by have e1 := Hln.out; have e2 := Hnf.out; omega
              go_wp2_with fail
              go_ret
              refine ⟨ret_b ?_, b0.out.trans (Hb.out.mono b0.out.size)⟩
              have := Ha.out
              rw [List.take_of_length_le (by omega)] at this
              unfold validQB
              rw [decide_eq_true hd.out, this]; rfl
        · have hl1 : ((q.fs.length : Int) != 1) = true := by simp; omega
          have hv := Lib.hid (not_head (q := q) fun h => hln (h.2.2.2.2.2.2.trans hnf))
          clear hnf
          go_wp2_with fail
          go_ret
          exact ⟨ret_b hv.out.symm, b0.out.drew⟩
end Go.Proofs.YtmkpaolbejlodaaDoor
