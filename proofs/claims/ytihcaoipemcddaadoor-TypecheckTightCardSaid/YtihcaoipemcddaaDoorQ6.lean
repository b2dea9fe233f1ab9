/-
  Contracts of the queries (XQ6): the reference's Valid.
-/
import Derived.Test.YtihcaoipemcddaaDoorQ5
namespace Go.Proofs.YtihcaoipemcddaaDoor
open Go.RowKit

def q6A : List FRow := [(0, ([], (35, [1]))), (1, ([0], (36, [34]))), (2, ([1], (37, [35]))), (3, ([2], (38, [36]))), (4, ([3], (39, [1, 37]))), (5, ([4, 3], (40, [38, 37]))), (6, ([3], (41, [1, 37]))), (7, ([6, 3], (42, [40, 37]))), (8, ([7, 3, 3], (43, [41, 37]))), (9, ([5, 8, 3], (44, [39, 42, 37]))), (10, ([3, 9], (45, [37, 43]))), (11, ([10, 8], (46, [44]))), (12, ([11], (47, [1, 45]))), (13, ([12, 11], (48, [46, 45]))), (14, ([13, 11, 11], (49, [47, 45]))), (15, ([14, 11], (50, [48, 45]))), (16, ([15, 14, 11], (51, [49, 45]))), (17, ([16], (52, [1, 50]))), (18, ([17, 16], (53, [51, 50]))), (19, ([18, 16], (54, [52, 50]))), (20, ([16, 19, 11], (55, [50, 53, 45]))), (21, ([11, 20], (56, [45, 54])))]
set_option maxRecDepth 100000 in
set_option maxHeartbeats 8000000 in
theorem validRef {q : Qy} {A : Option Addr} {c : Nat} {S : Nat → Prop} (w : World) (h : Sl cdE.slice S w A c q.fs) :
    Calls Tryd.prog 32 #[(.agg #[.int .i64 q.kind, .int .i64 q.col, .int .i64 q.k, .slice A q.fs.length c])] w fun e w' => e = .returned (.bool (validQB q)) ∧ Below w.heap.size w w' := by
  have H := Lib.hid h
  have hm := h.max
  clear h
  go_enter Tryd.func32, Tryd.ntmps32
  go_upto_region 1 with fail
  refine wp_world (F := fun wx => Below w.heap.size w wx ∧ Hid (wx.heap[w.heap.size]? = some (.cells #[.int .i64 q.kind, .int .i64 q.col, .int .i64 q.k, .slice A q.fs.length c] 24 (0, 0)))) ⟨(Below.refl _ _).alloc (Nat.le_refl _) _, Lib.hid (heap_alloc_at rfl)⟩ ?_
  rintro wr ⟨bb, gq⟩
  have b0 := Lib.hid bb
  replace H := Lib.hid (H.out.keep (Below.agree bb))
  clear bb
  obtain ⟨x0, x1, x2, x3⟩ := row4 gq
  obtain ⟨hc, hhc⟩ : ∃ hc, hasColB q.kind = hc := ⟨_, rfl⟩
  have hhc' : hc = true ↔ (2 ≤ q.kind ∧ q.kind ≤ 6) := by rw [← hhc]; simp [hasColB]
  have Hhc := Lib.hid hhc'
  clear hhc'
  by_cases c1 : q.kind < 1
  · have hv := Lib.hid (not_head (q := q) fun h => by have := h.1; omega)
    (clear gq H; go_wp2_with (first | (go_at_call 35; refine (hasColRef _ _).mono ?_; rw [hhc]; rintro e w2 ⟨rfl, rfl⟩)); go_ret; exact ⟨ret_b hv.out.symm, b0.out⟩)
  by_cases c2 : 7 < q.kind
  · have hv := Lib.hid (not_head (q := q) fun h => by have := h.1; omega)
    (clear gq H; go_wp2_with (first | (go_at_call 35; refine (hasColRef _ _).mono ?_; rw [hhc]; rintro e w2 ⟨rfl, rfl⟩)); go_ret; exact ⟨ret_b hv.out.symm, b0.out⟩)
  by_cases c3 : q.col < 0
  · have hv := Lib.hid (not_head (q := q) fun h => by have := h.2.1; omega)
    (clear gq H; go_wp2_with (first | (go_at_call 35; refine (hasColRef _ _).mono ?_; rw [hhc]; rintro e w2 ⟨rfl, rfl⟩)); go_ret; exact ⟨ret_b hv.out.symm, b0.out⟩)
  by_cases c4 : 3 < q.col
  · have hv := Lib.hid (not_head (q := q) fun h => by have := h.2.1; omega)
    (clear gq H; go_wp2_with (first | (go_at_call 35; refine (hasColRef _ _).mono ?_; rw [hhc]; rintro e w2 ⟨rfl, rfl⟩)); go_ret; exact ⟨ret_b hv.out.symm, b0.out⟩)
  have f1 : decide (q.kind < 1) = false := decide_eq_false c1
  have f2 : decide (7 < q.kind) = false := decide_eq_false c2
  have f3 : decide (q.col < 0) = false := decide_eq_false c3
  have f4 : decide (3 < q.col) = false := decide_eq_false c4
  by_cases c5 : q.col = 0 ∨ hc = true
  rotate_left
  · have hv := Lib.hid (not_head (q := q) fun h => by
      rcases h.2.2.1 with h | h
      · exact c5 (.inl h)
      · exact c5 (.inr (Hhc.out.2 h)))
    have f5 : (q.col != 0) = true := by simp; omega
    have f6 : hc = false := by simpa using fun h => c5 (.inr h)
    clear c5
    subst f6
    (clear gq H; go_wp2_with (first | (go_at_call 35; refine (hasColRef _ _).mono ?_; rw [hhc]; rintro e w2 ⟨rfl, rfl⟩)); go_ret; exact ⟨ret_b hv.out.symm, b0.out⟩)
  have HK : Hid ((1 ≤ q.kind ∧ q.kind ≤ 7) ∧ (0 ≤ q.col ∧ q.col ≤ 3) ∧ (q.col = 0 ∨ (2 ≤ q.kind ∧ q.kind ≤ 6))) := Lib.hid ⟨by omega, by omega, c5.imp id (fun h => Hhc.out.1 h)⟩
  obtain ⟨mk, hmk⟩ : ∃ mk, maxKF q.kind = mk := ⟨_, rfl⟩
  have hmk3 : (0 < mk ∧ (q.kind = 3 ∨ q.kind = 6)) ∨ (mk = 0 ∧ ¬ (q.kind = 3 ∨ q.kind = 6)) := by
    rw [← hmk]; unfold maxKF
    split
    · omega
    · split <;> omega
  have Hmk := Lib.hid hmk
  have zq : ∀ W, Below wr.heap.size wr W → _ ∧ _ ∧ _ ∧ _ := fun W hW => row4 (mvQ gq hW)
  have br : Below wr.heap.size wr wr := Below.refl _ _
  have ba : ∀ W o, Below wr.heap.size wr W → Below wr.heap.size wr (W.alloc o) := fun W o h => h.alloc h.size o
  have bc : ∀ W W', Below wr.heap.size wr W → Below W.heap.size W W' → Below wr.heap.size wr W' := fun W W' h k => h.trans (k.mono h.size)
  clear hmk
  go_cut [33] (fun v wx => v = .bool false ∧ wx = wr)
  case first =>
    by_cases h0 : q.col = 0
    · have f5 : (q.col != 0) = false := by simp [h0]
      clear h0 c5
      go_wp2_with fail
      go_meet
      exact ⟨rfl, rfl⟩
    · have f5 : (q.col != 0) = true := by simp [h0]
      have f6 : hc = true := c5.resolve_left h0
      subst f6
      clear h0 c5
      go_wp2_with (go_at_call 35; refine (hasColRef _ _).mono ?_; rw [hhc]; rintro e w2 ⟨rfl, rfl⟩)
      go_meet
      exact ⟨rfl, rfl⟩
  case rest =>
    obtain ⟨rfl, rfl⟩ := hcut
    have zq : ∀ W, Below wc.heap.size wc W → _ ∧ _ ∧ _ ∧ _ := fun W hW => row4 (mvQ gq hW)
    have br : Below wc.heap.size wc wc := Below.refl _ _
    have ba : ∀ W o, Below wc.heap.size wc W → Below wc.heap.size wc (W.alloc o) := fun W o h => h.alloc h.size o
    have bc : ∀ W W', Below wc.heap.size wc W → Below W.heap.size W W' → Below wc.heap.size wc W' := fun W W' h k => h.trans (k.mono h.size)
    clear c1 c2 c3 c4 c5 f1 f2 f3 f4 Hhc x0 x1 x2 x3
    go_upto_region 3 with fail
    by_cases k1 : q.k < 0
    · have hv := Lib.hid (not_head (q := q) fun h => by have := h.2.2.2.1; omega)
      have g1 : (q.k < 0) = True := eq_true k1
      refine wp_region_noPanic ?_
      refine wp_region_held_drew (S := fun X => Below wc.heap.size wc X) (by kernel_rfl) ?_ (fun hHeld => ?_)
      · (first | with_reducible assumption | (with_reducible refine Below.drew ?_; with_reducible assumption) | (with_reducible refine ba _ _ ?_; with_reducible assumption) | (with_reducible refine Below.drew ?_; with_reducible refine ba _ _ ?_; with_reducible assumption) | exact Below.refl _ _ | exact (Below.refl _ _).drew | exact (Below.refl _ _).alloc (Nat.le_refl _) _ | (refine bc _ _ (by assumption) (by assumption)))
      refine RegOk.begin_ (n := 22) (T := q6A) ⟨by kernel_rfl, by kernel_rfl, by kernel_rfl, by kernel_rfl⟩ fun hR => ?_
      refine hR.take (i := 0) (oi := ?ow1_0) (v := ?vw1_0) (m' := 1) ?hw1_0 (by kernel_rfl) (by kernel_rfl) (fun _ _ _ h => h) (Or.inl ⟨?sw1_0, ?yw1_0⟩) (by assumption) ?nw1_0
      case hw1_0 => simp only [List.getElem?_toArray, List.getElem?_cons_succ, List.getElem?_cons_zero]; rfl
      case sw1_0 => rfl
      case yw1_0 => (intro w hSw; (try dsimp only at hSw); go_simp <;> with_reducible rfl)
      try simp only [Act.put, List.setIfInBounds_toArray, List.set_cons_zero, List.set_cons_succ]
      refine hR.take (i := 1) (oi := ?ow2_1) (v := ?vw2_1) (m' := 3) ?hw2_1 (by kernel_rfl) (by kernel_rfl) (fun _ _ _ h => h) (Or.inl ⟨?sw2_1, ?yw2_1⟩) (by assumption) ?nw2_1
      case hw2_1 => simp only [List.getElem?_toArray, List.getElem?_cons_succ, List.getElem?_cons_zero]; rfl
      case sw2_1 => rfl
      case yw2_1 => (intro w hSw; (try dsimp only at hSw); go_simp <;> with_reducible rfl)
      try simp only [Act.put, List.setIfInBounds_toArray, List.set_cons_zero, List.set_cons_succ]
      refine hR.take (i := 2) (oi := ?ow3_2) (v := ?vw3_2) (m' := 7) ?hw3_2 (by kernel_rfl) (by kernel_rfl) (fun _ _ _ h => h) (Or.inl ⟨?sw3_2, ?yw3_2⟩) (by assumption) ?nw3_2
      case hw3_2 => simp only [List.getElem?_toArray, List.getElem?_cons_succ, List.getElem?_cons_zero]; rfl
      case sw3_2 => rfl
      case yw3_2 => (intro w hSw; (try dsimp only at hSw); go_simp <;> with_reducible rfl)
      try simp only [Act.put, List.setIfInBounds_toArray, List.set_cons_zero, List.set_cons_succ]
      refine hR.take (i := 3) (oi := ?ow4_3) (v := ?vw4_3) (m' := 15) ?hw4_3 (by kernel_rfl) (by kernel_rfl) (fun _ _ _ h => h) (Or.inl ⟨?sw4_3, ?yw4_3⟩) (by assumption) ?nw4_3
      case hw4_3 => simp only [List.getElem?_toArray, List.getElem?_cons_succ, List.getElem?_cons_zero]; rfl
      case sw4_3 => rfl
      case yw4_3 => (intro w hSw; (try dsimp only at hSw); go_simp <;> with_reducible rfl)
      try simp only [Act.put, List.setIfInBounds_toArray, List.set_cons_zero, List.set_cons_succ]
      refine hR.take (i := 4) (oi := ?ow5_4) (v := ?vw5_4) (m' := 31) ?hw5_4 (by kernel_rfl) (by kernel_rfl) (fun _ _ _ h => h) (Or.inr ⟨?sw5_4, ?yw5_4⟩) (by assumption) ?nw5_4
      case hw5_4 => simp only [List.getElem?_toArray, List.getElem?_cons_succ, List.getElem?_cons_zero]; rfl
      case sw5_4 => rfl
      case yw5_4 => rfl
      try simp only [Act.put, List.setIfInBounds_toArray, List.set_cons_zero, List.set_cons_succ]
      refine hR.take (i := 5) (oi := ?ow6_5) (v := ?vw6_5) (m' := 63) ?hw6_5 (by kernel_rfl) (by kernel_rfl) (fun _ _ _ h => h) (Or.inr ⟨?sw6_5, ?yw6_5⟩) (by assumption) ?nw6_5
      case hw6_5 => simp only [List.getElem?_toArray, List.getElem?_cons_succ, List.getElem?_cons_zero]; rfl
      case sw6_5 => rfl
      case yw6_5 => rfl
      try simp only [Act.put, List.setIfInBounds_toArray, List.set_cons_zero, List.set_cons_succ]
      refine hR.take (i := 6) (oi := ?ow7_6) (v := ?vw7_6) (m' := 127) ?hw7_6 (by kernel_rfl) (by kernel_rfl) (fun _ _ _ h => h) (Or.inr ⟨?sw7_6, ?yw7_6⟩) (by assumption) ?nw7_6
      case hw7_6 => simp only [List.getElem?_toArray, List.getElem?_cons_succ, List.getElem?_cons_zero]; rfl
      case sw7_6 => rfl
      case yw7_6 => rfl
      try simp only [Act.put, List.setIfInBounds_toArray, List.set_cons_zero, List.set_cons_succ]
      refine hR.take (i := 7) (oi := ?ow8_7) (v := ?vw8_7) (m' := 255) ?hw8_7 (by kernel_rfl) (by kernel_rfl) (fun _ _ _ h => h) (Or.inr ⟨?sw8_7, ?yw8_7⟩) (by assumption) ?nw8_7
      case hw8_7 => simp only [List.getElem?_toArray, List.getElem?_cons_succ, List.getElem?_cons_zero]; rfl
      case sw8_7 => rfl
      case yw8_7 => rfl
      try simp only [Act.put, List.setIfInBounds_toArray, List.set_cons_zero, List.set_cons_succ]
      refine hR.take (i := 8) (oi := ?ow9_8) (v := ?vw9_8) (m' := 511) ?hw9_8 (by kernel_rfl) (by kernel_rfl) (fun _ _ _ h => h) (Or.inr ⟨?sw9_8, ?yw9_8⟩) (by assumption) ?nw9_8
      case hw9_8 => simp only [List.getElem?_toArray, List.getElem?_cons_succ, List.getElem?_cons_zero]; rfl
      case sw9_8 => rfl
      case yw9_8 => rfl
      try simp only [Act.put, List.setIfInBounds_toArray, List.set_cons_zero, List.set_cons_succ]
      refine hR.take (i := 9) (oi := ?ow10_9) (v := ?vw10_9) (m' := 1023) ?hw10_9 (by kernel_rfl) (by kernel_rfl) (fun _ _ _ h => h) (Or.inr ⟨?sw10_9, ?yw10_9⟩) (by assumption) ?nw10_9
      case hw10_9 => simp only [List.getElem?_toArray, List.getElem?_cons_succ, List.getElem?_cons_zero]; rfl
      case sw10_9 => rfl
      case yw10_9 => rfl
      try simp only [Act.put, List.setIfInBounds_toArray, List.set_cons_zero, List.set_cons_succ]
      refine hR.take (i := 10) (oi := ?ow11_10) (v := ?vw11_10) (m' := 2047) ?hw11_10 (by kernel_rfl) (by kernel_rfl) (fun _ _ _ h => h) (Or.inl ⟨?sw11_10, ?yw11_10⟩) (by assumption) ?nw11_10
      case hw11_10 => simp only [List.getElem?_toArray, List.getElem?_cons_succ, List.getElem?_cons_zero]; rfl
      case sw11_10 => rfl
      case yw11_10 => (intro w hSw; (try dsimp only at hSw); go_simp <;> with_reducible rfl)
      try simp only [Act.put, List.setIfInBounds_toArray, List.set_cons_zero, List.set_cons_succ]
      refine hR.take (i := 11) (oi := ?ow12_11) (v := ?vw12_11) (m' := 4095) ?hw12_11 (by kernel_rfl) (by kernel_rfl) (fun _ _ _ h => h) (Or.inl ⟨?sw12_11, ?yw12_11⟩) (by assumption) ?nw12_11
      case hw12_11 => simp only [List.getElem?_toArray, List.getElem?_cons_succ, List.getElem?_cons_zero]; rfl
      case sw12_11 => rfl
      case yw12_11 => (intro w hSw; (try dsimp only at hSw); go_simp <;> with_reducible rfl)
      try simp only [Act.put, List.setIfInBounds_toArray, List.set_cons_zero, List.set_cons_succ]
      refine hR.take (i := 12) (oi := ?ow13_12) (v := ?vw13_12) (m' := 8191) ?hw13_12 (by kernel_rfl) (by kernel_rfl) (fun _ _ _ h => h) (Or.inr ⟨?sw13_12, ?yw13_12⟩) (by assumption) ?nw13_12
      case hw13_12 => simp only [List.getElem?_toArray, List.getElem?_cons_succ, List.getElem?_cons_zero]; rfl
      case sw13_12 => rfl
      case yw13_12 => rfl
      try simp only [Act.put, List.setIfInBounds_toArray, List.set_cons_zero, List.set_cons_succ]
      refine hR.take (i := 13) (oi := ?ow14_13) (v := ?vw14_13) (m' := 16383) ?hw14_13 (by kernel_rfl) (by kernel_rfl) (fun _ _ _ h => h) (Or.inr ⟨?sw14_13, ?yw14_13⟩) (by assumption) ?nw14_13
      case hw14_13 => simp only [List.getElem?_toArray, List.getElem?_cons_succ, List.getElem?_cons_zero]; rfl
      case sw14_13 => rfl
      case yw14_13 => rfl
      try simp only [Act.put, List.setIfInBounds_toArray, List.set_cons_zero, List.set_cons_succ]
      refine hR.take (i := 14) (oi := ?ow15_14) (v := ?vw15_14) (m' := 32767) ?hw15_14 (by kernel_rfl) (by kernel_rfl) (fun _ _ _ h => h) (Or.inr ⟨?sw15_14, ?yw15_14⟩) (by assumption) ?nw15_14
      case hw15_14 => simp only [List.getElem?_toArray, List.getElem?_cons_succ, List.getElem?_cons_zero]; rfl
      case sw15_14 => rfl
      case yw15_14 => rfl
      try simp only [Act.put, List.setIfInBounds_toArray, List.set_cons_zero, List.set_cons_succ]
      refine hR.take (i := 15) (oi := ?ow16_15) (v := ?vw16_15) (m' := 65535) ?hw16_15 (by kernel_rfl) (by kernel_rfl) (fun _ _ _ h => h) (Or.inr ⟨?sw16_15, ?yw16_15⟩) (by assumption) ?nw16_15
      case hw16_15 => simp only [List.getElem?_toArray, List.getElem?_cons_succ, List.getElem?_cons_zero]; rfl
      case sw16_15 => rfl
      case yw16_15 => rfl
      try simp only [Act.put, List.setIfInBounds_toArray, List.set_cons_zero, List.set_cons_succ]
      refine hR.take (i := 16) (oi := ?ow17_16) (v := ?vw17_16) (m' := 131071) ?hw17_16 (by kernel_rfl) (by kernel_rfl) (fun _ _ _ h => h) (Or.inr ⟨?sw17_16, ?yw17_16⟩) (by assumption) ?nw17_16
      case hw17_16 => simp only [List.getElem?_toArray, List.getElem?_cons_succ, List.getElem?_cons_zero]; rfl
      case sw17_16 => rfl
      case yw17_16 => rfl
      try simp only [Act.put, List.setIfInBounds_toArray, List.set_cons_zero, List.set_cons_succ]
      refine hR.take (i := 17) (oi := ?ow18_17) (v := ?vw18_17) (m' := 262143) ?hw18_17 (by kernel_rfl) (by kernel_rfl) (fun _ _ _ h => h) (Or.inr ⟨?sw18_17, ?yw18_17⟩) (by assumption) ?nw18_17
      case hw18_17 => simp only [List.getElem?_toArray, List.getElem?_cons_succ, List.getElem?_cons_zero]; rfl
      case sw18_17 => rfl
      case yw18_17 => rfl
      try simp only [Act.put, List.setIfInBounds_toArray, List.set_cons_zero, List.set_cons_succ]
      refine hR.take (i := 18) (oi := ?ow19_18) (v := ?vw19_18) (m' := 524287) ?hw19_18 (by kernel_rfl) (by kernel_rfl) (fun _ _ _ h => h) (Or.inr ⟨?sw19_18, ?yw19_18⟩) (by assumption) ?nw19_18
      case hw19_18 => simp only [List.getElem?_toArray, List.getElem?_cons_succ, List.getElem?_cons_zero]; rfl
      case sw19_18 => rfl
      case yw19_18 => rfl
      try simp only [Act.put, List.setIfInBounds_toArray, List.set_cons_zero, List.set_cons_succ]
      refine hR.take (i := 19) (oi := ?ow20_19) (v := ?vw20_19) (m' := 1048575) ?hw20_19 (by kernel_rfl) (by kernel_rfl) (fun _ _ _ h => h) (Or.inr ⟨?sw20_19, ?yw20_19⟩) (by assumption) ?nw20_19
      case hw20_19 => simp only [List.getElem?_toArray, List.getElem?_cons_succ, List.getElem?_cons_zero]; rfl
      case sw20_19 => rfl
      case yw20_19 => rfl
      try simp only [Act.put, List.setIfInBounds_toArray, List.set_cons_zero, List.set_cons_succ]
      refine hR.take (i := 20) (oi := ?ow21_20) (v := ?vw21_20) (m' := 2097151) ?hw21_20 (by kernel_rfl) (by kernel_rfl) (fun _ _ _ h => h) (Or.inr ⟨?sw21_20, ?yw21_20⟩) (by assumption) ?nw21_20
      case hw21_20 => simp only [List.getElem?_toArray, List.getElem?_cons_succ, List.getElem?_cons_zero]; rfl
      case sw21_20 => rfl
      case yw21_20 => rfl
      try simp only [Act.put, List.setIfInBounds_toArray, List.set_cons_zero, List.set_cons_succ]
      refine hR.take (i := 21) (oi := ?ow22_21) (v := ?vw22_21) (m' := 4194303) ?hw22_21 (by kernel_rfl) (by kernel_rfl) (fun _ _ _ h => h) (Or.inl ⟨?sw22_21, ?yw22_21⟩) (by assumption) ?nw22_21
      case hw22_21 => simp only [List.getElem?_toArray, List.getElem?_cons_succ, List.getElem?_cons_zero]; rfl
      case sw22_21 => rfl
      case yw22_21 => (intro w hSw; (try dsimp only at hSw); go_simp <;> with_reducible rfl)
      try simp only [Act.put, List.setIfInBounds_toArray, List.set_cons_zero, List.set_cons_succ]
      refine hR.all (by kernel_rfl) ?_ _
      refine NoPanic.normal ?_
      go_wp2_with fail
      go_ret
      exact ⟨ret_b hv.out.symm, b0.out.drew⟩
    have g1 : (q.k < 0) = False := eq_false k1
    by_cases k2 : mk < q.k
    · have hv := Lib.hid (not_head (q := q) fun h => by have := h.2.2.2.2.1; rw [Hmk.out] at this; omega)
      have g2 : (mk < q.k) = True := eq_true k2
      refine wp_region_noPanic ?_
      refine wp_region_held_drew (S := fun X => Below wc.heap.size wc X) (by kernel_rfl) ?_ (fun hHeld => ?_)
      · (first | with_reducible assumption | (with_reducible refine Below.drew ?_; with_reducible assumption) | (with_reducible refine ba _ _ ?_; with_reducible assumption) | (with_reducible refine Below.drew ?_; with_reducible refine ba _ _ ?_; with_reducible assumption) | exact Below.refl _ _ | exact (Below.refl _ _).drew | exact (Below.refl _ _).alloc (Nat.le_refl _) _ | (refine bc _ _ (by assumption) (by assumption)))
      refine RegOk.begin_ (n := 22) (T := q6A) ⟨by kernel_rfl, by kernel_rfl, by kernel_rfl, by kernel_rfl⟩ fun hR => ?_
      refine hR.take (i := 0) (oi := ?ow23_0) (v := ?vw23_0) (m' := 1) ?hw23_0 (by kernel_rfl) (by kernel_rfl) (fun _ _ _ h => h) (Or.inl ⟨?sw23_0, ?yw23_0⟩) (by assumption) ?nw23_0
      case hw23_0 => simp only [List.getElem?_toArray, List.getElem?_cons_succ, List.getElem?_cons_zero]; rfl
      case sw23_0 => rfl
      case yw23_0 => (intro w hSw; (try dsimp only at hSw); go_simp <;> with_reducible rfl)
      try simp only [Act.put, List.setIfInBounds_toArray, List.set_cons_zero, List.set_cons_succ]
      refine hR.take (i := 1) (oi := ?ow24_1) (v := ?vw24_1) (m' := 3) ?hw24_1 (by kernel_rfl) (by kernel_rfl) (fun _ _ _ h => h) (Or.inl ⟨?sw24_1, ?yw24_1⟩) (by assumption) ?nw24_1
      case hw24_1 => simp only [List.getElem?_toArray, List.getElem?_cons_succ, List.getElem?_cons_zero]; rfl
      case sw24_1 => rfl
      case yw24_1 => (intro w hSw; (try dsimp only at hSw); go_simp <;> with_reducible rfl)
      try simp only [Act.put, List.setIfInBounds_toArray, List.set_cons_zero, List.set_cons_succ]
      refine hR.take (i := 2) (oi := ?ow25_2) (v := ?vw25_2) (m' := 7) ?hw25_2 (by kernel_rfl) (by kernel_rfl) (fun _ _ _ h => h) (Or.inl ⟨?sw25_2, ?yw25_2⟩) (by assumption) ?nw25_2
      case hw25_2 => simp only [List.getElem?_toArray, List.getElem?_cons_succ, List.getElem?_cons_zero]; rfl
      case sw25_2 => rfl
      case yw25_2 => (intro w hSw; (try dsimp only at hSw); go_simp <;> with_reducible rfl)
      try simp only [Act.put, List.setIfInBounds_toArray, List.set_cons_zero, List.set_cons_succ]
      refine hR.take (i := 3) (oi := ?ow26_3) (v := ?vw26_3) (m' := 15) ?hw26_3 (by kernel_rfl) (by kernel_rfl) (fun _ _ _ h => h) (Or.inl ⟨?sw26_3, ?yw26_3⟩) (by assumption) ?nw26_3
      case hw26_3 => simp only [List.getElem?_toArray, List.getElem?_cons_succ, List.getElem?_cons_zero]; rfl
      case sw26_3 => rfl
      case yw26_3 => (intro w hSw; (try dsimp only at hSw); go_simp <;> with_reducible rfl)
      try simp only [Act.put, List.setIfInBounds_toArray, List.set_cons_zero, List.set_cons_succ]
      refine hR.take (i := 4) (oi := ?ow27_4) (v := ?vw27_4) (m' := 31) ?hw27_4 (by kernel_rfl) (by kernel_rfl) (fun _ _ _ h => h) (Or.inl ⟨?sw27_4, ?yw27_4⟩) (by assumption) ?nw27_4
      case hw27_4 => simp only [List.getElem?_toArray, List.getElem?_cons_succ, List.getElem?_cons_zero]; rfl
      case sw27_4 => rfl
      case yw27_4 => (intro w hSw; (try dsimp only at hSw); go_simp <;> with_reducible rfl)
      try simp only [Act.put, List.setIfInBounds_toArray, List.set_cons_zero, List.set_cons_succ]
      refine hR.take (i := 5) (oi := ?ow28_5) (v := ?vw28_5) (m' := 63) ?hw28_5 (by kernel_rfl) (by kernel_rfl) (fun _ _ _ h => h) (Or.inl ⟨?sw28_5, ?yw28_5⟩) (by assumption) ?nw28_5
      case hw28_5 => simp only [List.getElem?_toArray, List.getElem?_cons_succ, List.getElem?_cons_zero]; rfl
      case sw28_5 => rfl
      case yw28_5 => (intro w hSw; (try dsimp only at hSw); go_simp <;> with_reducible rfl)
      try simp only [Act.put, List.setIfInBounds_toArray, List.set_cons_zero, List.set_cons_succ]
      refine hR.take (i := 6) (oi := ?ow29_6) (v := ?vw29_6) (m' := 127) ?hw29_6 (by kernel_rfl) (by kernel_rfl) (fun _ _ _ h => h) (Or.inl ⟨?sw29_6, ?yw29_6⟩) (by assumption) ?nw29_6
      case hw29_6 => simp only [List.getElem?_toArray, List.getElem?_cons_succ, List.getElem?_cons_zero]; rfl
      case sw29_6 => rfl
      case yw29_6 => (intro w hSw; (try dsimp only at hSw); go_simp <;> with_reducible rfl)
      try simp only [Act.put, List.setIfInBounds_toArray, List.set_cons_zero, List.set_cons_succ]
      refine hR.take (i := 7) (oi := ?ow30_7) (v := ?vw30_7) (m' := 255) ?hw30_7 (by kernel_rfl) (by kernel_rfl) (fun _ _ _ h => h) (Or.inl ⟨?sw30_7, ?yw30_7⟩) (by assumption) ?nw30_7
      case hw30_7 => simp only [List.getElem?_toArray, List.getElem?_cons_succ, List.getElem?_cons_zero]; rfl
      case sw30_7 => rfl
      case yw30_7 => (intro w hSw; (try dsimp only at hSw); go_simp <;> with_reducible rfl)
      try simp only [Act.put, List.setIfInBounds_toArray, List.set_cons_zero, List.set_cons_succ]
      refine hR.come (rs := [8]) (by kernel_rfl) (by simp) ?_
      refine AllReadyH.cons (o := ?o31_8) ?h31_8 (fun K hK => ?kw31_8) AllReadyH.nil
      case h31_8 => simp only [List.getElem?_toArray, List.getElem?_cons_succ, List.getElem?_cons_zero]; rfl
      go_simp
      go_at_call 36; refine (maxKRef _ _).mono ?_; rw [Hmk.out]; rintro e w2 ⟨rfl, rfl⟩
      refine hK.out _ _ ?_ (fun hHeld => ?_)
      · (first | with_reducible assumption | (with_reducible refine Below.drew ?_; with_reducible assumption) | (with_reducible refine ba _ _ ?_; with_reducible assumption) | (with_reducible refine Below.drew ?_; with_reducible refine ba _ _ ?_; with_reducible assumption) | exact Below.refl _ _ | exact (Below.refl _ _).drew | exact (Below.refl _ _).alloc (Nat.le_refl _) _ | (refine bc _ _ (by assumption) (by assumption)))
      clear hK K
      refine RegOk.put_ (m' := 511) (by kernel_rfl) ?_
      try simp only [Act.put, List.setIfInBounds_toArray, List.set_cons_zero, List.set_cons_succ]
      refine hR.take (i := 9) (oi := ?ow32_9) (v := ?vw32_9) (m' := 1023) ?hw32_9 (by kernel_rfl) (by kernel_rfl) (fun _ _ _ h => h) (Or.inl ⟨?sw32_9, ?yw32_9⟩) (by assumption) ?nw32_9
      case hw32_9 => simp only [List.getElem?_toArray, List.getElem?_cons_succ, List.getElem?_cons_zero]; rfl
      case sw32_9 => rfl
      case yw32_9 => (intro w hSw; (try dsimp only at hSw); go_simp <;> with_reducible rfl)
      try simp only [Act.put, List.setIfInBounds_toArray, List.set_cons_zero, List.set_cons_succ]
      refine hR.take (i := 10) (oi := ?ow33_10) (v := ?vw33_10) (m' := 2047) ?hw33_10 (by kernel_rfl) (by kernel_rfl) (fun _ _ _ h => h) (Or.inl ⟨?sw33_10, ?yw33_10⟩) (by assumption) ?nw33_10
      case hw33_10 => simp only [List.getElem?_toArray, List.getElem?_cons_succ, List.getElem?_cons_zero]; rfl
      case sw33_10 => rfl
      case yw33_10 => (intro w hSw; (try dsimp only at hSw); go_simp <;> with_reducible rfl)
      try simp only [Act.put, List.setIfInBounds_toArray, List.set_cons_zero, List.set_cons_succ]
      refine hR.take (i := 11) (oi := ?ow34_11) (v := ?vw34_11) (m' := 4095) ?hw34_11 (by kernel_rfl) (by kernel_rfl) (fun _ _ _ h => h) (Or.inl ⟨?sw34_11, ?yw34_11⟩) (by assumption) ?nw34_11
      case hw34_11 => simp only [List.getElem?_toArray, List.getElem?_cons_succ, List.getElem?_cons_zero]; rfl
      case sw34_11 => rfl
      case yw34_11 => (intro w hSw; (try dsimp only at hSw); go_simp <;> with_reducible rfl)
      try simp only [Act.put, List.setIfInBounds_toArray, List.set_cons_zero, List.set_cons_succ]
      refine hR.take (i := 12) (oi := ?ow35_12) (v := ?vw35_12) (m' := 8191) ?hw35_12 (by kernel_rfl) (by kernel_rfl) (fun _ _ _ h => h) (Or.inr ⟨?sw35_12, ?yw35_12⟩) (by assumption) ?nw35_12
      case hw35_12 => simp only [List.getElem?_toArray, List.getElem?_cons_succ, List.getElem?_cons_zero]; rfl
      case sw35_12 => rfl
      case yw35_12 => rfl
      try simp only [Act.put, List.setIfInBounds_toArray, List.set_cons_zero, List.set_cons_succ]
      refine hR.take (i := 13) (oi := ?ow36_13) (v := ?vw36_13) (m' := 16383) ?hw36_13 (by kernel_rfl) (by kernel_rfl) (fun _ _ _ h => h) (Or.inr ⟨?sw36_13, ?yw36_13⟩) (by assumption) ?nw36_13
      case hw36_13 => simp only [List.getElem?_toArray, List.getElem?_cons_succ, List.getElem?_cons_zero]; rfl
      case sw36_13 => rfl
      case yw36_13 => rfl
      try simp only [Act.put, List.setIfInBounds_toArray, List.set_cons_zero, List.set_cons_succ]
      refine hR.take (i := 14) (oi := ?ow37_14) (v := ?vw37_14) (m' := 32767) ?hw37_14 (by kernel_rfl) (by kernel_rfl) (fun _ _ _ h => h) (Or.inr ⟨?sw37_14, ?yw37_14⟩) (by assumption) ?nw37_14
      case hw37_14 => simp only [List.getElem?_toArray, List.getElem?_cons_succ, List.getElem?_cons_zero]; rfl
      case sw37_14 => rfl
      case yw37_14 => rfl
      try simp only [Act.put, List.setIfInBounds_toArray, List.set_cons_zero, List.set_cons_succ]
      refine hR.take (i := 15) (oi := ?ow38_15) (v := ?vw38_15) (m' := 65535) ?hw38_15 (by kernel_rfl) (by kernel_rfl) (fun _ _ _ h => h) (Or.inr ⟨?sw38_15, ?yw38_15⟩) (by assumption) ?nw38_15
      case hw38_15 => simp only [List.getElem?_toArray, List.getElem?_cons_succ, List.getElem?_cons_zero]; rfl
      case sw38_15 => rfl
      case yw38_15 => rfl
      try simp only [Act.put, List.setIfInBounds_toArray, List.set_cons_zero, List.set_cons_succ]
      refine hR.take (i := 16) (oi := ?ow39_16) (v := ?vw39_16) (m' := 131071) ?hw39_16 (by kernel_rfl) (by kernel_rfl) (fun _ _ _ h => h) (Or.inr ⟨?sw39_16, ?yw39_16⟩) (by assumption) ?nw39_16
      case hw39_16 => simp only [List.getElem?_toArray, List.getElem?_cons_succ, List.getElem?_cons_zero]; rfl
      case sw39_16 => rfl
      case yw39_16 => rfl
      try simp only [Act.put, List.setIfInBounds_toArray, List.set_cons_zero, List.set_cons_succ]
      refine hR.take (i := 17) (oi := ?ow40_17) (v := ?vw40_17) (m' := 262143) ?hw40_17 (by kernel_rfl) (by kernel_rfl) (fun _ _ _ h => h) (Or.inr ⟨?sw40_17, ?yw40_17⟩) (by assumption) ?nw40_17
      case hw40_17 => simp only [List.getElem?_toArray, List.getElem?_cons_succ, List.getElem?_cons_zero]; rfl
      case sw40_17 => rfl
      case yw40_17 => rfl
      try simp only [Act.put, List.setIfInBounds_toArray, List.set_cons_zero, List.set_cons_succ]
      refine hR.take (i := 18) (oi := ?ow41_18) (v := ?vw41_18) (m' := 524287) ?hw41_18 (by kernel_rfl) (by kernel_rfl) (fun _ _ _ h => h) (Or.inr ⟨?sw41_18, ?yw41_18⟩) (by assumption) ?nw41_18
      case hw41_18 => simp only [List.getElem?_toArray, List.getElem?_cons_succ, List.getElem?_cons_zero]; rfl
      case sw41_18 => rfl
      case yw41_18 => rfl
      try simp only [Act.put, List.setIfInBounds_toArray, List.set_cons_zero, List.set_cons_succ]
      refine hR.take (i := 19) (oi := ?ow42_19) (v := ?vw42_19) (m' := 1048575) ?hw42_19 (by kernel_rfl) (by kernel_rfl) (fun _ _ _ h => h) (Or.inr ⟨?sw42_19, ?yw42_19⟩) (by assumption) ?nw42_19
      case hw42_19 => simp only [List.getElem?_toArray, List.getElem?_cons_succ, List.getElem?_cons_zero]; rfl
      case sw42_19 => rfl
      case yw42_19 => rfl
      try simp only [Act.put, List.setIfInBounds_toArray, List.set_cons_zero, List.set_cons_succ]
      refine hR.take (i := 20) (oi := ?ow43_20) (v := ?vw43_20) (m' := 2097151) ?hw43_20 (by kernel_rfl) (by kernel_rfl) (fun _ _ _ h => h) (Or.inr ⟨?sw43_20, ?yw43_20⟩) (by assumption) ?nw43_20
      case hw43_20 => simp only [List.getElem?_toArray, List.getElem?_cons_succ, List.getElem?_cons_zero]; rfl
      case sw43_20 => rfl
      case yw43_20 => rfl
      try simp only [Act.put, List.setIfInBounds_toArray, List.set_cons_zero, List.set_cons_succ]
      refine hR.take (i := 21) (oi := ?ow44_21) (v := ?vw44_21) (m' := 4194303) ?hw44_21 (by kernel_rfl) (by kernel_rfl) (fun _ _ _ h => h) (Or.inl ⟨?sw44_21, ?yw44_21⟩) (by assumption) ?nw44_21
      case hw44_21 => simp only [List.getElem?_toArray, List.getElem?_cons_succ, List.getElem?_cons_zero]; rfl
      case sw44_21 => rfl
      case yw44_21 => (intro w hSw; (try dsimp only at hSw); go_simp <;> with_reducible rfl)
      try simp only [Act.put, List.setIfInBounds_toArray, List.set_cons_zero, List.set_cons_succ]
      refine hR.all (by kernel_rfl) ?_ _
      refine NoPanic.normal ?_
      go_wp2_with fail
      go_ret
      exact ⟨ret_b hv.out.symm, b0.out.drew⟩
    have g2 : (mk < q.k) = False := eq_false k2
    rcases hmk3 with ⟨hmk1, hk36⟩ | ⟨hmk0, hk36⟩
    · have g3 : (0 < mk) = True := eq_true hmk1
      by_cases k3 : q.k = 0
      · have hv := Lib.hid (not_head (q := q) fun h => by have := h.2.2.2.2.2.1 hk36; omega)
        have g4 : (q.k == 0) = true := by simp [k3]
        have g5 : (mk < 0) = False := eq_false (by omega)
        refine wp_region_noPanic ?_
        refine wp_region_held_drew (S := fun X => Below wc.heap.size wc X) (by kernel_rfl) ?_ (fun hHeld => ?_)
        · (first | with_reducible assumption | (with_reducible refine Below.drew ?_; with_reducible assumption) | (with_reducible refine ba _ _ ?_; with_reducible assumption) | (with_reducible refine Below.drew ?_; with_reducible refine ba _ _ ?_; with_reducible assumption) | exact Below.refl _ _ | exact (Below.refl _ _).drew | exact (Below.refl _ _).alloc (Nat.le_refl _) _ | (refine bc _ _ (by assumption) (by assumption)))
        refine RegOk.begin_ (n := 22) (T := q6A) ⟨by kernel_rfl, by kernel_rfl, by kernel_rfl, by kernel_rfl⟩ fun hR => ?_
        refine hR.take (i := 0) (oi := ?ow45_0) (v := ?vw45_0) (m' := 1) ?hw45_0 (by kernel_rfl) (by kernel_rfl) (fun _ _ _ h => h) (Or.inl ⟨?sw45_0, ?yw45_0⟩) (by assumption) ?nw45_0
        case hw45_0 => simp only [List.getElem?_toArray, List.getElem?_cons_succ, List.getElem?_cons_zero]; rfl
        case sw45_0 => rfl
        case yw45_0 => (intro w hSw; (try dsimp only at hSw); go_simp <;> with_reducible rfl)
        try simp only [Act.put, List.setIfInBounds_toArray, List.set_cons_zero, List.set_cons_succ]
        refine hR.take (i := 1) (oi := ?ow46_1) (v := ?vw46_1) (m' := 3) ?hw46_1 (by kernel_rfl) (by kernel_rfl) (fun _ _ _ h => h) (Or.inl ⟨?sw46_1, ?yw46_1⟩) (by assumption) ?nw46_1
        case hw46_1 => simp only [List.getElem?_toArray, List.getElem?_cons_succ, List.getElem?_cons_zero]; rfl
        case sw46_1 => rfl
        case yw46_1 => (intro w hSw; (try dsimp only at hSw); go_simp <;> with_reducible rfl)
        try simp only [Act.put, List.setIfInBounds_toArray, List.set_cons_zero, List.set_cons_succ]
        refine hR.take (i := 2) (oi := ?ow47_2) (v := ?vw47_2) (m' := 7) ?hw47_2 (by kernel_rfl) (by kernel_rfl) (fun _ _ _ h => h) (Or.inl ⟨?sw47_2, ?yw47_2⟩) (by assumption) ?nw47_2
        case hw47_2 => simp only [List.getElem?_toArray, List.getElem?_cons_succ, List.getElem?_cons_zero]; rfl
        case sw47_2 => rfl
        case yw47_2 => (intro w hSw; (try dsimp only at hSw); go_simp <;> with_reducible rfl)
        try simp only [Act.put, List.setIfInBounds_toArray, List.set_cons_zero, List.set_cons_succ]
        refine hR.take (i := 3) (oi := ?ow48_3) (v := ?vw48_3) (m' := 15) ?hw48_3 (by kernel_rfl) (by kernel_rfl) (fun _ _ _ h => h) (Or.inl ⟨?sw48_3, ?yw48_3⟩) (by assumption) ?nw48_3
        case hw48_3 => simp only [List.getElem?_toArray, List.getElem?_cons_succ, List.getElem?_cons_zero]; rfl
        case sw48_3 => rfl
        case yw48_3 => (intro w hSw; (try dsimp only at hSw); go_simp <;> with_reducible rfl)
        try simp only [Act.put, List.setIfInBounds_toArray, List.set_cons_zero, List.set_cons_succ]
        refine hR.take (i := 4) (oi := ?ow49_4) (v := ?vw49_4) (m' := 31) ?hw49_4 (by kernel_rfl) (by kernel_rfl) (fun _ _ _ h => h) (Or.inl ⟨?sw49_4, ?yw49_4⟩) (by assumption) ?nw49_4
        case hw49_4 => simp only [List.getElem?_toArray, List.getElem?_cons_succ, List.getElem?_cons_zero]; rfl
        case sw49_4 => rfl
        case yw49_4 => (intro w hSw; (try dsimp only at hSw); go_simp <;> with_reducible rfl)
        try simp only [Act.put, List.setIfInBounds_toArray, List.set_cons_zero, List.set_cons_succ]
        refine hR.take (i := 5) (oi := ?ow50_5) (v := ?vw50_5) (m' := 63) ?hw50_5 (by kernel_rfl) (by kernel_rfl) (fun _ _ _ h => h) (Or.inl ⟨?sw50_5, ?yw50_5⟩) (by assumption) ?nw50_5
        case hw50_5 => simp only [List.getElem?_toArray, List.getElem?_cons_succ, List.getElem?_cons_zero]; rfl
        case sw50_5 => rfl
        case yw50_5 => (intro w hSw; (try dsimp only at hSw); go_simp <;> with_reducible rfl)
        try simp only [Act.put, List.setIfInBounds_toArray, List.set_cons_zero, List.set_cons_succ]
        refine hR.take (i := 6) (oi := ?ow51_6) (v := ?vw51_6) (m' := 127) ?hw51_6 (by kernel_rfl) (by kernel_rfl) (fun _ _ _ h => h) (Or.inl ⟨?sw51_6, ?yw51_6⟩) (by assumption) ?nw51_6
        case hw51_6 => simp only [List.getElem?_toArray, List.getElem?_cons_succ, List.getElem?_cons_zero]; rfl
        case sw51_6 => rfl
        case yw51_6 => (intro w hSw; (try dsimp only at hSw); go_simp <;> with_reducible rfl)
        try simp only [Act.put, List.setIfInBounds_toArray, List.set_cons_zero, List.set_cons_succ]
        refine hR.take (i := 7) (oi := ?ow52_7) (v := ?vw52_7) (m' := 255) ?hw52_7 (by kernel_rfl) (by kernel_rfl) (fun _ _ _ h => h) (Or.inl ⟨?sw52_7, ?yw52_7⟩) (by assumption) ?nw52_7
        case hw52_7 => simp only [List.getElem?_toArray, List.getElem?_cons_succ, List.getElem?_cons_zero]; rfl
        case sw52_7 => rfl
        case yw52_7 => (intro w hSw; (try dsimp only at hSw); go_simp <;> with_reducible rfl)
        try simp only [Act.put, List.setIfInBounds_toArray, List.set_cons_zero, List.set_cons_succ]
        refine hR.come (rs := [8]) (by kernel_rfl) (by simp) ?_
        refine AllReadyH.cons (o := ?o53_8) ?h53_8 (fun K hK => ?kw53_8) AllReadyH.nil
        case h53_8 => simp only [List.getElem?_toArray, List.getElem?_cons_succ, List.getElem?_cons_zero]; rfl
        go_simp
        go_at_call 36; refine (maxKRef _ _).mono ?_; rw [Hmk.out]; rintro e w2 ⟨rfl, rfl⟩
        refine hK.out _ _ ?_ (fun hHeld => ?_)
        · (first | with_reducible assumption | (with_reducible refine Below.drew ?_; with_reducible assumption) | (with_reducible refine ba _ _ ?_; with_reducible assumption) | (with_reducible refine Below.drew ?_; with_reducible refine ba _ _ ?_; with_reducible assumption) | exact Below.refl _ _ | exact (Below.refl _ _).drew | exact (Below.refl _ _).alloc (Nat.le_refl _) _ | (refine bc _ _ (by assumption) (by assumption)))
        clear hK K
        refine RegOk.put_ (m' := 511) (by kernel_rfl) ?_
        try simp only [Act.put, List.setIfInBounds_toArray, List.set_cons_zero, List.set_cons_succ]
        refine hR.take (i := 9) (oi := ?ow54_9) (v := ?vw54_9) (m' := 1023) ?hw54_9 (by kernel_rfl) (by kernel_rfl) (fun _ _ _ h => h) (Or.inl ⟨?sw54_9, ?yw54_9⟩) (by assumption) ?nw54_9
        case hw54_9 => simp only [List.getElem?_toArray, List.getElem?_cons_succ, List.getElem?_cons_zero]; rfl
        case sw54_9 => rfl
        case yw54_9 => (intro w hSw; (try dsimp only at hSw); go_simp <;> with_reducible rfl)
        try simp only [Act.put, List.setIfInBounds_toArray, List.set_cons_zero, List.set_cons_succ]
        refine hR.take (i := 10) (oi := ?ow55_10) (v := ?vw55_10) (m' := 2047) ?hw55_10 (by kernel_rfl) (by kernel_rfl) (fun _ _ _ h => h) (Or.inl ⟨?sw55_10, ?yw55_10⟩) (by assumption) ?nw55_10
        case hw55_10 => simp only [List.getElem?_toArray, List.getElem?_cons_succ, List.getElem?_cons_zero]; rfl
        case sw55_10 => rfl
        case yw55_10 => (intro w hSw; (try dsimp only at hSw); go_simp <;> with_reducible rfl)
        try simp only [Act.put, List.setIfInBounds_toArray, List.set_cons_zero, List.set_cons_succ]
        refine hR.take (i := 11) (oi := ?ow56_11) (v := ?vw56_11) (m' := 4095) ?hw56_11 (by kernel_rfl) (by kernel_rfl) (fun _ _ _ h => h) (Or.inl ⟨?sw56_11, ?yw56_11⟩) (by assumption) ?nw56_11
        case hw56_11 => simp only [List.getElem?_toArray, List.getElem?_cons_succ, List.getElem?_cons_zero]; rfl
        case sw56_11 => rfl
        case yw56_11 => (intro w hSw; (try dsimp only at hSw); go_simp <;> with_reducible rfl)
        try simp only [Act.put, List.setIfInBounds_toArray, List.set_cons_zero, List.set_cons_succ]
        refine hR.take (i := 12) (oi := ?ow57_12) (v := ?vw57_12) (m' := 8191) ?hw57_12 (by kernel_rfl) (by kernel_rfl) (fun _ _ _ h => h) (Or.inl ⟨?sw57_12, ?yw57_12⟩) (by assumption) ?nw57_12
        case hw57_12 => simp only [List.getElem?_toArray, List.getElem?_cons_succ, List.getElem?_cons_zero]; rfl
        case sw57_12 => rfl
        case yw57_12 => (intro w hSw; (try dsimp only at hSw); go_simp <;> with_reducible rfl)
        try simp only [Act.put, List.setIfInBounds_toArray, List.set_cons_zero, List.set_cons_succ]
        refine hR.take (i := 13) (oi := ?ow58_13) (v := ?vw58_13) (m' := 16383) ?hw58_13 (by kernel_rfl) (by kernel_rfl) (fun _ _ _ h => h) (Or.inl ⟨?sw58_13, ?yw58_13⟩) (by assumption) ?nw58_13
        case hw58_13 => simp only [List.getElem?_toArray, List.getElem?_cons_succ, List.getElem?_cons_zero]; rfl
        case sw58_13 => rfl
        case yw58_13 => (intro w hSw; (try dsimp only at hSw); go_simp <;> with_reducible rfl)
        try simp only [Act.put, List.setIfInBounds_toArray, List.set_cons_zero, List.set_cons_succ]
        refine hR.come (rs := [14]) (by kernel_rfl) (by simp) ?_
        refine AllReadyH.cons (o := ?o59_14) ?h59_14 (fun K hK => ?kw59_14) AllReadyH.nil
        case h59_14 => simp only [List.getElem?_toArray, List.getElem?_cons_succ, List.getElem?_cons_zero]; rfl
        go_simp
        go_at_call 36; refine (maxKRef _ _).mono ?_; rw [Hmk.out]; rintro e w3 ⟨rfl, rfl⟩
        refine hK.out _ _ ?_ (fun hHeld => ?_)
        · (first | with_reducible assumption | (with_reducible refine Below.drew ?_; with_reducible assumption) | (with_reducible refine ba _ _ ?_; with_reducible assumption) | (with_reducible refine Below.drew ?_; with_reducible refine ba _ _ ?_; with_reducible assumption) | exact Below.refl _ _ | exact (Below.refl _ _).drew | exact (Below.refl _ _).alloc (Nat.le_refl _) _ | (refine bc _ _ (by assumption) (by assumption)))
        clear hK K
        refine RegOk.put_ (m' := 32767) (by kernel_rfl) ?_
        try simp only [Act.put, List.setIfInBounds_toArray, List.set_cons_zero, List.set_cons_succ]
        refine hR.take (i := 15) (oi := ?ow60_15) (v := ?vw60_15) (m' := 65535) ?hw60_15 (by kernel_rfl) (by kernel_rfl) (fun _ _ _ h => h) (Or.inl ⟨?sw60_15, ?yw60_15⟩) (by assumption) ?nw60_15
        case hw60_15 => simp only [List.getElem?_toArray, List.getElem?_cons_succ, List.getElem?_cons_zero]; rfl
        case sw60_15 => rfl
        case yw60_15 => (intro w hSw; (try dsimp only at hSw); go_simp <;> with_reducible rfl)
        try simp only [Act.put, List.setIfInBounds_toArray, List.set_cons_zero, List.set_cons_succ]
        refine hR.take (i := 16) (oi := ?ow61_16) (v := ?vw61_16) (m' := 131071) ?hw61_16 (by kernel_rfl) (by kernel_rfl) (fun _ _ _ h => h) (Or.inl ⟨?sw61_16, ?yw61_16⟩) (by assumption) ?nw61_16
        case hw61_16 => simp only [List.getElem?_toArray, List.getElem?_cons_succ, List.getElem?_cons_zero]; rfl
        case sw61_16 => rfl
        case yw61_16 => (intro w hSw; (try dsimp only at hSw); go_simp <;> with_reducible rfl)
        try simp only [Act.put, List.setIfInBounds_toArray, List.set_cons_zero, List.set_cons_succ]
        refine hR.take (i := 17) (oi := ?ow62_17) (v := ?vw62_17) (m' := 262143) ?hw62_17 (by kernel_rfl) (by kernel_rfl) (fun _ _ _ h => h) (Or.inl ⟨?sw62_17, ?yw62_17⟩) (by assumption) ?nw62_17
        case hw62_17 => simp only [List.getElem?_toArray, List.getElem?_cons_succ, List.getElem?_cons_zero]; rfl
        case sw62_17 => rfl
        case yw62_17 => (intro w hSw; (try dsimp only at hSw); go_simp <;> with_reducible rfl)
        try simp only [Act.put, List.setIfInBounds_toArray, List.set_cons_zero, List.set_cons_succ]
        refine hR.take (i := 18) (oi := ?ow63_18) (v := ?vw63_18) (m' := 524287) ?hw63_18 (by kernel_rfl) (by kernel_rfl) (fun _ _ _ h => h) (Or.inl ⟨?sw63_18, ?yw63_18⟩) (by assumption) ?nw63_18
        case hw63_18 => simp only [List.getElem?_toArray, List.getElem?_cons_succ, List.getElem?_cons_zero]; rfl
        case sw63_18 => rfl
        case yw63_18 => (intro w hSw; (try dsimp only at hSw); go_simp <;> with_reducible rfl)
        try simp only [Act.put, List.setIfInBounds_toArray, List.set_cons_zero, List.set_cons_succ]
        refine hR.take (i := 19) (oi := ?ow64_19) (v := ?vw64_19) (m' := 1048575) ?hw64_19 (by kernel_rfl) (by kernel_rfl) (fun _ _ _ h => h) (Or.inl ⟨?sw64_19, ?yw64_19⟩) (by assumption) ?nw64_19
        case hw64_19 => simp only [List.getElem?_toArray, List.getElem?_cons_succ, List.getElem?_cons_zero]; rfl
        case sw64_19 => rfl
        case yw64_19 => (intro w hSw; (try dsimp only at hSw); go_simp <;> with_reducible rfl)
        try simp only [Act.put, List.setIfInBounds_toArray, List.set_cons_zero, List.set_cons_succ]
        refine hR.take (i := 20) (oi := ?ow65_20) (v := ?vw65_20) (m' := 2097151) ?hw65_20 (by kernel_rfl) (by kernel_rfl) (fun _ _ _ h => h) (Or.inl ⟨?sw65_20, ?yw65_20⟩) (by assumption) ?nw65_20
        case hw65_20 => simp only [List.getElem?_toArray, List.getElem?_cons_succ, List.getElem?_cons_zero]; rfl
        case sw65_20 => rfl
        case yw65_20 => (intro w hSw; (try dsimp only at hSw); go_simp <;> with_reducible rfl)
        try simp only [Act.put, List.setIfInBounds_toArray, List.set_cons_zero, List.set_cons_succ]
        refine hR.take (i := 21) (oi := ?ow66_21) (v := ?vw66_21) (m' := 4194303) ?hw66_21 (by kernel_rfl) (by kernel_rfl) (fun _ _ _ h => h) (Or.inl ⟨?sw66_21, ?yw66_21⟩) (by assumption) ?nw66_21
        case hw66_21 => simp only [List.getElem?_toArray, List.getElem?_cons_succ, List.getElem?_cons_zero]; rfl
        case sw66_21 => rfl
        case yw66_21 => (intro w hSw; (try dsimp only at hSw); go_simp <;> with_reducible rfl)
        try simp only [Act.put, List.setIfInBounds_toArray, List.set_cons_zero, List.set_cons_succ]
        refine hR.all (by kernel_rfl) ?_ _
        refine NoPanic.normal ?_
        go_wp2_with fail
        go_ret
        exact ⟨ret_b hv.out.symm, b0.out.drew⟩
      · have g4 : (q.k == 0) = false := by simpa using k3
        refine wp_region_noPanic ?_
        refine wp_region_held_drew (S := fun X => Below wc.heap.size wc X) (by kernel_rfl) ?_ (fun hHeld => ?_)
        · (first | with_reducible assumption | (with_reducible refine Below.drew ?_; with_reducible assumption) | (with_reducible refine ba _ _ ?_; with_reducible assumption) | (with_reducible refine Below.drew ?_; with_reducible refine ba _ _ ?_; with_reducible assumption) | exact Below.refl _ _ | exact (Below.refl _ _).drew | exact (Below.refl _ _).alloc (Nat.le_refl _) _ | (refine bc _ _ (by assumption) (by assumption)))
        refine RegOk.begin_ (n := 22) (T := q6A) ⟨by kernel_rfl, by kernel_rfl, by kernel_rfl, by kernel_rfl⟩ fun hR => ?_
        refine hR.take (i := 0) (oi := ?ow67_0) (v := ?vw67_0) (m' := 1) ?hw67_0 (by kernel_rfl) (by kernel_rfl) (fun _ _ _ h => h) (Or.inl ⟨?sw67_0, ?yw67_0⟩) (by assumption) ?nw67_0
        case hw67_0 => simp only [List.getElem?_toArray, List.getElem?_cons_succ, List.getElem?_cons_zero]; rfl
        case sw67_0 => rfl
        case yw67_0 => (intro w hSw; (try dsimp only at hSw); go_simp <;> with_reducible rfl)
        try simp only [Act.put, List.setIfInBounds_toArray, List.set_cons_zero, List.set_cons_succ]
        refine hR.take (i := 1) (oi := ?ow68_1) (v := ?vw68_1) (m' := 3) ?hw68_1 (by kernel_rfl) (by kernel_rfl) (fun _ _ _ h => h) (Or.inl ⟨?sw68_1, ?yw68_1⟩) (by assumption) ?nw68_1
        case hw68_1 => simp only [List.getElem?_toArray, List.getElem?_cons_succ, List.getElem?_cons_zero]; rfl
        case sw68_1 => rfl
        case yw68_1 => (intro w hSw; (try dsimp only at hSw); go_simp <;> with_reducible rfl)
        try simp only [Act.put, List.setIfInBounds_toArray, List.set_cons_zero, List.set_cons_succ]
        refine hR.take (i := 2) (oi := ?ow69_2) (v := ?vw69_2) (m' := 7) ?hw69_2 (by kernel_rfl) (by kernel_rfl) (fun _ _ _ h => h) (Or.inl ⟨?sw69_2, ?yw69_2⟩) (by assumption) ?nw69_2
        case hw69_2 => simp only [List.getElem?_toArray, List.getElem?_cons_succ, List.getElem?_cons_zero]; rfl
        case sw69_2 => rfl
        case yw69_2 => (intro w hSw; (try dsimp only at hSw); go_simp <;> with_reducible rfl)
        try simp only [Act.put, List.setIfInBounds_toArray, List.set_cons_zero, List.set_cons_succ]
        refine hR.take (i := 3) (oi := ?ow70_3) (v := ?vw70_3) (m' := 15) ?hw70_3 (by kernel_rfl) (by kernel_rfl) (fun _ _ _ h => h) (Or.inl ⟨?sw70_3, ?yw70_3⟩) (by assumption) ?nw70_3
        case hw70_3 => simp only [List.getElem?_toArray, List.getElem?_cons_succ, List.getElem?_cons_zero]; rfl
        case sw70_3 => rfl
        case yw70_3 => (intro w hSw; (try dsimp only at hSw); go_simp <;> with_reducible rfl)
        try simp only [Act.put, List.setIfInBounds_toArray, List.set_cons_zero, List.set_cons_succ]
        refine hR.take (i := 4) (oi := ?ow71_4) (v := ?vw71_4) (m' := 31) ?hw71_4 (by kernel_rfl) (by kernel_rfl) (fun _ _ _ h => h) (Or.inl ⟨?sw71_4, ?yw71_4⟩) (by assumption) ?nw71_4
        case hw71_4 => simp only [List.getElem?_toArray, List.getElem?_cons_succ, List.getElem?_cons_zero]; rfl
        case sw71_4 => rfl
        case yw71_4 => (intro w hSw; (try dsimp only at hSw); go_simp <;> with_reducible rfl)
        try simp only [Act.put, List.setIfInBounds_toArray, List.set_cons_zero, List.set_cons_succ]
        refine hR.take (i := 5) (oi := ?ow72_5) (v := ?vw72_5) (m' := 63) ?hw72_5 (by kernel_rfl) (by kernel_rfl) (fun _ _ _ h => h) (Or.inl ⟨?sw72_5, ?yw72_5⟩) (by assumption) ?nw72_5
        case hw72_5 => simp only [List.getElem?_toArray, List.getElem?_cons_succ, List.getElem?_cons_zero]; rfl
        case sw72_5 => rfl
        case yw72_5 => (intro w hSw; (try dsimp only at hSw); go_simp <;> with_reducible rfl)
        try simp only [Act.put, List.setIfInBounds_toArray, List.set_cons_zero, List.set_cons_succ]
        refine hR.take (i := 6) (oi := ?ow73_6) (v := ?vw73_6) (m' := 127) ?hw73_6 (by kernel_rfl) (by kernel_rfl) (fun _ _ _ h => h) (Or.inl ⟨?sw73_6, ?yw73_6⟩) (by assumption) ?nw73_6
        case hw73_6 => simp only [List.getElem?_toArray, List.getElem?_cons_succ, List.getElem?_cons_zero]; rfl
        case sw73_6 => rfl
        case yw73_6 => (intro w hSw; (try dsimp only at hSw); go_simp <;> with_reducible rfl)
        try simp only [Act.put, List.setIfInBounds_toArray, List.set_cons_zero, List.set_cons_succ]
        refine hR.take (i := 7) (oi := ?ow74_7) (v := ?vw74_7) (m' := 255) ?hw74_7 (by kernel_rfl) (by kernel_rfl) (fun _ _ _ h => h) (Or.inl ⟨?sw74_7, ?yw74_7⟩) (by assumption) ?nw74_7
        case hw74_7 => simp only [List.getElem?_toArray, List.getElem?_cons_succ, List.getElem?_cons_zero]; rfl
        case sw74_7 => rfl
        case yw74_7 => (intro w hSw; (try dsimp only at hSw); go_simp <;> with_reducible rfl)
        try simp only [Act.put, List.setIfInBounds_toArray, List.set_cons_zero, List.set_cons_succ]
        refine hR.come (rs := [8]) (by kernel_rfl) (by simp) ?_
        refine AllReadyH.cons (o := ?o75_8) ?h75_8 (fun K hK => ?kw75_8) AllReadyH.nil
        case h75_8 => simp only [List.getElem?_toArray, List.getElem?_cons_succ, List.getElem?_cons_zero]; rfl
        go_simp
        go_at_call 36; refine (maxKRef _ _).mono ?_; rw [Hmk.out]; rintro e w2 ⟨rfl, rfl⟩
        refine hK.out _ _ ?_ (fun hHeld => ?_)
        · (first | with_reducible assumption | (with_reducible refine Below.drew ?_; with_reducible assumption) | (with_reducible refine ba _ _ ?_; with_reducible assumption) | (with_reducible refine Below.drew ?_; with_reducible refine ba _ _ ?_; with_reducible assumption) | exact Below.refl _ _ | exact (Below.refl _ _).drew | exact (Below.refl _ _).alloc (Nat.le_refl _) _ | (refine bc _ _ (by assumption) (by assumption)))
        clear hK K
        refine RegOk.put_ (m' := 511) (by kernel_rfl) ?_
        try simp only [Act.put, List.setIfInBounds_toArray, List.set_cons_zero, List.set_cons_succ]
        refine hR.take (i := 9) (oi := ?ow76_9) (v := ?vw76_9) (m' := 1023) ?hw76_9 (by kernel_rfl) (by kernel_rfl) (fun _ _ _ h => h) (Or.inl ⟨?sw76_9, ?yw76_9⟩) (by assumption) ?nw76_9
        case hw76_9 => simp only [List.getElem?_toArray, List.getElem?_cons_succ, List.getElem?_cons_zero]; rfl
        case sw76_9 => rfl
        case yw76_9 => (intro w hSw; (try dsimp only at hSw); go_simp <;> with_reducible rfl)
        try simp only [Act.put, List.setIfInBounds_toArray, List.set_cons_zero, List.set_cons_succ]
        refine hR.take (i := 10) (oi := ?ow77_10) (v := ?vw77_10) (m' := 2047) ?hw77_10 (by kernel_rfl) (by kernel_rfl) (fun _ _ _ h => h) (Or.inl ⟨?sw77_10, ?yw77_10⟩) (by assumption) ?nw77_10
        case hw77_10 => simp only [List.getElem?_toArray, List.getElem?_cons_succ, List.getElem?_cons_zero]; rfl
        case sw77_10 => rfl
        case yw77_10 => (intro w hSw; (try dsimp only at hSw); go_simp <;> with_reducible rfl)
        try simp only [Act.put, List.setIfInBounds_toArray, List.set_cons_zero, List.set_cons_succ]
        refine hR.take (i := 11) (oi := ?ow78_11) (v := ?vw78_11) (m' := 4095) ?hw78_11 (by kernel_rfl) (by kernel_rfl) (fun _ _ _ h => h) (Or.inl ⟨?sw78_11, ?yw78_11⟩) (by assumption) ?nw78_11
        case hw78_11 => simp only [List.getElem?_toArray, List.getElem?_cons_succ, List.getElem?_cons_zero]; rfl
        case sw78_11 => rfl
        case yw78_11 => (intro w hSw; (try dsimp only at hSw); go_simp <;> with_reducible rfl)
        try simp only [Act.put, List.setIfInBounds_toArray, List.set_cons_zero, List.set_cons_succ]
        refine hR.take (i := 12) (oi := ?ow79_12) (v := ?vw79_12) (m' := 8191) ?hw79_12 (by kernel_rfl) (by kernel_rfl) (fun _ _ _ h => h) (Or.inl ⟨?sw79_12, ?yw79_12⟩) (by assumption) ?nw79_12
        case hw79_12 => simp only [List.getElem?_toArray, List.getElem?_cons_succ, List.getElem?_cons_zero]; rfl
        case sw79_12 => rfl
        case yw79_12 => (intro w hSw; (try dsimp only at hSw); go_simp <;> with_reducible rfl)
        try simp only [Act.put, List.setIfInBounds_toArray, List.set_cons_zero, List.set_cons_succ]
        refine hR.take (i := 13) (oi := ?ow80_13) (v := ?vw80_13) (m' := 16383) ?hw80_13 (by kernel_rfl) (by kernel_rfl) (fun _ _ _ h => h) (Or.inl ⟨?sw80_13, ?yw80_13⟩) (by assumption) ?nw80_13
        case hw80_13 => simp only [List.getElem?_toArray, List.getElem?_cons_succ, List.getElem?_cons_zero]; rfl
        case sw80_13 => rfl
        case yw80_13 => (intro w hSw; (try dsimp only at hSw); go_simp <;> with_reducible rfl)
        try simp only [Act.put, List.setIfInBounds_toArray, List.set_cons_zero, List.set_cons_succ]
        refine hR.come (rs := [14]) (by kernel_rfl) (by simp) ?_
        refine AllReadyH.cons (o := ?o81_14) ?h81_14 (fun K hK => ?kw81_14) AllReadyH.nil
        case h81_14 => simp only [List.getElem?_toArray, List.getElem?_cons_succ, List.getElem?_cons_zero]; rfl
        go_simp
        go_at_call 36; refine (maxKRef _ _).mono ?_; rw [Hmk.out]; rintro e w3 ⟨rfl, rfl⟩
        refine hK.out _ _ ?_ (fun hHeld => ?_)
        · (first | with_reducible assumption | (with_reducible refine Below.drew ?_; with_reducible assumption) | (with_reducible refine ba _ _ ?_; with_reducible assumption) | (with_reducible refine Below.drew ?_; with_reducible refine ba _ _ ?_; with_reducible assumption) | exact Below.refl _ _ | exact (Below.refl _ _).drew | exact (Below.refl _ _).alloc (Nat.le_refl _) _ | (refine bc _ _ (by assumption) (by assumption)))
        clear hK K
        refine RegOk.put_ (m' := 32767) (by kernel_rfl) ?_
        try simp only [Act.put, List.setIfInBounds_toArray, List.set_cons_zero, List.set_cons_succ]
        refine hR.take (i := 15) (oi := ?ow82_15) (v := ?vw82_15) (m' := 65535) ?hw82_15 (by kernel_rfl) (by kernel_rfl) (fun _ _ _ h => h) (Or.inl ⟨?sw82_15, ?yw82_15⟩) (by assumption) ?nw82_15
        case hw82_15 => simp only [List.getElem?_toArray, List.getElem?_cons_succ, List.getElem?_cons_zero]; rfl
        case sw82_15 => rfl
        case yw82_15 => (intro w hSw; (try dsimp only at hSw); go_simp <;> with_reducible rfl)
        try simp only [Act.put, List.setIfInBounds_toArray, List.set_cons_zero, List.set_cons_succ]
        refine hR.take (i := 16) (oi := ?ow83_16) (v := ?vw83_16) (m' := 131071) ?hw83_16 (by kernel_rfl) (by kernel_rfl) (fun _ _ _ h => h) (Or.inl ⟨?sw83_16, ?yw83_16⟩) (by assumption) ?nw83_16
        case hw83_16 => simp only [List.getElem?_toArray, List.getElem?_cons_succ, List.getElem?_cons_zero]; rfl
        case sw83_16 => rfl
        case yw83_16 => (intro w hSw; (try dsimp only at hSw); go_simp <;> with_reducible rfl)
        try simp only [Act.put, List.setIfInBounds_toArray, List.set_cons_zero, List.set_cons_succ]
        refine hR.take (i := 17) (oi := ?ow84_17) (v := ?vw84_17) (m' := 262143) ?hw84_17 (by kernel_rfl) (by kernel_rfl) (fun _ _ _ h => h) (Or.inl ⟨?sw84_17, ?yw84_17⟩) (by assumption) ?nw84_17
        case hw84_17 => simp only [List.getElem?_toArray, List.getElem?_cons_succ, List.getElem?_cons_zero]; rfl
        case sw84_17 => rfl
        case yw84_17 => (intro w hSw; (try dsimp only at hSw); go_simp <;> with_reducible rfl)
        try simp only [Act.put, List.setIfInBounds_toArray, List.set_cons_zero, List.set_cons_succ]
        refine hR.take (i := 18) (oi := ?ow85_18) (v := ?vw85_18) (m' := 524287) ?hw85_18 (by kernel_rfl) (by kernel_rfl) (fun _ _ _ h => h) (Or.inl ⟨?sw85_18, ?yw85_18⟩) (by assumption) ?nw85_18
        case hw85_18 => simp only [List.getElem?_toArray, List.getElem?_cons_succ, List.getElem?_cons_zero]; rfl
        case sw85_18 => rfl
        case yw85_18 => (intro w hSw; (try dsimp only at hSw); go_simp <;> with_reducible rfl)
        try simp only [Act.put, List.setIfInBounds_toArray, List.set_cons_zero, List.set_cons_succ]
        refine hR.take (i := 19) (oi := ?ow86_19) (v := ?vw86_19) (m' := 1048575) ?hw86_19 (by kernel_rfl) (by kernel_rfl) (fun _ _ _ h => h) (Or.inl ⟨?sw86_19, ?yw86_19⟩) (by assumption) ?nw86_19
        case hw86_19 => simp only [List.getElem?_toArray, List.getElem?_cons_succ, List.getElem?_cons_zero]; rfl
        case sw86_19 => rfl
        case yw86_19 => (intro w hSw; (try dsimp only at hSw); go_simp <;> with_reducible rfl)
        try simp only [Act.put, List.setIfInBounds_toArray, List.set_cons_zero, List.set_cons_succ]
        refine hR.take (i := 20) (oi := ?ow87_20) (v := ?vw87_20) (m' := 2097151) ?hw87_20 (by kernel_rfl) (by kernel_rfl) (fun _ _ _ h => h) (Or.inl ⟨?sw87_20, ?yw87_20⟩) (by assumption) ?nw87_20
        case hw87_20 => simp only [List.getElem?_toArray, List.getElem?_cons_succ, List.getElem?_cons_zero]; rfl
        case sw87_20 => rfl
        case yw87_20 => (intro w hSw; (try dsimp only at hSw); go_simp <;> with_reducible rfl)
        try simp only [Act.put, List.setIfInBounds_toArray, List.set_cons_zero, List.set_cons_succ]
        refine hR.take (i := 21) (oi := ?ow88_21) (v := ?vw88_21) (m' := 4194303) ?hw88_21 (by kernel_rfl) (by kernel_rfl) (fun _ _ _ h => h) (Or.inl ⟨?sw88_21, ?yw88_21⟩) (by assumption) ?nw88_21
        case hw88_21 => simp only [List.getElem?_toArray, List.getElem?_cons_succ, List.getElem?_cons_zero]; rfl
        case sw88_21 => rfl
        case yw88_21 => (intro w hSw; (try dsimp only at hSw); go_simp <;> with_reducible rfl)
        try simp only [Act.put, List.setIfInBounds_toArray, List.set_cons_zero, List.set_cons_succ]
        refine hR.all (by kernel_rfl) ?_ _
        refine NoPanic.normal ?_
        have hk : Hid (0 ≤ q.k ∧ q.k ≤ maxKF q.kind ∧ (q.kind = 3 ∨ q.kind = 6 → 1 ≤ q.k)) := Lib.hid (by rw [Hmk.out]; omega)
        clear hk36
        have b1 := b0
        by_cases h7 : q.kind = 7
        · have h7' : (q.kind == 7) = true := by simp [h7]
          have hnf : nFilF q.kind = 2 := by unfold nFilF; rw [if_pos h7]
          by_cases hln : q.fs.length = 2
          · have hl1 : ((q.fs.length : Int) != 2) = false := by simp [hln]
            have Hln := Lib.hid (hln.trans hnf.symm)
            have Hnf := Lib.hid hnf
            clear hln hnf
            have hd := Lib.hid (show HeadOk q from ⟨HK.out.1, HK.out.2.1, HK.out.2.2, hk.out.1, hk.out.2.1, hk.out.2.2, Hln.out⟩)
            go_wp2_with fail
            go_loopw [4] (fun i wx => ∃ j : Nat, j ≤ q.fs.length ∧ i = .int .i64 j ∧ (q.fs.take j).all validFltB = true ∧ Below wc.heap.size wc wx) (fun i _ => q.fs.length - (intOf i).toNat)
            case atStart => exact ⟨0, Nat.zero_le _, rfl, rfl, (Below.refl _ _).drew⟩
            case round =>
              rename_i wo wq
              obtain ⟨j, hj, rfl, ha, hb⟩ := hrel
              have Ha := Lib.hid ha
              have Hb := Lib.hid hb
              have Hs := Lib.hid (H.out.keep (Below.agree hb))
              obtain ⟨x0, x1, x2, x3⟩ := row4 (mvQ gq hb)
              clear ha hb
              have hj0 : (0 : Int) ≤ (j : Int) := by omega
              by_cases hlt : j < q.fs.length
              · have hj1 : (j : Int) < (q.fs.length : Int) := by omega
                have hj2 : (j : Int) < 2 := by have e1 := Hln.out; have e2 := Hnf.out; omega
                obtain ⟨l, hl⟩ : ∃ l, q.fs[j]? = some l := ⟨_, List.getElem?_eq_getElem hlt⟩
                obtain ⟨b5, o5, B5, d5, rfl, -, l5, z5, hs5⟩ := flt_at Hs.out hl
                have Hs5 := Lib.hid hs5
                have Hl := Lib.hid hl
                have hn : (q.fs.take (j + 1)).all validFltB = ((q.fs.take j).all validFltB && validFltB l) := by rw [take_snocR hl]; simp
                have Hn := Lib.hid hn
                clear hl hs5 hn
                cases hvl : validFltB l with
                | true =>
                  go_wp2_with (go_at_call 51; refine (validFltRef (l := l) _ Hs5.out).mono ?_; rw [hvl]; rintro e w6 ⟨rfl, hb6⟩)
                  go_roundw
                  case rel => exact ⟨j + 1, by omega, by go_num, by rw [Hn.out, Ha.out, hvl]; rfl, Hb.out.trans (hb6.mono Hb.out.size)⟩
                  case measure => simp [intOf]; omega
                | false =>
                  go_wp2_with (go_at_call 51; refine (validFltRef (l := l) _ Hs5.out).mono ?_; rw [hvl]; rintro e w6 ⟨rfl, hb6⟩)
                  go_ret
                  exact ⟨ret_b (not_flt (List.mem_of_getElem? Hl.out) hvl).symm, b0.out.trans ((Hb.out.trans (hb6.mono Hb.out.size)).mono b0.out.size)⟩
              · have hj1 : ¬ (j : Int) < (q.fs.length : Int) := by omega
                have hj2 : ¬ (j : Int) < 2 := by have e1 := Hln.out; have e2 := Hnf.out; omega
                go_wp2_with fail
                go_ret
                refine ⟨ret_b ?_, b0.out.trans (Hb.out.mono b0.out.size)⟩
                have := Ha.out
                rw [List.take_of_length_le (by omega)] at this
                unfold validQB
                rw [decide_eq_true hd.out, this]; rfl
          · have hl1 : ((q.fs.length : Int) != 2) = true := by simp; omega
            have hv := Lib.hid (not_head (q := q) fun h => hln (h.2.2.2.2.2.2.trans hnf))
            clear hnf
            go_wp2_with fail
            go_ret
            exact ⟨ret_b hv.out.symm, b0.out.drew⟩
        · have h7' : (q.kind == 7) = false := by simpa using h7
          have hnf : nFilF q.kind = 1 := by unfold nFilF; rw [if_neg h7]
          by_cases hln : q.fs.length = 1
          · have hl1 : ((q.fs.length : Int) != 1) = false := by simp [hln]
            have Hln := Lib.hid (hln.trans hnf.symm)
            have Hnf := Lib.hid hnf
            clear hln hnf
            have hd := Lib.hid (show HeadOk q from ⟨HK.out.1, HK.out.2.1, HK.out.2.2, hk.out.1, hk.out.2.1, hk.out.2.2, Hln.out⟩)
            go_wp2_with fail
            go_loopw [4] (fun i wx => ∃ j : Nat, j ≤ q.fs.length ∧ i = .int .i64 j ∧ (q.fs.take j).all validFltB = true ∧ Below wc.heap.size wc wx) (fun i _ => q.fs.length - (intOf i).toNat)
            case atStart => exact ⟨0, Nat.zero_le _, rfl, rfl, (Below.refl _ _).drew⟩
            case round =>
              rename_i wo wq
              obtain ⟨j, hj, rfl, ha, hb⟩ := hrel
              have Ha := Lib.hid ha
              have Hb := Lib.hid hb
              have Hs := Lib.hid (H.out.keep (Below.agree hb))
              obtain ⟨x0, x1, x2, x3⟩ := row4 (mvQ gq hb)
              clear ha hb
              have hj0 : (0 : Int) ≤ (j : Int) := by omega
              by_cases hlt : j < q.fs.length
              · have hj1 : (j : Int) < (q.fs.length : Int) := by omega
                have hj2 : (j : Int) < 1 := by have e1 := Hln.out; have e2 := Hnf.out; omega
                obtain ⟨l, hl⟩ : ∃ l, q.fs[j]? = some l := ⟨_, List.getElem?_eq_getElem hlt⟩
                obtain ⟨b5, o5, B5, d5, rfl, -, l5, z5, hs5⟩ := flt_at Hs.out hl
                have Hs5 := Lib.hid hs5
                have Hl := Lib.hid hl
                have hn : (q.fs.take (j + 1)).all validFltB = ((q.fs.take j).all validFltB && validFltB l) := by rw [take_snocR hl]; simp
                have Hn := Lib.hid hn
                clear hl hs5 hn
                cases hvl : validFltB l with
                | true =>
                  go_wp2_with (go_at_call 51; refine (validFltRef (l := l) _ Hs5.out).mono ?_; rw [hvl]; rintro e w6 ⟨rfl, hb6⟩)
                  go_roundw
                  case rel => exact ⟨j + 1, by omega, by go_num, by rw [Hn.out, Ha.out, hvl]; rfl, Hb.out.trans (hb6.mono Hb.out.size)⟩
                  case measure => simp [intOf]; omega
                | false =>
                  go_wp2_with (go_at_call 51; refine (validFltRef (l := l) _ Hs5.out).mono ?_; rw [hvl]; rintro e w6 ⟨rfl, hb6⟩)
                  go_ret
                  exact ⟨ret_b (not_flt (List.mem_of_getElem? Hl.out) hvl).symm, b0.out.trans ((Hb.out.trans (hb6.mono Hb.out.size)).mono b0.out.size)⟩
              · have hj1 : ¬ (j : Int) < (q.fs.length : Int) := by omega
                have hj2 : ¬ (j : Int) < 1 := by have e1 := Hln.out; have e2 := Hnf.out; omega
                go_wp2_with fail
                go_ret
                refine ⟨ret_b ?_, b0.out.trans (Hb.out.mono b0.out.size)⟩
                have := Ha.out
                rw [List.take_of_length_le (by omega)] at this
                unfold validQB
                rw [decide_eq_true hd.out, this]; rfl
          · have hl1 : ((q.fs.length : Int) != 1) = true := by simp; omega
            have hv := Lib.hid (not_head (q := q) fun h => hln (h.2.2.2.2.2.2.trans hnf))
            clear hnf
            go_wp2_with fail
            go_ret
            exact ⟨ret_b hv.out.symm, b0.out.drew⟩
    · subst hmk0
      refine wp_region_noPanic ?_
      refine wp_region_held_drew (S := fun X => Below wc.heap.size wc X) (by kernel_rfl) ?_ (fun hHeld => ?_)
      · (first | with_reducible assumption | (with_reducible refine Below.drew ?_; with_reducible assumption) | (with_reducible refine ba _ _ ?_; with_reducible assumption) | (with_reducible refine Below.drew ?_; with_reducible refine ba _ _ ?_; with_reducible assumption) | exact Below.refl _ _ | exact (Below.refl _ _).drew | exact (Below.refl _ _).alloc (Nat.le_refl _) _ | (refine bc _ _ (by assumption) (by assumption)))
      refine RegOk.begin_ (n := 22) (T := q6A) ⟨by kernel_rfl, by kernel_rfl, by kernel_rfl, by kernel_rfl⟩ fun hR => ?_
      refine hR.take (i := 0) (oi := ?ow89_0) (v := ?vw89_0) (m' := 1) ?hw89_0 (by kernel_rfl) (by kernel_rfl) (fun _ _ _ h => h) (Or.inl ⟨?sw89_0, ?yw89_0⟩) (by assumption) ?nw89_0
      case hw89_0 => simp only [List.getElem?_toArray, List.getElem?_cons_succ, List.getElem?_cons_zero]; rfl
      case sw89_0 => rfl
      case yw89_0 => (intro w hSw; (try dsimp only at hSw); go_simp <;> with_reducible rfl)
      try simp only [Act.put, List.setIfInBounds_toArray, List.set_cons_zero, List.set_cons_succ]
      refine hR.take (i := 1) (oi := ?ow90_1) (v := ?vw90_1) (m' := 3) ?hw90_1 (by kernel_rfl) (by kernel_rfl) (fun _ _ _ h => h) (Or.inl ⟨?sw90_1, ?yw90_1⟩) (by assumption) ?nw90_1
      case hw90_1 => simp only [List.getElem?_toArray, List.getElem?_cons_succ, List.getElem?_cons_zero]; rfl
      case sw90_1 => rfl
      case yw90_1 => (intro w hSw; (try dsimp only at hSw); go_simp <;> with_reducible rfl)
      try simp only [Act.put, List.setIfInBounds_toArray, List.set_cons_zero, List.set_cons_succ]
      refine hR.take (i := 2) (oi := ?ow91_2) (v := ?vw91_2) (m' := 7) ?hw91_2 (by kernel_rfl) (by kernel_rfl) (fun _ _ _ h => h) (Or.inl ⟨?sw91_2, ?yw91_2⟩) (by assumption) ?nw91_2
      case hw91_2 => simp only [List.getElem?_toArray, List.getElem?_cons_succ, List.getElem?_cons_zero]; rfl
      case sw91_2 => rfl
      case yw91_2 => (intro w hSw; (try dsimp only at hSw); go_simp <;> with_reducible rfl)
      try simp only [Act.put, List.setIfInBounds_toArray, List.set_cons_zero, List.set_cons_succ]
      refine hR.take (i := 3) (oi := ?ow92_3) (v := ?vw92_3) (m' := 15) ?hw92_3 (by kernel_rfl) (by kernel_rfl) (fun _ _ _ h => h) (Or.inl ⟨?sw92_3, ?yw92_3⟩) (by assumption) ?nw92_3
      case hw92_3 => simp only [List.getElem?_toArray, List.getElem?_cons_succ, List.getElem?_cons_zero]; rfl
      case sw92_3 => rfl
      case yw92_3 => (intro w hSw; (try dsimp only at hSw); go_simp <;> with_reducible rfl)
      try simp only [Act.put, List.setIfInBounds_toArray, List.set_cons_zero, List.set_cons_succ]
      refine hR.take (i := 4) (oi := ?ow93_4) (v := ?vw93_4) (m' := 31) ?hw93_4 (by kernel_rfl) (by kernel_rfl) (fun _ _ _ h => h) (Or.inl ⟨?sw93_4, ?yw93_4⟩) (by assumption) ?nw93_4
      case hw93_4 => simp only [List.getElem?_toArray, List.getElem?_cons_succ, List.getElem?_cons_zero]; rfl
      case sw93_4 => rfl
      case yw93_4 => (intro w hSw; (try dsimp only at hSw); go_simp <;> with_reducible rfl)
      try simp only [Act.put, List.setIfInBounds_toArray, List.set_cons_zero, List.set_cons_succ]
      refine hR.take (i := 5) (oi := ?ow94_5) (v := ?vw94_5) (m' := 63) ?hw94_5 (by kernel_rfl) (by kernel_rfl) (fun _ _ _ h => h) (Or.inl ⟨?sw94_5, ?yw94_5⟩) (by assumption) ?nw94_5
      case hw94_5 => simp only [List.getElem?_toArray, List.getElem?_cons_succ, List.getElem?_cons_zero]; rfl
      case sw94_5 => rfl
      case yw94_5 => (intro w hSw; (try dsimp only at hSw); go_simp <;> with_reducible rfl)
      try simp only [Act.put, List.setIfInBounds_toArray, List.set_cons_zero, List.set_cons_succ]
      refine hR.take (i := 6) (oi := ?ow95_6) (v := ?vw95_6) (m' := 127) ?hw95_6 (by kernel_rfl) (by kernel_rfl) (fun _ _ _ h => h) (Or.inl ⟨?sw95_6, ?yw95_6⟩) (by assumption) ?nw95_6
      case hw95_6 => simp only [List.getElem?_toArray, List.getElem?_cons_succ, List.getElem?_cons_zero]; rfl
      case sw95_6 => rfl
      case yw95_6 => (intro w hSw; (try dsimp only at hSw); go_simp <;> with_reducible rfl)
      try simp only [Act.put, List.setIfInBounds_toArray, List.set_cons_zero, List.set_cons_succ]
      refine hR.take (i := 7) (oi := ?ow96_7) (v := ?vw96_7) (m' := 255) ?hw96_7 (by kernel_rfl) (by kernel_rfl) (fun _ _ _ h => h) (Or.inl ⟨?sw96_7, ?yw96_7⟩) (by assumption) ?nw96_7
      case hw96_7 => simp only [List.getElem?_toArray, List.getElem?_cons_succ, List.getElem?_cons_zero]; rfl
      case sw96_7 => rfl
      case yw96_7 => (intro w hSw; (try dsimp only at hSw); go_simp <;> with_reducible rfl)
      try simp only [Act.put, List.setIfInBounds_toArray, List.set_cons_zero, List.set_cons_succ]
      refine hR.come (rs := [8]) (by kernel_rfl) (by simp) ?_
      refine AllReadyH.cons (o := ?o97_8) ?h97_8 (fun K hK => ?kw97_8) AllReadyH.nil
      case h97_8 => simp only [List.getElem?_toArray, List.getElem?_cons_succ, List.getElem?_cons_zero]; rfl
      go_simp
      go_at_call 36; refine (maxKRef _ _).mono ?_; rw [Hmk.out]; rintro e w2 ⟨rfl, rfl⟩
      refine hK.out _ _ ?_ (fun hHeld => ?_)
      · (first | with_reducible assumption | (with_reducible refine Below.drew ?_; with_reducible assumption) | (with_reducible refine ba _ _ ?_; with_reducible assumption) | (with_reducible refine Below.drew ?_; with_reducible refine ba _ _ ?_; with_reducible assumption) | exact Below.refl _ _ | exact (Below.refl _ _).drew | exact (Below.refl _ _).alloc (Nat.le_refl _) _ | (refine bc _ _ (by assumption) (by assumption)))
      clear hK K
      refine RegOk.put_ (m' := 511) (by kernel_rfl) ?_
      try simp only [Act.put, List.setIfInBounds_toArray, List.set_cons_zero, List.set_cons_succ]
      refine hR.take (i := 9) (oi := ?ow98_9) (v := ?vw98_9) (m' := 1023) ?hw98_9 (by kernel_rfl) (by kernel_rfl) (fun _ _ _ h => h) (Or.inl ⟨?sw98_9, ?yw98_9⟩) (by assumption) ?nw98_9
      case hw98_9 => simp only [List.getElem?_toArray, List.getElem?_cons_succ, List.getElem?_cons_zero]; rfl
      case sw98_9 => rfl
      case yw98_9 => (intro w hSw; (try dsimp only at hSw); go_simp <;> with_reducible rfl)
      try simp only [Act.put, List.setIfInBounds_toArray, List.set_cons_zero, List.set_cons_succ]
      refine hR.take (i := 10) (oi := ?ow99_10) (v := ?vw99_10) (m' := 2047) ?hw99_10 (by kernel_rfl) (by kernel_rfl) (fun _ _ _ h => h) (Or.inl ⟨?sw99_10, ?yw99_10⟩) (by assumption) ?nw99_10
      case hw99_10 => simp only [List.getElem?_toArray, List.getElem?_cons_succ, List.getElem?_cons_zero]; rfl
      case sw99_10 => rfl
      case yw99_10 => (intro w hSw; (try dsimp only at hSw); go_simp <;> with_reducible rfl)
      try simp only [Act.put, List.setIfInBounds_toArray, List.set_cons_zero, List.set_cons_succ]
      refine hR.take (i := 11) (oi := ?ow100_11) (v := ?vw100_11) (m' := 4095) ?hw100_11 (by kernel_rfl) (by kernel_rfl) (fun _ _ _ h => h) (Or.inl ⟨?sw100_11, ?yw100_11⟩) (by assumption) ?nw100_11
      case hw100_11 => simp only [List.getElem?_toArray, List.getElem?_cons_succ, List.getElem?_cons_zero]; rfl
      case sw100_11 => rfl
      case yw100_11 => (intro w hSw; (try dsimp only at hSw); go_simp <;> with_reducible rfl)
      try simp only [Act.put, List.setIfInBounds_toArray, List.set_cons_zero, List.set_cons_succ]
      refine hR.take (i := 12) (oi := ?ow101_12) (v := ?vw101_12) (m' := 8191) ?hw101_12 (by kernel_rfl) (by kernel_rfl) (fun _ _ _ h => h) (Or.inl ⟨?sw101_12, ?yw101_12⟩) (by assumption) ?nw101_12
      case hw101_12 => simp only [List.getElem?_toArray, List.getElem?_cons_succ, List.getElem?_cons_zero]; rfl
      case sw101_12 => rfl
      case yw101_12 => (intro w hSw; (try dsimp only at hSw); go_simp <;> with_reducible rfl)
      try simp only [Act.put, List.setIfInBounds_toArray, List.set_cons_zero, List.set_cons_succ]
      refine hR.take (i := 13) (oi := ?ow102_13) (v := ?vw102_13) (m' := 16383) ?hw102_13 (by kernel_rfl) (by kernel_rfl) (fun _ _ _ h => h) (Or.inl ⟨?sw102_13, ?yw102_13⟩) (by assumption) ?nw102_13
      case hw102_13 => simp only [List.getElem?_toArray, List.getElem?_cons_succ, List.getElem?_cons_zero]; rfl
      case sw102_13 => rfl
      case yw102_13 => (intro w hSw; (try dsimp only at hSw); go_simp <;> with_reducible rfl)
      try simp only [Act.put, List.setIfInBounds_toArray, List.set_cons_zero, List.set_cons_succ]
      refine hR.come (rs := [14]) (by kernel_rfl) (by simp) ?_
      refine AllReadyH.cons (o := ?o103_14) ?h103_14 (fun K hK => ?kw103_14) AllReadyH.nil
      case h103_14 => simp only [List.getElem?_toArray, List.getElem?_cons_succ, List.getElem?_cons_zero]; rfl
      go_simp
      go_at_call 36; refine (maxKRef _ _).mono ?_; rw [Hmk.out]; rintro e w3 ⟨rfl, rfl⟩
      refine hK.out _ _ ?_ (fun hHeld => ?_)
      · (first | with_reducible assumption | (with_reducible refine Below.drew ?_; with_reducible assumption) | (with_reducible refine ba _ _ ?_; with_reducible assumption) | (with_reducible refine Below.drew ?_; with_reducible refine ba _ _ ?_; with_reducible assumption) | exact Below.refl _ _ | exact (Below.refl _ _).drew | exact (Below.refl _ _).alloc (Nat.le_refl _) _ | (refine bc _ _ (by assumption) (by assumption)))
      clear hK K
      refine RegOk.put_ (m' := 32767) (by kernel_rfl) ?_
      try simp only [Act.put, List.setIfInBounds_toArray, List.set_cons_zero, List.set_cons_succ]
      refine hR.take (i := 15) (oi := ?ow104_15) (v := ?vw104_15) (m' := 65535) ?hw104_15 (by kernel_rfl) (by kernel_rfl) (fun _ _ _ h => h) (Or.inl ⟨?sw104_15, ?yw104_15⟩) (by assumption) ?nw104_15
      case hw104_15 => simp only [List.getElem?_toArray, List.getElem?_cons_succ, List.getElem?_cons_zero]; rfl
      case sw104_15 => rfl
      case yw104_15 => (intro w hSw; (try dsimp only at hSw); go_simp <;> with_reducible rfl)
      try simp only [Act.put, List.setIfInBounds_toArray, List.set_cons_zero, List.set_cons_succ]
      refine hR.take (i := 16) (oi := ?ow105_16) (v := ?vw105_16) (m' := 131071) ?hw105_16 (by kernel_rfl) (by kernel_rfl) (fun _ _ _ h => h) (Or.inl ⟨?sw105_16, ?yw105_16⟩) (by assumption) ?nw105_16
      case hw105_16 => simp only [List.getElem?_toArray, List.getElem?_cons_succ, List.getElem?_cons_zero]; rfl
      case sw105_16 => rfl
      case yw105_16 => (intro w hSw; (try dsimp only at hSw); go_simp <;> with_reducible rfl)
      try simp only [Act.put, List.setIfInBounds_toArray, List.set_cons_zero, List.set_cons_succ]
      refine hR.take (i := 17) (oi := ?ow106_17) (v := ?vw106_17) (m' := 262143) ?hw106_17 (by kernel_rfl) (by kernel_rfl) (fun _ _ _ h => h) (Or.inr ⟨?sw106_17, ?yw106_17⟩) (by assumption) ?nw106_17
      case hw106_17 => simp only [List.getElem?_toArray, List.getElem?_cons_succ, List.getElem?_cons_zero]; rfl
      case sw106_17 => rfl
      case yw106_17 => rfl
      try simp only [Act.put, List.setIfInBounds_toArray, List.set_cons_zero, List.set_cons_succ]
      refine hR.take (i := 18) (oi := ?ow107_18) (v := ?vw107_18) (m' := 524287) ?hw107_18 (by kernel_rfl) (by kernel_rfl) (fun _ _ _ h => h) (Or.inr ⟨?sw107_18, ?yw107_18⟩) (by assumption) ?nw107_18
      case hw107_18 => simp only [List.getElem?_toArray, List.getElem?_cons_succ, List.getElem?_cons_zero]; rfl
      case sw107_18 => rfl
      case yw107_18 => rfl
      try simp only [Act.put, List.setIfInBounds_toArray, List.set_cons_zero, List.set_cons_succ]
      refine hR.take (i := 19) (oi := ?ow108_19) (v := ?vw108_19) (m' := 1048575) ?hw108_19 (by kernel_rfl) (by kernel_rfl) (fun _ _ _ h => h) (Or.inr ⟨?sw108_19, ?yw108_19⟩) (by assumption) ?nw108_19
      case hw108_19 => simp only [List.getElem?_toArray, List.getElem?_cons_succ, List.getElem?_cons_zero]; rfl
      case sw108_19 => rfl
      case yw108_19 => rfl
      try simp only [Act.put, List.setIfInBounds_toArray, List.set_cons_zero, List.set_cons_succ]
      refine hR.take (i := 20) (oi := ?ow109_20) (v := ?vw109_20) (m' := 2097151) ?hw109_20 (by kernel_rfl) (by kernel_rfl) (fun _ _ _ h => h) (Or.inl ⟨?sw109_20, ?yw109_20⟩) (by assumption) ?nw109_20
      case hw109_20 => simp only [List.getElem?_toArray, List.getElem?_cons_succ, List.getElem?_cons_zero]; rfl
      case sw109_20 => rfl
      case yw109_20 => (intro w hSw; (try dsimp only at hSw); go_simp <;> with_reducible rfl)
      try simp only [Act.put, List.setIfInBounds_toArray, List.set_cons_zero, List.set_cons_succ]
      refine hR.take (i := 21) (oi := ?ow110_21) (v := ?vw110_21) (m' := 4194303) ?hw110_21 (by kernel_rfl) (by kernel_rfl) (fun _ _ _ h => h) (Or.inl ⟨?sw110_21, ?yw110_21⟩) (by assumption) ?nw110_21
      case hw110_21 => simp only [List.getElem?_toArray, List.getElem?_cons_succ, List.getElem?_cons_zero]; rfl
      case sw110_21 => rfl
      case yw110_21 => (intro w hSw; (try dsimp only at hSw); go_simp <;> with_reducible rfl)
      try simp only [Act.put, List.setIfInBounds_toArray, List.set_cons_zero, List.set_cons_succ]
      refine hR.all (by kernel_rfl) ?_ _
      refine NoPanic.normal ?_
      have hk : Hid (0 ≤ q.k ∧ q.k ≤ maxKF q.kind ∧ (q.kind = 3 ∨ q.kind = 6 → 1 ≤ q.k)) := Lib.hid (by rw [Hmk.out]; omega)
      clear hk36
      have b1 := b0
      by_cases h7 : q.kind = 7
      · have h7' : (q.kind == 7) = true := by simp [h7]
        have hnf : nFilF q.kind = 2 := by unfold nFilF; rw [if_pos h7]
        by_cases hln : q.fs.length = 2
        · have hl1 : ((q.fs.length : Int) != 2) = false := by simp [hln]
          have Hln := Lib.hid (hln.trans hnf.symm)
          have Hnf := Lib.hid hnf
          clear hln hnf
          have hd := Lib.hid (show HeadOk q from ⟨HK.out.1, HK.out.2.1, HK.out.2.2, hk.out.1, hk.out.2.1, hk.out.2.2, Hln.out⟩)
          go_wp2_with fail
          go_loopw [4] (fun i wx => ∃ j : Nat, j ≤ q.fs.length ∧ i = .int .i64 j ∧ (q.fs.take j).all validFltB = true ∧ Below wc.heap.size wc wx) (fun i _ => q.fs.length - (intOf i).toNat)
          case atStart => exact ⟨0, Nat.zero_le _, rfl, rfl, (Below.refl _ _).drew⟩
          case round =>
            rename_i wo wq
            obtain ⟨j, hj, rfl, ha, hb⟩ := hrel
            have Ha := Lib.hid ha
            have Hb := Lib.hid hb
            have Hs := Lib.hid (H.out.keep (Below.agree hb))
            obtain ⟨x0, x1, x2, x3⟩ := row4 (mvQ gq hb)
            clear ha hb
            have hj0 : (0 : Int) ≤ (j : Int) := by omega
            by_cases hlt : j < q.fs.length
            · have hj1 : (j : Int) < (q.fs.length : Int) := by omega
              have hj2 : (j : Int) < 2 := by have e1 := Hln.out; have e2 := Hnf.out; omega
              obtain ⟨l, hl⟩ : ∃ l, q.fs[j]? = some l := ⟨_, List.getElem?_eq_getElem hlt⟩
              obtain ⟨b5, o5, B5, d5, rfl, -, l5, z5, hs5⟩ := flt_at Hs.out hl
              have Hs5 := Lib.hid hs5
              have Hl := Lib.hid hl
              have hn : (q.fs.take (j + 1)).all validFltB = ((q.fs.take j).all validFltB && validFltB l) := by rw [take_snocR hl]; simp
              have Hn := Lib.hid hn
              clear hl hs5 hn
              cases hvl : validFltB l with
              | true =>
                go_wp2_with (go_at_call 51; refine (validFltRef (l := l) _ Hs5.out).mono ?_; rw [hvl]; rintro e w6 ⟨rfl, hb6⟩)
                go_roundw
                case rel => exact ⟨j + 1, by omega, by go_num, by rw [Hn.out, Ha.out, hvl]; rfl, Hb.out.trans (hb6.mono Hb.out.size)⟩
                case measure => simp [intOf]; omega
              | false =>
                go_wp2_with (go_at_call 51; refine (validFltRef (l := l) _ Hs5.out).mono ?_; rw [hvl]; rintro e w6 ⟨rfl, hb6⟩)
                go_ret
                exact ⟨ret_b (not_flt (List.mem_of_getElem? Hl.out) hvl).symm, b0.out.trans ((Hb.out.trans (hb6.mono Hb.out.size)).mono b0.out.size)⟩
            · have hj1 : ¬ (j : Int) < (q.fs.length : Int) := by omega
              have hj2 : ¬ (j : Int) < 2 := by have e1 := Hln.out; have e2 := Hnf.out; omega
              go_wp2_with fail
              go_ret
              refine ⟨ret_b ?_, b0.out.trans (Hb.out.mono b0.out.size)⟩
              have := Ha.out
              rw [List.take_of_length_le (by omega)] at this
              unfold validQB
              rw [decide_eq_true hd.out, this]; rfl
        · have hl1 : ((q.fs.length : Int) != 2) = true := by simp; omega
          have hv := Lib.hid (not_head (q := q) fun h => hln (h.2.2.2.2.2.2.trans hnf))
          clear hnf
          go_wp2_with fail
          go_ret
          exact ⟨ret_b hv.out.symm, b0.out.drew⟩
      · have h7' : (q.kind == 7) = false := by simpa using h7
        have hnf : nFilF q.kind = 1 := by unfold nFilF; rw [if_neg h7]
        by_cases hln : q.fs.length = 1
        · have hl1 : ((q.fs.length : Int) != 1) = false := by simp [hln]
          have Hln := Lib.hid (hln.trans hnf.symm)
          have Hnf := Lib.hid hnf
          clear hln hnf
          have hd := Lib.hid (show HeadOk q from ⟨HK.out.1, HK.out.2.1, HK.out.2.2, hk.out.1, hk.out.2.1, hk.out.2.2, Hln.out⟩)
          go_wp2_with fail
          go_loopw [4] (fun i wx => ∃ j : Nat, j ≤ q.fs.length ∧ i = .int .i64 j ∧ (q.fs.take j).all validFltB = true ∧ Below wc.heap.size wc wx) (fun i _ => q.fs.length - (intOf i).toNat)
          case atStart => exact ⟨0, Nat.zero_le _, rfl, rfl, (Below.refl _ _).drew⟩
          case round =>
            rename_i wo wq
            obtain ⟨j, hj, rfl, ha, hb⟩ := hrel
            have Ha := Lib.hid ha
            have Hb := Lib.hid hb
            have Hs := Lib.hid (H.out.keep (Below.agree hb))
            obtain ⟨x0, x1, x2, x3⟩ := row4 (mvQ gq hb)
            clear ha hb
            have hj0 : (0 : Int) ≤ (j : Int) := by omega
            by_cases hlt : j < q.fs.length
            · have hj1 : (j : Int) < (q.fs.length : Int) := by omega
              have hj2 : (j : Int) < 1 := by have e1 := Hln.out; have e2 := Hnf.out; omega
              obtain ⟨l, hl⟩ : ∃ l, q.fs[j]? = some l := ⟨_, List.getElem?_eq_getElem hlt⟩
              obtain ⟨b5, o5, B5, d5, rfl, -, l5, z5, hs5⟩ := flt_at Hs.out hl
              have Hs5 := Lib.hid hs5
              have Hl := Lib.hid hl
              have hn : (q.fs.take (j + 1)).all validFltB = ((q.fs.take j).all validFltB && validFltB l) := by rw [take_snocR hl]; simp
              have Hn := Lib.hid hn
              clear hl hs5 hn
              cases hvl : validFltB l with
              | true =>
                go_wp2_with (go_at_call 51; refine (validFltRef (l := l) _ Hs5.out).mono ?_; rw [hvl]; rintro e w6 ⟨rfl, hb6⟩)
                go_roundw
                case rel => exact ⟨j + 1, by omega, by go_num, by rw [Hn.out, Ha.out, hvl]; rfl, Hb.out.trans (hb6.mono Hb.out.size)⟩
                case measure => simp [intOf]; omega
              | false =>
                go_wp2_with (go_at_call 51; refine (validFltRef (l := l) _ Hs5.out).mono ?_; rw [hvl]; rintro e w6 ⟨rfl, hb6⟩)
                go_ret
                exact ⟨ret_b (not_flt (List.mem_of_getElem? Hl.out) hvl).symm, b0.out.trans ((Hb.out.trans (hb6.mono Hb.out.size)).mono b0.out.size)⟩
            · have hj1 : ¬ (j : Int) < (q.fs.length : Int) := by omega
              have hj2 : ¬ (j : Int) < 1 := by have e1 := Hln.out; have e2 := Hnf.out; omega
              go_wp2_with fail
              go_ret
              refine ⟨ret_b ?_, b0.out.trans (Hb.out.mono b0.out.size)⟩
              have := Ha.out
              rw [List.take_of_length_le (by omega)] at this
              unfold validQB
              rw [decide_eq_true hd.out, this]; rfl
        · have hl1 : ((q.fs.length : Int) != 1) = true := by simp; omega
          have hv := Lib.hid (not_head (q := q) fun h => hln (h.2.2.2.2.2.2.trans hnf))
          clear hnf
          go_wp2_with fail
          go_ret
          exact ⟨ret_b hv.out.symm, b0.out.drew⟩
end Go.Proofs.YtihcaoipemcddaaDoor
