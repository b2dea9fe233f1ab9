/-
  Texts of this claim, merged: Q6. Conditions: as each theorem says.
-/
import Derived.Test.YtagadbdbbglddaaGreatDoorU1
import Derived.Test.YtagadbdbbglddaaGreatDoorU2
import Derived.Test.YtagadbdbbglddaaGreatDoorU3
import Derived.Test.YtagadbdbbglddaaGreatDoorU4
import Derived.Test.YtagadbdbbglddaaGreatDoorU6
import Derived.Test.YtagadbdbbglddaaGreatDoorU7
import Derived.Test.YtagadbdbbglddaaGreatDoorU8
set_option linter.unusedSimpArgs false
set_option linter.unusedVariables false
namespace Go.Proofs.YtagadbdbbglddaaGreatDoor
open Go.RowKit

def q6A : List FRow := [(0, ([], (35, [1]))), (1, ([0], (36, [34]))), (2, ([1], (37, [35]))), (3, ([2], (38, [36]))), (4, ([3], (39, [1, 37]))), (5, ([4, 3], (40, [38, 37]))), (6, ([3], (41, [1, 37]))), (7, ([6, 3], (42, [40, 37]))), (8, ([7, 3, 3], (43, [41, 37]))), (9, ([5, 8, 3], (44, [39, 42, 37]))), (10, ([3, 9], (45, [37, 43]))), (11, ([10, 8], (46, [44]))), (12, ([11], (47, [1, 45]))), (13, ([12, 11], (48, [46, 45]))), (14, ([13, 11, 11], (49, [47, 45]))), (15, ([14, 11], (50, [48, 45]))), (16, ([15, 14, 11], (51, [49, 45]))), (17, ([16], (52, [1, 50]))), (18, ([17, 16], (53, [51, 50]))), (19, ([18, 16], (54, [52, 50]))), (20, ([16, 19, 11], (55, [50, 53, 45]))), (21, ([11, 20], (56, [45, 54])))]
set_option maxRecDepth 100000 in
set_option maxHeartbeats 8000000 in
theorem validRef {q : Qy} {A : Option Addr} {c : Nat} {S : Nat → Prop} (w : World) (h : Sl cdE.slice S w A c q.fs) :
    Calls Tryz.prog 40 #[(.agg #[.int .i64 q.kind, .int .i64 q.col, .int .i64 q.k, .slice A q.fs.length c])] w fun e w' => e = .returned (.bool (validQB q)) ∧ Below w.heap.size w w' := by
  have H := Lib.hid h
  have hm := h.max
  clear h
  go_enter Tryz.func40, Tryz.ntmps40
  go_upto_region 1 with fail
  refine wp_world (F := fun wx => Below w.heap.size w wx ∧ Hid (wx.heap[w.heap.size]? = some (.cells #[.int .i64 q.kind, .int .i64 q.col, .int .i64 q.k, .slice A q.fs.length c] 24 (0, 0)))) ⟨(Below.refl _ _).alloc (Nat.le_refl _) _, Lib.hid (heap_alloc_at rfl)⟩ ?_
  rintro wr ⟨bb, gq⟩
  have b0 := Lib.hid bb
  replace H := Lib.hid (H.out.keep (Below.agree bb))
  clear bb
  obtain ⟨x0, x1, x2, x3⟩ := row4 gq
  obtain ⟨hc, hhc⟩ : ∃ hc, hasColB q.kind = hc := ⟨_, rfl⟩
  have hhc' : hc = true ↔ (2 ≤ q.kind ∧ q.kind ≤ 6) := by rw [← hhc]; simp [hasColB]
  have Hhc := Lib.hid hhc'
  clear hhc'
  by_cases c1 : q.kind < 1
  · have hv := Lib.hid (not_head (q := q) fun h => by have := h.1; omega)
    (clear gq H; go_wp2_with (first | (go_at_call 37; refine (hasColRef _ _).mono ?_; rw [hhc]; rintro e w2 ⟨rfl, rfl⟩)); go_ret; exact ⟨ret_b hv.out.symm, b0.out⟩)
  by_cases c2 : 7 < q.kind
  · have hv := Lib.hid (not_head (q := q) fun h => by have := h.1; omega)
    (clear gq H; go_wp2_with (first | (go_at_call 37; refine (hasColRef _ _).mono ?_; rw [hhc]; rintro e w2 ⟨rfl, rfl⟩)); go_ret; exact ⟨ret_b hv.out.symm, b0.out⟩)
  by_cases c3 : q.col < 0
  · have hv := Lib.hid (not_head (q := q) fun h => by have := h.2.1; omega)
    (clear gq H; go_wp2_with (first | (go_at_call 37; refine (hasColRef _ _).mono ?_; rw [hhc]; rintro e w2 ⟨rfl, rfl⟩)); go_ret; exact ⟨ret_b hv.out.symm, b0.out⟩)
  by_cases c4 : 3 < q.col
  · have hv := Lib.hid (not_head (q := q) fun h => by have := h.2.1; omega)
    (clear gq H; go_wp2_with (first | (go_at_call 37; refine (hasColRef _ _).mono ?_; rw [hhc]; rintro e w2 ⟨rfl, rfl⟩)); go_ret; exact ⟨ret_b hv.out.symm, b0.out⟩)
  have f1 : decide (q.kind < 1) = false := decide_eq_false c1
  have f2 : decide (7 < q.kind) = false := decide_eq_false c2
  have f3 : decide (q.col < 0) = false := decide_eq_false c3
  have f4 : decide (3 < q.col) = false := decide_eq_false c4
  by_cases c5 : q.col = 0 ∨ hc = true
  rotate_left
  · have hv := Lib.hid (not_head (q := q) fun h => by
      rcases h.2.2.1 with h | h
      · exact c5 (.inl h)
      · exact c5 (.inr (Hhc.out.2 h)))
    have f5 : (q.col != 0) = true := by simp; omega
    have f6 : hc = false := by simpa using fun h => c5 (.inr h)
    clear c5
    subst f6
    (clear gq H; go_wp2_with (first | (go_at_call 37; refine (hasColRef _ _).mono ?_; rw [hhc]; rintro e w2 ⟨rfl, rfl⟩)); go_ret; exact ⟨ret_b hv.out.symm, b0.out⟩)
  have HK : Hid ((1 ≤ q.kind ∧ q.kind ≤ 7) ∧ (0 ≤ q.col ∧ q.col ≤ 3) ∧ (q.col = 0 ∨ (2 ≤ q.kind ∧ q.kind ≤ 6))) := Lib.hid ⟨by omega, by omega, c5.imp id (fun h => Hhc.out.1 h)⟩
  obtain ⟨mk, hmk⟩ : ∃ mk, maxKF q.kind = mk := ⟨_, rfl⟩
  have hmk3 : (0 < mk ∧ (q.kind = 3 ∨ q.kind = 6)) ∨ (mk = 0 ∧ ¬ (q.kind = 3 ∨ q.kind = 6)) := by
    rw [← hmk]; unfold maxKF
    split
    · omega
    · split <;> omega
  have Hmk := Lib.hid hmk
  have zq : ∀ W, Below wr.heap.size wr W → _ ∧ _ ∧ _ ∧ _ := fun W hW => row4 (mvQ gq hW)
  have br : Below wr.heap.size wr wr := Below.refl _ _
  have ba : ∀ W o, Below wr.heap.size wr W → Below wr.heap.size wr (W.alloc o) := fun W o h => h.alloc h.size o
  have bc : ∀ W W', Below wr.heap.size wr W → Below W.heap.size W W' → Below wr.heap.size wr W' := fun W W' h k => h.trans (k.mono h.size)
  clear hmk
  go_cut [33] (fun v wx => v = .bool false ∧ wx = wr)
  case first =>
    by_cases h0 : q.col = 0
    · have f5 : (q.col != 0) = false := by simp [h0]
      clear h0 c5
      go_wp2_with fail
      go_meet
      exact ⟨rfl, rfl⟩
    · have f5 : (q.col != 0) = true := by simp [h0]
      have f6 : hc = true := c5.resolve_left h0
      subst f6
      clear h0 c5
      go_wp2_with (go_at_call 37; refine (hasColRef _ _).mono ?_; rw [hhc]; rintro e w2 ⟨rfl, rfl⟩)
      go_meet
      exact ⟨rfl, rfl⟩
  case rest =>
    obtain ⟨rfl, rfl⟩ := hcut
    have zq : ∀ W, Below wc.heap.size wc W → _ ∧ _ ∧ _ ∧ _ := fun W hW => row4 (mvQ gq hW)
    have br : Below wc.heap.size wc wc := Below.refl _ _
    have ba : ∀ W o, Below wc.heap.size wc W → Below wc.heap.size wc (W.alloc o) := fun W o h => h.alloc h.size o
    have bc : ∀ W W', Below wc.heap.size wc W → Below W.heap.size W W' → Below wc.heap.size wc W' := fun W W' h k => h.trans (k.mono h.size)
    clear c1 c2 c3 c4 c5 f1 f2 f3 f4 Hhc x0 x1 x2 x3
    go_upto_region 3 with fail
    by_cases k1 : q.k < 0
    · have hv := Lib.hid (not_head (q := q) fun h => by have := h.2.2.2.1; omega)
      have g1 : (q.k < 0) = True := eq_true k1
      refine wp_region_noPanic ?_
      refine wp_region_held_drew (S := fun X => Below wc.heap.size wc X) (by kernel_rfl) ?_ (fun hHeld => ?_)
      · (first | with_reducible assumption | (with_reducible refine Below.drew ?_; with_reducible assumption) | (with_reducible refine ba _ _ ?_; with_reducible assumption) | (with_reducible refine Below.drew ?_; with_reducible refine ba _ _ ?_; with_reducible assumption) | exact Below.refl _ _ | exact (Below.refl _ _).drew | exact (Below.refl _ _).alloc (Nat.le_refl _) _ | (refine bc _ _ (by assumption) (by assumption)))
      refine RegOk.begin_ (n := 22) (T := q6A) ⟨by kernel_rfl, by kernel_rfl, by kernel_rfl, by kernel_rfl⟩ fun hR => ?_
      refine hR.take (i := 0) (oi := ?ow430_0) (v := ?vw430_0) (m' := 1) ?hw430_0 (by kernel_rfl) (by kernel_rfl) (fun _ _ _ h => h) (Or.inl ⟨?sw430_0, ?yw430_0⟩) (by assumption) ?nw430_0
      case hw430_0 => simp only [List.getElem?_toArray, List.getElem?_cons_succ, List.getElem?_cons_zero]; rfl
      case sw430_0 => rfl
      case yw430_0 => (intro w hSw; (try dsimp only at hSw); go_simp <;> with_reducible rfl)
      try simp only [Act.put, List.setIfInBounds_toArray, List.set_cons_zero, List.set_cons_succ]
      refine hR.take (i := 1) (oi := ?ow431_1) (v := ?vw431_1) (m' := 3) ?hw431_1 (by kernel_rfl) (by kernel_rfl) (fun _ _ _ h => h) (Or.inl ⟨?sw431_1, ?yw431_1⟩) (by assumption) ?nw431_1
      case hw431_1 => simp only [List.getElem?_toArray, List.getElem?_cons_succ, List.getElem?_cons_zero]; rfl
      case sw431_1 => rfl
      case yw431_1 => (intro w hSw; (try dsimp only at hSw); go_simp <;> with_reducible rfl)
      try simp only [Act.put, List.setIfInBounds_toArray, List.set_cons_zero, List.set_cons_succ]
      refine hR.take (i := 2) (oi := ?ow432_2) (v := ?vw432_2) (m' := 7) ?hw432_2 (by kernel_rfl) (by kernel_rfl) (fun _ _ _ h => h) (Or.inl ⟨?sw432_2, ?yw432_2⟩) (by assumption) ?nw432_2
      case hw432_2 => simp only [List.getElem?_toArray, List.getElem?_cons_succ, List.getElem?_cons_zero]; rfl
      case sw432_2 => rfl
      case yw432_2 => (intro w hSw; (try dsimp only at hSw); go_simp <;> with_reducible rfl)
      try simp only [Act.put, List.setIfInBounds_toArray, List.set_cons_zero, List.set_cons_succ]
      refine hR.take (i := 3) (oi := ?ow433_3) (v := ?vw433_3) (m' := 15) ?hw433_3 (by kernel_rfl) (by kernel_rfl) (fun _ _ _ h => h) (Or.inl ⟨?sw433_3, ?yw433_3⟩) (by assumption) ?nw433_3
      case hw433_3 => simp only [List.getElem?_toArray, List.getElem?_cons_succ, List.getElem?_cons_zero]; rfl
      case sw433_3 => rfl
      case yw433_3 => (intro w hSw; (try dsimp only at hSw); go_simp <;> with_reducible rfl)
      try simp only [Act.put, List.setIfInBounds_toArray, List.set_cons_zero, List.set_cons_succ]
      refine hR.take (i := 4) (oi := ?ow434_4) (v := ?vw434_4) (m' := 31) ?hw434_4 (by kernel_rfl) (by kernel_rfl) (fun _ _ _ h => h) (Or.inr ⟨?sw434_4, ?yw434_4⟩) (by assumption) ?nw434_4
      case hw434_4 => simp only [List.getElem?_toArray, List.getElem?_cons_succ, List.getElem?_cons_zero]; rfl
      case sw434_4 => rfl
      case yw434_4 => rfl
      try simp only [Act.put, List.setIfInBounds_toArray, List.set_cons_zero, List.set_cons_succ]
      refine hR.take (i := 5) (oi := ?ow435_5) (v := ?vw435_5) (m' := 63) ?hw435_5 (by kernel_rfl) (by kernel_rfl) (fun _ _ _ h => h) (Or.inr ⟨?sw435_5, ?yw435_5⟩) (by assumption) ?nw435_5
      case hw435_5 => simp only [List.getElem?_toArray, List.getElem?_cons_succ, List.getElem?_cons_zero]; rfl
      case sw435_5 => rfl
      case yw435_5 => rfl
      try simp only [Act.put, List.setIfInBounds_toArray, List.set_cons_zero, List.set_cons_succ]
      refine hR.take (i := 6) (oi := ?ow436_6) (v := ?vw436_6) (m' := 127) ?hw436_6 (by kernel_rfl) (by kernel_rfl) (fun _ _ _ h => h) (Or.inr ⟨?sw436_6, ?yw436_6⟩) (by assumption) ?nw436_6
      case hw436_6 => simp only [List.getElem?_toArray, List.getElem?_cons_succ, List.getElem?_cons_zero]; rfl
      case sw436_6 => rfl
      case yw436_6 => rfl
      try simp only [Act.put, List.setIfInBounds_toArray, List.set_cons_zero, List.set_cons_succ]
      refine hR.take (i := 7) (oi := ?ow437_7) (v := ?vw437_7) (m' := 255) ?hw437_7 (by kernel_rfl) (by kernel_rfl) (fun _ _ _ h => h) (Or.inr ⟨?sw437_7, ?yw437_7⟩) (by assumption) ?nw437_7
      case hw437_7 => simp only [List.getElem?_toArray, List.getElem?_cons_succ, List.getElem?_cons_zero]; rfl
      case sw437_7 => rfl
      case yw437_7 => rfl
      try simp only [Act.put, List.setIfInBounds_toArray, List.set_cons_zero, List.set_cons_succ]
      refine hR.take (i := 8) (oi := ?ow438_8) (v := ?vw438_8) (m' := 511) ?hw438_8 (by kernel_rfl) (by kernel_rfl) (fun _ _ _ h => h) (Or.inr ⟨?sw438_8, ?yw438_8⟩) (by assumption) ?nw438_8
      case hw438_8 => simp only [List.getElem?_toArray, List.getElem?_cons_succ, List.getElem?_cons_zero]; rfl
      case sw438_8 => rfl
      case yw438_8 => rfl
      try simp only [Act.put, List.setIfInBounds_toArray, List.set_cons_zero, List.set_cons_succ]
      refine hR.take (i := 9) (oi := ?ow439_9) (v := ?vw439_9) (m' := 1023) ?hw439_9 (by kernel_rfl) (by kernel_rfl) (fun _ _ _ h => h) (Or.inr ⟨?sw439_9, ?yw439_9⟩) (by assumption) ?nw439_9
      case hw439_9 => simp only [List.getElem?_toArray, List.getElem?_cons_succ, List.getElem?_cons_zero]; rfl
      case sw439_9 => rfl
      case yw439_9 => rfl
      try simp only [Act.put, List.setIfInBounds_toArray, List.set_cons_zero, List.set_cons_succ]
      refine hR.take (i := 10) (oi := ?ow440_10) (v := ?vw440_10) (m' := 2047) ?hw440_10 (by kernel_rfl) (by kernel_rfl) (fun _ _ _ h => h) (Or.inl ⟨?sw440_10, ?yw440_10⟩) (by assumption) ?nw440_10
      case hw440_10 => simp only [List.getElem?_toArray, List.getElem?_cons_succ, List.getElem?_cons_zero]; rfl
      case sw440_10 => rfl
      case yw440_10 => (intro w hSw; (try dsimp only at hSw); go_simp <;> with_reducible rfl)
      try simp only [Act.put, List.setIfInBounds_toArray, List.set_cons_zero, List.set_cons_succ]
      refine hR.take (i := 11) (oi := ?ow441_11) (v := ?vw441_11) (m' := 4095) ?hw441_11 (by kernel_rfl) (by kernel_rfl) (fun _ _ _ h => h) (Or.inl ⟨?sw441_11, ?yw441_11⟩) (by assumption) ?nw441_11
      case hw441_11 => simp only [List.getElem?_toArray, List.getElem?_cons_succ, List.getElem?_cons_zero]; rfl
      case sw441_11 => rfl
      case yw441_11 => (intro w hSw; (try dsimp only at hSw); go_simp <;> with_reducible rfl)
      try simp only [Act.put, List.setIfInBounds_toArray, List.set_cons_zero, List.set_cons_succ]
      refine hR.take (i := 12) (oi := ?ow442_12) (v := ?vw442_12) (m' := 8191) ?hw442_12 (by kernel_rfl) (by kernel_rfl) (fun _ _ _ h => h) (Or.inr ⟨?sw442_12, ?yw442_12⟩) (by assumption) ?nw442_12
      case hw442_12 => simp only [List.getElem?_toArray, List.getElem?_cons_succ, List.getElem?_cons_zero]; rfl
      case sw442_12 => rfl
      case yw442_12 => rfl
      try simp only [Act.put, List.setIfInBounds_toArray, List.set_cons_zero, List.set_cons_succ]
      refine hR.take (i := 13) (oi := ?ow443_13) (v := ?vw443_13) (m' := 16383) ?hw443_13 (by kernel_rfl) (by kernel_rfl) (fun _ _ _ h => h) (Or.inr ⟨?sw443_13, ?yw443_13⟩) (by assumption) ?nw443_13
      case hw443_13 => simp only [List.getElem?_toArray, List.getElem?_cons_succ, List.getElem?_cons_zero]; rfl
      case sw443_13 => rfl
      case yw443_13 => rfl
      try simp only [Act.put, List.setIfInBounds_toArray, List.set_cons_zero, List.set_cons_succ]
      refine hR.take (i := 14) (oi := ?ow444_14) (v := ?vw444_14) (m' := 32767) ?hw444_14 (by kernel_rfl) (by kernel_rfl) (fun _ _ _ h => h) (Or.inr ⟨?sw444_14, ?yw444_14⟩) (by assumption) ?nw444_14
      case hw444_14 => simp only [List.getElem?_toArray, List.getElem?_cons_succ, List.getElem?_cons_zero]; rfl
      case sw444_14 => rfl
      case yw444_14 => rfl
      try simp only [Act.put, List.setIfInBounds_toArray, List.set_cons_zero, List.set_cons_succ]
      refine hR.take (i := 15) (oi := ?ow445_15) (v := ?vw445_15) (m' := 65535) ?hw445_15 (by kernel_rfl) (by kernel_rfl) (fun _ _ _ h => h) (Or.inr ⟨?sw445_15, ?yw445_15⟩) (by assumption) ?nw445_15
      case hw445_15 => simp only [List.getElem?_toArray, List.getElem?_cons_succ, List.getElem?_cons_zero]; rfl
      case sw445_15 => rfl
      case yw445_15 => rfl
      try simp only [Act.put, List.setIfInBounds_toArray, List.set_cons_zero, List.set_cons_succ]
      refine hR.take (i := 16) (oi := ?ow446_16) (v := ?vw446_16) (m' := 131071) ?hw446_16 (by kernel_rfl) (by kernel_rfl) (fun _ _ _ h => h) (Or.inr ⟨?sw446_16, ?yw446_16⟩) (by assumption) ?nw446_16
      case hw446_16 => simp only [List.getElem?_toArray, List.getElem?_cons_succ, List.getElem?_cons_zero]; rfl
      case sw446_16 => rfl
      case yw446_16 => rfl
      try simp only [Act.put, List.setIfInBounds_toArray, List.set_cons_zero, List.set_cons_succ]
      refine hR.take (i := 17) (oi := ?ow447_17) (v := ?vw447_17) (m' := 262143) ?hw447_17 (by kernel_rfl) (by kernel_rfl) (fun _ _ _ h => h) (Or.inr ⟨?sw447_17, ?yw447_17⟩) (by assumption) ?nw447_17
      case hw447_17 => simp only [List.getElem?_toArray, List.getElem?_cons_succ, List.getElem?_cons_zero]; rfl
      case sw447_17 => rfl
      case yw447_17 => rfl
      try simp only [Act.put, List.setIfInBounds_toArray, List.set_cons_zero, List.set_cons_succ]
      refine hR.take (i := 18) (oi := ?ow448_18) (v := ?vw448_18) (m' := 524287) ?hw448_18 (by kernel_rfl) (by kernel_rfl) (fun _ _ _ h => h) (Or.inr ⟨?sw448_18, ?yw448_18⟩) (by assumption) ?nw448_18
      case hw448_18 => simp only [List.getElem?_toArray, List.getElem?_cons_succ, List.getElem?_cons_zero]; rfl
      case sw448_18 => rfl
      case yw448_18 => rfl
      try simp only [Act.put, List.setIfInBounds_toArray, List.set_cons_zero, List.set_cons_succ]
      refine hR.take (i := 19) (oi := ?ow449_19) (v := ?vw449_19) (m' := 1048575) ?hw449_19 (by kernel_rfl) (by kernel_rfl) (fun _ _ _ h => h) (Or.inr ⟨?sw449_19, ?yw449_19⟩) (by assumption) ?nw449_19
      case hw449_19 => simp only [List.getElem?_toArray, List.getElem?_cons_succ, List.getElem?_cons_zero]; rfl
      case sw449_19 => rfl
      case yw449_19 => rfl
      try simp only [Act.put, List.setIfInBounds_toArray, List.set_cons_zero, List.set_cons_succ]
      refine hR.take (i := 20) (oi := ?ow450_20) (v := ?vw450_20) (m' := 2097151) ?hw450_20 (by kernel_rfl) (by kernel_rfl) (fun _ _ _ h => h) (Or.inr ⟨?sw450_20, ?yw450_20⟩) (by assumption) ?nw450_20
      case hw450_20 => simp only [List.getElem?_toArray, List.getElem?_cons_succ, List.getElem?_cons_zero]; rfl
      case sw450_20 => rfl
      case yw450_20 => rfl
      try simp only [Act.put, List.setIfInBounds_toArray, List.set_cons_zero, List.set_cons_succ]
      refine hR.take (i := 21) (oi := ?ow451_21) (v := ?vw451_21) (m' := 4194303) ?hw451_21 (by kernel_rfl) (by kernel_rfl) (fun _ _ _ h => h) (Or.inl ⟨?sw451_21, ?yw451_21⟩) (by assumption) ?nw451_21
      case hw451_21 => simp only [List.getElem?_toArray, List.getElem?_cons_succ, List.getElem?_cons_zero]; rfl
      case sw451_21 => rfl
      case yw451_21 => (intro w hSw; (try dsimp only at hSw); go_simp <;> with_reducible rfl)
      try simp only [Act.put, List.setIfInBounds_toArray, List.set_cons_zero, List.set_cons_succ]
      refine hR.all (by kernel_rfl) ?_ _
      refine NoPanic.normal ?_
      go_wp2_with fail
      go_ret
      exact ⟨ret_b hv.out.symm, b0.out.drew⟩
    have g1 : (q.k < 0) = False := eq_false k1
    by_cases k2 : mk < q.k
    · have hv := Lib.hid (not_head (q := q) fun h => by have := h.2.2.2.2.1; rw [Hmk.out] at this; omega)
      have g2 : (mk < q.k) = True := eq_true k2
      refine wp_region_noPanic ?_
      refine wp_region_held_drew (S := fun X => Below wc.heap.size wc X) (by kernel_rfl) ?_ (fun hHeld => ?_)
      · (first | with_reducible assumption | (with_reducible refine Below.drew ?_; with_reducible assumption) | (with_reducible refine ba _ _ ?_; with_reducible assumption) | (with_reducible refine Below.drew ?_; with_reducible refine ba _ _ ?_; with_reducible assumption) | exact Below.refl _ _ | exact (Below.refl _ _).drew | exact (Below.refl _ _).alloc (Nat.le_refl _) _ | (refine bc _ _ (by assumption) (by assumption)))
      refine RegOk.begin_ (n := 22) (T := q6A) ⟨by kernel_rfl, by kernel_rfl, by kernel_rfl, by kernel_rfl⟩ fun hR => ?_
      refine hR.take (i := 0) (oi := ?ow452_0) (v := ?vw452_0) (m' := 1) ?hw452_0 (by kernel_rfl) (by kernel_rfl) (fun _ _ _ h => h) (Or.inl ⟨?sw452_0, ?yw452_0⟩) (by assumption) ?nw452_0
      case hw452_0 => simp only [List.getElem?_toArray, List.getElem?_cons_succ, List.getElem?_cons_zero]; rfl
      case sw452_0 => rfl
      case yw452_0 => (intro w hSw; (try dsimp only at hSw); go_simp <;> with_reducible rfl)
      try simp only [Act.put, List.setIfInBounds_toArray, List.set_cons_zero, List.set_cons_succ]
      refine hR.take (i := 1) (oi := ?ow453_1) (v := ?vw453_1) (m' := 3) ?hw453_1 (by kernel_rfl) (by kernel_rfl) (fun _ _ _ h => h) (Or.inl ⟨?sw453_1, ?yw453_1⟩) (by assumption) ?nw453_1
      case hw453_1 => simp only [List.getElem?_toArray, List.getElem?_cons_succ, List.getElem?_cons_zero]; rfl
      case sw453_1 => rfl
      case yw453_1 => (intro w hSw; (try dsimp only at hSw); go_simp <;> with_reducible rfl)
      try simp only [Act.put, List.setIfInBounds_toArray, List.set_cons_zero, List.set_cons_succ]
      refine hR.take (i := 2) (oi := ?ow454_2) (v := ?vw454_2) (m' := 7) ?hw454_2 (by kernel_rfl) (by kernel_rfl) (fun _ _ _ h => h) (Or.inl ⟨?sw454_2, ?yw454_2⟩) (by assumption) ?nw454_2
      case hw454_2 => simp only [List.getElem?_toArray, List.getElem?_cons_succ, List.getElem?_cons_zero]; rfl
      case sw454_2 => rfl
      case yw454_2 => (intro w hSw; (try dsimp only at hSw); go_simp <;> with_reducible rfl)
      try simp only [Act.put, List.setIfInBounds_toArray, List.set_cons_zero, List.set_cons_succ]
      refine hR.take (i := 3) (oi := ?ow455_3) (v := ?vw455_3) (m' := 15) ?hw455_3 (by kernel_rfl) (by kernel_rfl) (fun _ _ _ h => h) (Or.inl ⟨?sw455_3, ?yw455_3⟩) (by assumption) ?nw455_3
      case hw455_3 => simp only [List.getElem?_toArray, List.getElem?_cons_succ, List.getElem?_cons_zero]; rfl
      case sw455_3 => rfl
      case yw455_3 => (intro w hSw; (try dsimp only at hSw); go_simp <;> with_reducible rfl)
      try simp only [Act.put, List.setIfInBounds_toArray, List.set_cons_zero, List.set_cons_succ]
      refine hR.take (i := 4) (oi := ?ow456_4) (v := ?vw456_4) (m' := 31) ?hw456_4 (by kernel_rfl) (by kernel_rfl) (fun _ _ _ h => h) (Or.inl ⟨?sw456_4, ?yw456_4⟩) (by assumption) ?nw456_4
      case hw456_4 => simp only [List.getElem?_toArray, List.getElem?_cons_succ, List.getElem?_cons_zero]; rfl
      case sw456_4 => rfl
      case yw456_4 => (intro w hSw; (try dsimp only at hSw); go_simp <;> with_reducible rfl)
      try simp only [Act.put, List.setIfInBounds_toArray, List.set_cons_zero, List.set_cons_succ]
      refine hR.take (i := 5) (oi := ?ow457_5) (v := ?vw457_5) (m' := 63) ?hw457_5 (by kernel_rfl) (by kernel_rfl) (fun _ _ _ h => h) (Or.inl ⟨?sw457_5, ?yw457_5⟩) (by assumption) ?nw457_5
      case hw457_5 => simp only [List.getElem?_toArray, List.getElem?_cons_succ, List.getElem?_cons_zero]; rfl
      case sw457_5 => rfl
      case yw457_5 => (intro w hSw; (try dsimp only at hSw); go_simp <;> with_reducible rfl)
      try simp only [Act.put, List.setIfInBounds_toArray, List.set_cons_zero, List.set_cons_succ]
      refine hR.take (i := 6) (oi := ?ow458_6) (v := ?vw458_6) (m' := 127) ?hw458_6 (by kernel_rfl) (by kernel_rfl) (fun _ _ _ h => h) (Or.inl ⟨?sw458_6, ?yw458_6⟩) (by assumption) ?nw458_6
      case hw458_6 => simp only [List.getElem?_toArray, List.getElem?_cons_succ, List.getElem?_cons_zero]; rfl
      case sw458_6 => rfl
      case yw458_6 => (intro w hSw; (try dsimp only at hSw); go_simp <;> with_reducible rfl)
      try simp only [Act.put, List.setIfInBounds_toArray, List.set_cons_zero, List.set_cons_succ]
      refine hR.take (i := 7) (oi := ?ow459_7) (v := ?vw459_7) (m' := 255) ?hw459_7 (by kernel_rfl) (by kernel_rfl) (fun _ _ _ h => h) (Or.inl ⟨?sw459_7, ?yw459_7⟩) (by assumption) ?nw459_7
      case hw459_7 => simp only [List.getElem?_toArray, List.getElem?_cons_succ, List.getElem?_cons_zero]; rfl
      case sw459_7 => rfl
      case yw459_7 => (intro w hSw; (try dsimp only at hSw); go_simp <;> with_reducible rfl)
      try simp only [Act.put, List.setIfInBounds_toArray, List.set_cons_zero, List.set_cons_succ]
      refine hR.come (rs := [8]) (by kernel_rfl) (by simp) ?_
      refine AllReadyH.cons (o := ?o460_8) ?h460_8 (fun K hK => ?kw460_8) AllReadyH.nil
      case h460_8 => simp only [List.getElem?_toArray, List.getElem?_cons_succ, List.getElem?_cons_zero]; rfl
      go_simp
      go_at_call 38; refine (maxKRef _ _).mono ?_; rw [Hmk.out]; rintro e w2 ⟨rfl, rfl⟩
      refine hK.out _ _ ?_ (fun hHeld => ?_)
      · (first | with_reducible assumption | (with_reducible refine Below.drew ?_; with_reducible assumption) | (with_reducible refine ba _ _ ?_; with_reducible assumption) | (with_reducible refine Below.drew ?_; with_reducible refine ba _ _ ?_; with_reducible assumption) | exact Below.refl _ _ | exact (Below.refl _ _).drew | exact (Below.refl _ _).alloc (Nat.le_refl _) _ | (refine bc _ _ (by assumption) (by assumption)))
      clear hK K
      refine RegOk.put_ (m' := 511) (by kernel_rfl) ?_
      try simp only [Act.put, List.setIfInBounds_toArray, List.set_cons_zero, List.set_cons_succ]
      refine hR.take (i := 9) (oi := ?ow461_9) (v := ?vw461_9) (m' := 1023) ?hw461_9 (by kernel_rfl) (by kernel_rfl) (fun _ _ _ h => h) (Or.inl ⟨?sw461_9, ?yw461_9⟩) (by assumption) ?nw461_9
      case hw461_9 => simp only [List.getElem?_toArray, List.getElem?_cons_succ, List.getElem?_cons_zero]; rfl
      case sw461_9 => rfl
      case yw461_9 => (intro w hSw; (try dsimp only at hSw); go_simp <;> with_reducible rfl)
      try simp only [Act.put, List.setIfInBounds_toArray, List.set_cons_zero, List.set_cons_succ]
      refine hR.take (i := 10) (oi := ?ow462_10) (v := ?vw462_10) (m' := 2047) ?hw462_10 (by kernel_rfl) (by kernel_rfl) (fun _ _ _ h => h) (Or.inl ⟨?sw462_10, ?yw462_10⟩) (by assumption) ?nw462_10
      case hw462_10 => simp only [List.getElem?_toArray, List.getElem?_cons_succ, List.getElem?_cons_zero]; rfl
      case sw462_10 => rfl
      case yw462_10 => (intro w hSw; (try dsimp only at hSw); go_simp <;> with_reducible rfl)
      try simp only [Act.put, List.setIfInBounds_toArray, List.set_cons_zero, List.set_cons_succ]
      refine hR.take (i := 11) (oi := ?ow463_11) (v := ?vw463_11) (m' := 4095) ?hw463_11 (by kernel_rfl) (by kernel_rfl) (fun _ _ _ h => h) (Or.inl ⟨?sw463_11, ?yw463_11⟩) (by assumption) ?nw463_11
      case hw463_11 => simp only [List.getElem?_toArray, List.getElem?_cons_succ, List.getElem?_cons_zero]; rfl
      case sw463_11 => rfl
      case yw463_11 => (intro w hSw; (try dsimp only at hSw); go_simp <;> with_reducible rfl)
      try simp only [Act.put, List.setIfInBounds_toArray, List.set_cons_zero, List.set_cons_succ]
      refine hR.take (i := 12) (oi := ?ow464_12) (v := ?vw464_12) (m' := 8191) ?hw464_12 (by kernel_rfl) (by kernel_rfl) (fun _ _ _ h => h) (Or.inr ⟨?sw464_12, ?yw464_12⟩) (by assumption) ?nw464_12
      case hw464_12 => simp only [List.getElem?_toArray, List.getElem?_cons_succ, List.getElem?_cons_zero]; rfl
      case sw464_12 => rfl
      case yw464_12 => rfl
      try simp only [Act.put, List.setIfInBounds_toArray, List.set_cons_zero, List.set_cons_succ]
      refine hR.take (i := 13) (oi := ?ow465_13) (v := ?vw465_13) (m' := 16383) ?hw465_13 (by kernel_rfl) (by kernel_rfl) (fun _ _ _ h => h) (Or.inr ⟨?sw465_13, ?yw465_13⟩) (by assumption) ?nw465_13
      case hw465_13 => simp only [List.getElem?_toArray, List.getElem?_cons_succ, List.getElem?_cons_zero]; rfl
      case sw465_13 => rfl
      case yw465_13 => rfl
      try simp only [Act.put, List.setIfInBounds_toArray, List.set_cons_zero, List.set_cons_succ]
      refine hR.take (i := 14) (oi := ?ow466_14) (v := ?vw466_14) (m' := 32767) ?hw466_14 (by kernel_rfl) (by kernel_rfl) (fun _ _ _ h => h) (Or.inr ⟨?sw466_14, ?yw466_14⟩) (by assumption) ?nw466_14
      case hw466_14 => simp only [List.getElem?_toArray, List.getElem?_cons_succ, List.getElem?_cons_zero]; rfl
      case sw466_14 => rfl
      case yw466_14 => rfl
      try simp only [Act.put, List.setIfInBounds_toArray, List.set_cons_zero, List.set_cons_succ]
      refine hR.take (i := 15) (oi := ?ow467_15) (v := ?vw467_15) (m' := 65535) ?hw467_15 (by kernel_rfl) (by kernel_rfl) (fun _ _ _ h => h) (Or.inr ⟨?sw467_15, ?yw467_15⟩) (by assumption) ?nw467_15
      case hw467_15 => simp only [List.getElem?_toArray, List.getElem?_cons_succ, List.getElem?_cons_zero]; rfl
      case sw467_15 => rfl
      case yw467_15 => rfl
      try simp only [Act.put, List.setIfInBounds_toArray, List.set_cons_zero, List.set_cons_succ]
      refine hR.take (i := 16) (oi := ?ow468_16) (v := ?vw468_16) (m' := 131071) ?hw468_16 (by kernel_rfl) (by kernel_rfl) (fun _ _ _ h => h) (Or.inr ⟨?sw468_16, ?yw468_16⟩) (by assumption) ?nw468_16
      case hw468_16 => simp only [List.getElem?_toArray, List.getElem?_cons_succ, List.getElem?_cons_zero]; rfl
      case sw468_16 => rfl
      case yw468_16 => rfl
      try simp only [Act.put, List.setIfInBounds_toArray, List.set_cons_zero, List.set_cons_succ]
      refine hR.take (i := 17) (oi := ?ow469_17) (v := ?vw469_17) (m' := 262143) ?hw469_17 (by kernel_rfl) (by kernel_rfl) (fun _ _ _ h => h) (Or.inr ⟨?sw469_17, ?yw469_17⟩) (by assumption) ?nw469_17
      case hw469_17 => simp only [List.getElem?_toArray, List.getElem?_cons_succ, List.getElem?_cons_zero]; rfl
      case sw469_17 => rfl
      case yw469_17 => rfl
      try simp only [Act.put, List.setIfInBounds_toArray, List.set_cons_zero, List.set_cons_succ]
      refine hR.take (i := 18) (oi := ?ow470_18) (v := ?vw470_18) (m' := 524287) ?hw470_18 (by kernel_rfl) (by kernel_rfl) (fun _ _ _ h => h) (Or.inr ⟨?sw470_18, ?yw470_18⟩) (by assumption) ?nw470_18
      case hw470_18 => simp only [List.getElem?_toArray, List.getElem?_cons_succ, List.getElem?_cons_zero]; rfl
      case sw470_18 => rfl
      case yw470_18 => rfl
      try simp only [Act.put, List.setIfInBounds_toArray, List.set_cons_zero, List.set_cons_succ]
      refine hR.take (i := 19) (oi := ?ow471_19) (v := ?vw471_19) (m' := 1048575) ?hw471_19 (by kernel_rfl) (by kernel_rfl) (fun _ _ _ h => h) (Or.inr ⟨?sw471_19, ?yw471_19⟩) (by assumption) ?nw471_19
      case hw471_19 => simp only [List.getElem?_toArray, List.getElem?_cons_succ, List.getElem?_cons_zero]; rfl
      case sw471_19 => rfl
      case yw471_19 => rfl
      try simp only [Act.put, List.setIfInBounds_toArray, List.set_cons_zero, List.set_cons_succ]
      refine hR.take (i := 20) (oi := ?ow472_20) (v := ?vw472_20) (m' := 2097151) ?hw472_20 (by kernel_rfl) (by kernel_rfl) (fun _ _ _ h => h) (Or.inr ⟨?sw472_20, ?yw472_20⟩) (by assumption) ?nw472_20
      case hw472_20 => simp only [List.getElem?_toArray, List.getElem?_cons_succ, List.getElem?_cons_zero]; rfl
      case sw472_20 => rfl
      case yw472_20 => rfl
      try simp only [Act.put, List.setIfInBounds_toArray, List.set_cons_zero, List.set_cons_succ]
      refine hR.take (i := 21) (oi := ?ow473_21) (v := ?vw473_21) (m' := 4194303) ?hw473_21 (by kernel_rfl) (by kernel_rfl) (fun _ _ _ h => h) (Or.inl ⟨?sw473_21, ?yw473_21⟩) (by assumption) ?nw473_21
      case hw473_21 => simp only [List.getElem?_toArray, List.getElem?_cons_succ, List.getElem?_cons_zero]; rfl
      case sw473_21 => rfl
      case yw473_21 => (intro w hSw; (try dsimp only at hSw); go_simp <;> with_reducible rfl)
      try simp only [Act.put, List.setIfInBounds_toArray, List.set_cons_zero, List.set_cons_succ]
      refine hR.all (by kernel_rfl) ?_ _
      refine NoPanic.normal ?_
      go_wp2_with fail
      go_ret
      exact ⟨ret_b hv.out.symm, b0.out.drew⟩
    have g2 : (mk < q.k) = False := eq_false k2
    rcases hmk3 with ⟨hmk1, hk36⟩ | ⟨hmk0, hk36⟩
    · have g3 : (0 < mk) = True := eq_true hmk1
      by_cases k3 : q.k = 0
      · have hv := Lib.hid (not_head (q := q) fun h => by have := h.2.2.2.2.2.1 hk36; omega)
        have g4 : (q.k == 0) = true := by simp [k3]
        have g5 : (mk < 0) = False := eq_false (by omega)
        refine wp_region_noPanic ?_
        refine wp_region_held_drew (S := fun X => Below wc.heap.size wc X) (by kernel_rfl) ?_ (fun hHeld => ?_)
        · (first | with_reducible assumption | (with_reducible refine Below.drew ?_; with_reducible assumption) | (with_reducible refine ba _ _ ?_; with_reducible assumption) | (with_reducible refine Below.drew ?_; with_reducible refine ba _ _ ?_; with_reducible assumption) | exact Below.refl _ _ | exact (Below.refl _ _).drew | exact (Below.refl _ _).alloc (Nat.le_refl _) _ | (refine bc _ _ (by assumption) (by assumption)))
        refine RegOk.begin_ (n := 22) (T := q6A) ⟨by kernel_rfl, by kernel_rfl, by kernel_rfl, by kernel_rfl⟩ fun hR => ?_
        refine hR.take (i := 0) (oi := ?ow474_0) (v := ?vw474_0) (m' := 1) ?hw474_0 (by kernel_rfl) (by kernel_rfl) (fun _ _ _ h => h) (Or.inl ⟨?sw474_0, ?yw474_0⟩) (by assumption) ?nw474_0
        case hw474_0 => simp only [List.getElem?_toArray, List.getElem?_cons_succ, List.getElem?_cons_zero]; rfl
        case sw474_0 => rfl
        case yw474_0 => (intro w hSw; (try dsimp only at hSw); go_simp <;> with_reducible rfl)
        try simp only [Act.put, List.setIfInBounds_toArray, List.set_cons_zero, List.set_cons_succ]
        refine hR.take (i := 1) (oi := ?ow475_1) (v := ?vw475_1) (m' := 3) ?hw475_1 (by kernel_rfl) (by kernel_rfl) (fun _ _ _ h => h) (Or.inl ⟨?sw475_1, ?yw475_1⟩) (by assumption) ?nw475_1
        case hw475_1 => simp only [List.getElem?_toArray, List.getElem?_cons_succ, List.getElem?_cons_zero]; rfl
        case sw475_1 => rfl
        case yw475_1 => (intro w hSw; (try dsimp only at hSw); go_simp <;> with_reducible rfl)
        try simp only [Act.put, List.setIfInBounds_toArray, List.set_cons_zero, List.set_cons_succ]
        refine hR.take (i := 2) (oi := ?ow476_2) (v := ?vw476_2) (m' := 7) ?hw476_2 (by kernel_rfl) (by kernel_rfl) (fun _ _ _ h => h) (Or.inl ⟨?sw476_2, ?yw476_2⟩) (by assumption) ?nw476_2
        case hw476_2 => simp only [List.getElem?_toArray, List.getElem?_cons_succ, List.getElem?_cons_zero]; rfl
        case sw476_2 => rfl
        case yw476_2 => (intro w hSw; (try dsimp only at hSw); go_simp <;> with_reducible rfl)
        try simp only [Act.put, List.setIfInBounds_toArray, List.set_cons_zero, List.set_cons_succ]
        refine hR.take (i := 3) (oi := ?ow477_3) (v := ?vw477_3) (m' := 15) ?hw477_3 (by kernel_rfl) (by kernel_rfl) (fun _ _ _ h => h) (Or.inl ⟨?sw477_3, ?yw477_3⟩) (by assumption) ?nw477_3
        case hw477_3 => simp only [List.getElem?_toArray, List.getElem?_cons_succ, List.getElem?_cons_zero]; rfl
        case sw477_3 => rfl
        case yw477_3 => (intro w hSw; (try dsimp only at hSw); go_simp <;> with_reducible rfl)
        try simp only [Act.put, List.setIfInBounds_toArray, List.set_cons_zero, List.set_cons_succ]
        refine hR.take (i := 4) (oi := ?ow478_4) (v := ?vw478_4) (m' := 31) ?hw478_4 (by kernel_rfl) (by kernel_rfl) (fun _ _ _ h => h) (Or.inl ⟨?sw478_4, ?yw478_4⟩) (by assumption) ?nw478_4
        case hw478_4 => simp only [List.getElem?_toArray, List.getElem?_cons_succ, List.getElem?_cons_zero]; rfl
        case sw478_4 => rfl
        case yw478_4 => (intro w hSw; (try dsimp only at hSw); go_simp <;> with_reducible rfl)
        try simp only [Act.put, List.setIfInBounds_toArray, List.set_cons_zero, List.set_cons_succ]
        refine hR.take (i := 5) (oi := ?ow479_5) (v := ?vw479_5) (m' := 63) ?hw479_5 (by kernel_rfl) (by kernel_rfl) (fun _ _ _ h => h) (Or.inl ⟨?sw479_5, ?yw479_5⟩) (by assumption) ?nw479_5
        case hw479_5 => simp only [List.getElem?_toArray, List.getElem?_cons_succ, List.getElem?_cons_zero]; rfl
        case sw479_5 => rfl
        case yw479_5 => (intro w hSw; (try dsimp only at hSw); go_simp <;> with_reducible rfl)
        try simp only [Act.put, List.setIfInBounds_toArray, List.set_cons_zero, List.set_cons_succ]
        refine hR.take (i := 6) (oi := ?ow480_6) (v := ?vw480_6) (m' := 127) ?hw480_6 (by kernel_rfl) (by kernel_rfl) (fun _ _ _ h => h) (Or.inl ⟨?sw480_6, ?yw480_6⟩) (by assumption) ?nw480_6
        case hw480_6 => simp only [List.getElem?_toArray, List.getElem?_cons_succ, List.getElem?_cons_zero]; rfl
        case sw480_6 => rfl
        case yw480_6 => (intro w hSw; (try dsimp only at hSw); go_simp <;> with_reducible rfl)
        try simp only [Act.put, List.setIfInBounds_toArray, List.set_cons_zero, List.set_cons_succ]
        refine hR.take (i := 7) (oi := ?ow481_7) (v := ?vw481_7) (m' := 255) ?hw481_7 (by kernel_rfl) (by kernel_rfl) (fun _ _ _ h => h) (Or.inl ⟨?sw481_7, ?yw481_7⟩) (by assumption) ?nw481_7
        case hw481_7 => simp only [List.getElem?_toArray, List.getElem?_cons_succ, List.getElem?_cons_zero]; rfl
        case sw481_7 => rfl
        case yw481_7 => (intro w hSw; (try dsimp only at hSw); go_simp <;> with_reducible rfl)
        try simp only [Act.put, List.setIfInBounds_toArray, List.set_cons_zero, List.set_cons_succ]
        refine hR.come (rs := [8]) (by kernel_rfl) (by simp) ?_
        refine AllReadyH.cons (o := ?o482_8) ?h482_8 (fun K hK => ?kw482_8) AllReadyH.nil
        case h482_8 => simp only [List.getElem?_toArray, List.getElem?_cons_succ, List.getElem?_cons_zero]; rfl
        go_simp
        go_at_call 38; refine (maxKRef _ _).mono ?_; rw [Hmk.out]; rintro e w2 ⟨rfl, rfl⟩
        refine hK.out _ _ ?_ (fun hHeld => ?_)
        · (first | with_reducible assumption | (with_reducible refine Below.drew ?_; with_reducible assumption) | (with_reducible refine ba _ _ ?_; with_reducible assumption) | (with_reducible refine Below.drew ?_; with_reducible refine ba _ _ ?_; with_reducible assumption) | exact Below.refl _ _ | exact (Below.refl _ _).drew | exact (Below.refl _ _).alloc (Nat.le_refl _) _ | (refine bc _ _ (by assumption) (by assumption)))
        clear hK K
        refine RegOk.put_ (m' := 511) (by kernel_rfl) ?_
        try simp only [Act.put, List.setIfInBounds_toArray, List.set_cons_zero, List.set_cons_succ]
        refine hR.take (i := 9) (oi := ?ow483_9) (v := ?vw483_9) (m' := 1023) ?hw483_9 (by kernel_rfl) (by kernel_rfl) (fun _ _ _ h => h) (Or.inl ⟨?sw483_9, ?yw483_9⟩) (by assumption) ?nw483_9
        case hw483_9 => simp only [List.getElem?_toArray, List.getElem?_cons_succ, List.getElem?_cons_zero]; rfl
        case sw483_9 => rfl
        case yw483_9 => (intro w hSw; (try dsimp only at hSw); go_simp <;> with_reducible rfl)
        try simp only [Act.put, List.setIfInBounds_toArray, List.set_cons_zero, List.set_cons_succ]
        refine hR.take (i := 10) (oi := ?ow484_10) (v := ?vw484_10) (m' := 2047) ?hw484_10 (by kernel_rfl) (by kernel_rfl) (fun _ _ _ h => h) (Or.inl ⟨?sw484_10, ?yw484_10⟩) (by assumption) ?nw484_10
        case hw484_10 => simp only [List.getElem?_toArray, List.getElem?_cons_succ, List.getElem?_cons_zero]; rfl
        case sw484_10 => rfl
        case yw484_10 => (intro w hSw; (try dsimp only at hSw); go_simp <;> with_reducible rfl)
        try simp only [Act.put, List.setIfInBounds_toArray, List.set_cons_zero, List.set_cons_succ]
        refine hR.take (i := 11) (oi := ?ow485_11) (v := ?vw485_11) (m' := 4095) ?hw485_11 (by kernel_rfl) (by kernel_rfl) (fun _ _ _ h => h) (Or.inl ⟨?sw485_11, ?yw485_11⟩) (by assumption) ?nw485_11
        case hw485_11 => simp only [List.getElem?_toArray, List.getElem?_cons_succ, List.getElem?_cons_zero]; rfl
        case sw485_11 => rfl
        case yw485_11 => (intro w hSw; (try dsimp only at hSw); go_simp <;> with_reducible rfl)
        try simp only [Act.put, List.setIfInBounds_toArray, List.set_cons_zero, List.set_cons_succ]
        refine hR.take (i := 12) (oi := ?ow486_12) (v := ?vw486_12) (m' := 8191) ?hw486_12 (by kernel_rfl) (by kernel_rfl) (fun _ _ _ h => h) (Or.inl ⟨?sw486_12, ?yw486_12⟩) (by assumption) ?nw486_12
        case hw486_12 => simp only [List.getElem?_toArray, List.getElem?_cons_succ, List.getElem?_cons_zero]; rfl
        case sw486_12 => rfl
        case yw486_12 => (intro w hSw; (try dsimp only at hSw); go_simp <;> with_reducible rfl)
        try simp only [Act.put, List.setIfInBounds_toArray, List.set_cons_zero, List.set_cons_succ]
        refine hR.take (i := 13) (oi := ?ow487_13) (v := ?vw487_13) (m' := 16383) ?hw487_13 (by kernel_rfl) (by kernel_rfl) (fun _ _ _ h => h) (Or.inl ⟨?sw487_13, ?yw487_13⟩) (by assumption) ?nw487_13
        case hw487_13 => simp only [List.getElem?_toArray, List.getElem?_cons_succ, List.getElem?_cons_zero]; rfl
        case sw487_13 => rfl
        case yw487_13 => (intro w hSw; (try dsimp only at hSw); go_simp <;> with_reducible rfl)
        try simp only [Act.put, List.setIfInBounds_toArray, List.set_cons_zero, List.set_cons_succ]
        refine hR.come (rs := [14]) (by kernel_rfl) (by simp) ?_
        refine AllReadyH.cons (o := ?o488_14) ?h488_14 (fun K hK => ?kw488_14) AllReadyH.nil
        case h488_14 => simp only [List.getElem?_toArray, List.getElem?_cons_succ, List.getElem?_cons_zero]; rfl
        go_simp
        go_at_call 38; refine (maxKRef _ _).mono ?_; rw [Hmk.out]; rintro e w3 ⟨rfl, rfl⟩
        refine hK.out _ _ ?_ (fun hHeld => ?_)
        · (first | with_reducible assumption | (with_reducible refine Below.drew ?_; with_reducible assumption) | (with_reducible refine ba _ _ ?_; with_reducible assumption) | (with_reducible refine Below.drew ?_; with_reducible refine ba _ _ ?_; with_reducible assumption) | exact Below.refl _ _ | exact (Below.refl _ _).drew | exact (Below.refl _ _).alloc (Nat.le_refl _) _ | (refine bc _ _ (by assumption) (by assumption)))
        clear hK K
        refine RegOk.put_ (m' := 32767) (by kernel_rfl) ?_
        try simp only [Act.put, List.setIfInBounds_toArray, List.set_cons_zero, List.set_cons_succ]
        refine hR.take (i := 15) (oi := ?ow489_15) (v := ?vw489_15) (m' := 65535) ?hw489_15 (by kernel_rfl) (by kernel_rfl) (fun _ _ _ h => h) (Or.inl ⟨?sw489_15, ?yw489_15⟩) (by assumption) ?nw489_15
        case hw489_15 => simp only [List.getElem?_toArray, List.getElem?_cons_succ, List.getElem?_cons_zero]; rfl
        case sw489_15 => rfl
        case yw489_15 => (intro w hSw; (try dsimp only at hSw); go_simp <;> with_reducible rfl)
        try simp only [Act.put, List.setIfInBounds_toArray, List.set_cons_zero, List.set_cons_succ]
        refine hR.take (i := 16) (oi := ?ow490_16) (v := ?vw490_16) (m' := 131071) ?hw490_16 (by kernel_rfl) (by kernel_rfl) (fun _ _ _ h => h) (Or.inl ⟨?sw490_16, ?yw490_16⟩) (by assumption) ?nw490_16
        case hw490_16 => simp only [List.getElem?_toArray, List.getElem?_cons_succ, List.getElem?_cons_zero]; rfl
        case sw490_16 => rfl
        case yw490_16 => (intro w hSw; (try dsimp only at hSw); go_simp <;> with_reducible rfl)
        try simp only [Act.put, List.setIfInBounds_toArray, List.set_cons_zero, List.set_cons_succ]
        refine hR.take (i := 17) (oi := ?ow491_17) (v := ?vw491_17) (m' := 262143) ?hw491_17 (by kernel_rfl) (by kernel_rfl) (fun _ _ _ h => h) (Or.inl ⟨?sw491_17, ?yw491_17⟩) (by assumption) ?nw491_17
        case hw491_17 => simp only [List.getElem?_toArray, List.getElem?_cons_succ, List.getElem?_cons_zero]; rfl
        case sw491_17 => rfl
        case yw491_17 => (intro w hSw; (try dsimp only at hSw); go_simp <;> with_reducible rfl)
        try simp only [Act.put, List.setIfInBounds_toArray, List.set_cons_zero, List.set_cons_succ]
        refine hR.take (i := 18) (oi := ?ow492_18) (v := ?vw492_18) (m' := 524287) ?hw492_18 (by kernel_rfl) (by kernel_rfl) (fun _ _ _ h => h) (Or.inl ⟨?sw492_18, ?yw492_18⟩) (by assumption) ?nw492_18
        case hw492_18 => simp only [List.getElem?_toArray, List.getElem?_cons_succ, List.getElem?_cons_zero]; rfl
        case sw492_18 => rfl
        case yw492_18 => (intro w hSw; (try dsimp only at hSw); go_simp <;> with_reducible rfl)
        try simp only [Act.put, List.setIfInBounds_toArray, List.set_cons_zero, List.set_cons_succ]
        refine hR.take (i := 19) (oi := ?ow493_19) (v := ?vw493_19) (m' := 1048575) ?hw493_19 (by kernel_rfl) (by kernel_rfl) (fun _ _ _ h => h) (Or.inl ⟨?sw493_19, ?yw493_19⟩) (by assumption) ?nw493_19
        case hw493_19 => simp only [List.getElem?_toArray, List.getElem?_cons_succ, List.getElem?_cons_zero]; rfl
        case sw493_19 => rfl
        case yw493_19 => (intro w hSw; (try dsimp only at hSw); go_simp <;> with_reducible rfl)
        try simp only [Act.put, List.setIfInBounds_toArray, List.set_cons_zero, List.set_cons_succ]
        refine hR.take (i := 20) (oi := ?ow494_20) (v := ?vw494_20) (m' := 2097151) ?hw494_20 (by kernel_rfl) (by kernel_rfl) (fun _ _ _ h => h) (Or.inl ⟨?sw494_20, ?yw494_20⟩) (by assumption) ?nw494_20
        case hw494_20 => simp only [List.getElem?_toArray, List.getElem?_cons_succ, List.getElem?_cons_zero]; rfl
        case sw494_20 => rfl
        case yw494_20 => (intro w hSw; (try dsimp only at hSw); go_simp <;> with_reducible rfl)
        try simp only [Act.put, List.setIfInBounds_toArray, List.set_cons_zero, List.set_cons_succ]
        refine hR.take (i := 21) (oi := ?ow495_21) (v := ?vw495_21) (m' := 4194303) ?hw495_21 (by kernel_rfl) (by kernel_rfl) (fun _ _ _ h => h) (Or.inl ⟨?sw495_21, ?yw495_21⟩) (by assumption) ?nw495_21
        case hw495_21 => simp only [List.getElem?_toArray, List.getElem?_cons_succ, List.getElem?_cons_zero]; rfl
        case sw495_21 => rfl
        case yw495_21 => (intro w hSw; (try dsimp only at hSw); go_simp <;> with_reducible rfl)
        try simp only [Act.put, List.setIfInBounds_toArray, List.set_cons_zero, List.set_cons_succ]
        refine hR.all (by kernel_rfl) ?_ _
        refine NoPanic.normal ?_
        go_wp2_with fail
        go_ret
        exact ⟨ret_b hv.out.symm, b0.out.drew⟩
      · have g4 : (q.k == 0) = false := by simpa using k3
        refine wp_region_noPanic ?_
        refine wp_region_held_drew (S := fun X => Below wc.heap.size wc X) (by kernel_rfl) ?_ (fun hHeld => ?_)
        · (first | with_reducible assumption | (with_reducible refine Below.drew ?_; with_reducible assumption) | (with_reducible refine ba _ _ ?_; with_reducible assumption) | (with_reducible refine Below.drew ?_; with_reducible refine ba _ _ ?_; with_reducible assumption) | exact Below.refl _ _ | exact (Below.refl _ _).drew | exact (Below.refl _ _).alloc (Nat.le_refl _) _ | (refine bc _ _ (by assumption) (by assumption)))
        refine RegOk.begin_ (n := 22) (T := q6A) ⟨by kernel_rfl, by kernel_rfl, by kernel_rfl, by kernel_rfl⟩ fun hR => ?_
        refine hR.take (i := 0) (oi := ?ow496_0) (v := ?vw496_0) (m' := 1) ?hw496_0 (by kernel_rfl) (by kernel_rfl) (fun _ _ _ h => h) (Or.inl ⟨?sw496_0, ?yw496_0⟩) (by assumption) ?nw496_0
        case hw496_0 => simp only [List.getElem?_toArray, List.getElem?_cons_succ, List.getElem?_cons_zero]; rfl
        case sw496_0 => rfl
        case yw496_0 => (intro w hSw; (try dsimp only at hSw); go_simp <;> with_reducible rfl)
        try simp only [Act.put, List.setIfInBounds_toArray, List.set_cons_zero, List.set_cons_succ]
        refine hR.take (i := 1) (oi := ?ow497_1) (v := ?vw497_1) (m' := 3) ?hw497_1 (by kernel_rfl) (by kernel_rfl) (fun _ _ _ h => h) (Or.inl ⟨?sw497_1, ?yw497_1⟩) (by assumption) ?nw497_1
        case hw497_1 => simp only [List.getElem?_toArray, List.getElem?_cons_succ, List.getElem?_cons_zero]; rfl
        case sw497_1 => rfl
        case yw497_1 => (intro w hSw; (try dsimp only at hSw); go_simp <;> with_reducible rfl)
        try simp only [Act.put, List.setIfInBounds_toArray, List.set_cons_zero, List.set_cons_succ]
        refine hR.take (i := 2) (oi := ?ow498_2) (v := ?vw498_2) (m' := 7) ?hw498_2 (by kernel_rfl) (by kernel_rfl) (fun _ _ _ h => h) (Or.inl ⟨?sw498_2, ?yw498_2⟩) (by assumption) ?nw498_2
        case hw498_2 => simp only [List.getElem?_toArray, List.getElem?_cons_succ, List.getElem?_cons_zero]; rfl
        case sw498_2 => rfl
        case yw498_2 => (intro w hSw; (try dsimp only at hSw); go_simp <;> with_reducible rfl)
        try simp only [Act.put, List.setIfInBounds_toArray, List.set_cons_zero, List.set_cons_succ]
        refine hR.take (i := 3) (oi := ?ow499_3) (v := ?vw499_3) (m' := 15) ?hw499_3 (by kernel_rfl) (by kernel_rfl) (fun _ _ _ h => h) (Or.inl ⟨?sw499_3, ?yw499_3⟩) (by assumption) ?nw499_3
        case hw499_3 => simp only [List.getElem?_toArray, List.getElem?_cons_succ, List.getElem?_cons_zero]; rfl
        case sw499_3 => rfl
        case yw499_3 => (intro w hSw; (try dsimp only at hSw); go_simp <;> with_reducible rfl)
        try simp only [Act.put, List.setIfInBounds_toArray, List.set_cons_zero, List.set_cons_succ]
        refine hR.take (i := 4) (oi := ?ow500_4) (v := ?vw500_4) (m' := 31) ?hw500_4 (by kernel_rfl) (by kernel_rfl) (fun _ _ _ h => h) (Or.inl ⟨?sw500_4, ?yw500_4⟩) (by assumption) ?nw500_4
        case hw500_4 => simp only [List.getElem?_toArray, List.getElem?_cons_succ, List.getElem?_cons_zero]; rfl
        case sw500_4 => rfl
        case yw500_4 => (intro w hSw; (try dsimp only at hSw); go_simp <;> with_reducible rfl)
        try simp only [Act.put, List.setIfInBounds_toArray, List.set_cons_zero, List.set_cons_succ]
        refine hR.take (i := 5) (oi := ?ow501_5) (v := ?vw501_5) (m' := 63) ?hw501_5 (by kernel_rfl) (by kernel_rfl) (fun _ _ _ h => h) (Or.inl ⟨?sw501_5, ?yw501_5⟩) (by assumption) ?nw501_5
        case hw501_5 => simp only [List.getElem?_toArray, List.getElem?_cons_succ, List.getElem?_cons_zero]; rfl
        case sw501_5 => rfl
        case yw501_5 => (intro w hSw; (try dsimp only at hSw); go_simp <;> with_reducible rfl)
        try simp only [Act.put, List.setIfInBounds_toArray, List.set_cons_zero, List.set_cons_succ]
        refine hR.take (i := 6) (oi := ?ow502_6) (v := ?vw502_6) (m' := 127) ?hw502_6 (by kernel_rfl) (by kernel_rfl) (fun _ _ _ h => h) (Or.inl ⟨?sw502_6, ?yw502_6⟩) (by assumption) ?nw502_6
        case hw502_6 => simp only [List.getElem?_toArray, List.getElem?_cons_succ, List.getElem?_cons_zero]; rfl
        case sw502_6 => rfl
        case yw502_6 => (intro w hSw; (try dsimp only at hSw); go_simp <;> with_reducible rfl)
        try simp only [Act.put, List.setIfInBounds_toArray, List.set_cons_zero, List.set_cons_succ]
        refine hR.take (i := 7) (oi := ?ow503_7) (v := ?vw503_7) (m' := 255) ?hw503_7 (by kernel_rfl) (by kernel_rfl) (fun _ _ _ h => h) (Or.inl ⟨?sw503_7, ?yw503_7⟩) (by assumption) ?nw503_7
        case hw503_7 => simp only [List.getElem?_toArray, List.getElem?_cons_succ, List.getElem?_cons_zero]; rfl
        case sw503_7 => rfl
        case yw503_7 => (intro w hSw; (try dsimp only at hSw); go_simp <;> with_reducible rfl)
        try simp only [Act.put, List.setIfInBounds_toArray, List.set_cons_zero, List.set_cons_succ]
        refine hR.come (rs := [8]) (by kernel_rfl) (by simp) ?_
        refine AllReadyH.cons (o := ?o504_8) ?h504_8 (fun K hK => ?kw504_8) AllReadyH.nil
        case h504_8 => simp only [List.getElem?_toArray, List.getElem?_cons_succ, List.getElem?_cons_zero]; rfl
        go_simp
        go_at_call 38; refine (maxKRef _ _).mono ?_; rw [Hmk.out]; rintro e w2 ⟨rfl, rfl⟩
        refine hK.out _ _ ?_ (fun hHeld => ?_)
        · (first | with_reducible assumption | (with_reducible refine Below.drew ?_; with_reducible assumption) | (with_reducible refine ba _ _ ?_; with_reducible assumption) | (with_reducible refine Below.drew ?_; with_reducible refine ba _ _ ?_; with_reducible assumption) | exact Below.refl _ _ | exact (Below.refl _ _).drew | exact (Below.refl _ _).alloc (Nat.le_refl _) _ | (refine bc _ _ (by assumption) (by assumption)))
        clear hK K
        refine RegOk.put_ (m' := 511) (by kernel_rfl) ?_
        try simp only [Act.put, List.setIfInBounds_toArray, List.set_cons_zero, List.set_cons_succ]
        refine hR.take (i := 9) (oi := ?ow505_9) (v := ?vw505_9) (m' := 1023) ?hw505_9 (by kernel_rfl) (by kernel_rfl) (fun _ _ _ h => h) (Or.inl ⟨?sw505_9, ?yw505_9⟩) (by assumption) ?nw505_9
        case hw505_9 => simp only [List.getElem?_toArray, List.getElem?_cons_succ, List.getElem?_cons_zero]; rfl
        case sw505_9 => rfl
        case yw505_9 => (intro w hSw; (try dsimp only at hSw); go_simp <;> with_reducible rfl)
        try simp only [Act.put, List.setIfInBounds_toArray, List.set_cons_zero, List.set_cons_succ]
        refine hR.take (i := 10) (oi := ?ow506_10) (v := ?vw506_10) (m' := 2047) ?hw506_10 (by kernel_rfl) (by kernel_rfl) (fun _ _ _ h => h) (Or.inl ⟨?sw506_10, ?yw506_10⟩) (by assumption) ?nw506_10
        case hw506_10 => simp only [List.getElem?_toArray, List.getElem?_cons_succ, List.getElem?_cons_zero]; rfl
        case sw506_10 => rfl
        case yw506_10 => (intro w hSw; (try dsimp only at hSw); go_simp <;> with_reducible rfl)
        try simp only [Act.put, List.setIfInBounds_toArray, List.set_cons_zero, List.set_cons_succ]
        refine hR.take (i := 11) (oi := ?ow507_11) (v := ?vw507_11) (m' := 4095) ?hw507_11 (by kernel_rfl) (by kernel_rfl) (fun _ _ _ h => h) (Or.inl ⟨?sw507_11, ?yw507_11⟩) (by assumption) ?nw507_11
        case hw507_11 => simp only [List.getElem?_toArray, List.getElem?_cons_succ, List.getElem?_cons_zero]; rfl
        case sw507_11 => rfl
        case yw507_11 => (intro w hSw; (try dsimp only at hSw); go_simp <;> with_reducible rfl)
        try simp only [Act.put, List.setIfInBounds_toArray, List.set_cons_zero, List.set_cons_succ]
        refine hR.take (i := 12) (oi := ?ow508_12) (v := ?vw508_12) (m' := 8191) ?hw508_12 (by kernel_rfl) (by kernel_rfl) (fun _ _ _ h => h) (Or.inl ⟨?sw508_12, ?yw508_12⟩) (by assumption) ?nw508_12
        case hw508_12 => simp only [List.getElem?_toArray, List.getElem?_cons_succ, List.getElem?_cons_zero]; rfl
        case sw508_12 => rfl
        case yw508_12 => (intro w hSw; (try dsimp only at hSw); go_simp <;> with_reducible rfl)
        try simp only [Act.put, List.setIfInBounds_toArray, List.set_cons_zero, List.set_cons_succ]
        refine hR.take (i := 13) (oi := ?ow509_13) (v := ?vw509_13) (m' := 16383) ?hw509_13 (by kernel_rfl) (by kernel_rfl) (fun _ _ _ h => h) (Or.inl ⟨?sw509_13, ?yw509_13⟩) (by assumption) ?nw509_13
        case hw509_13 => simp only [List.getElem?_toArray, List.getElem?_cons_succ, List.getElem?_cons_zero]; rfl
        case sw509_13 => rfl
        case yw509_13 => (intro w hSw; (try dsimp only at hSw); go_simp <;> with_reducible rfl)
        try simp only [Act.put, List.setIfInBounds_toArray, List.set_cons_zero, List.set_cons_succ]
        refine hR.come (rs := [14]) (by kernel_rfl) (by simp) ?_
        refine AllReadyH.cons (o := ?o510_14) ?h510_14 (fun K hK => ?kw510_14) AllReadyH.nil
        case h510_14 => simp only [List.getElem?_toArray, List.getElem?_cons_succ, List.getElem?_cons_zero]; rfl
        go_simp
        go_at_call 38; refine (maxKRef _ _).mono ?_; rw [Hmk.out]; rintro e w3 ⟨rfl, rfl⟩
        refine hK.out _ _ ?_ (fun hHeld => ?_)
        · (first | with_reducible assumption | (with_reducible refine Below.drew ?_; with_reducible assumption) | (with_reducible refine ba _ _ ?_; with_reducible assumption) | (with_reducible refine Below.drew ?_; with_reducible refine ba _ _ ?_; with_reducible assumption) | exact Below.refl _ _ | exact (Below.refl _ _).drew | exact (Below.refl _ _).alloc (Nat.le_refl _) _ | (refine bc _ _ (by assumption) (by assumption)))
        clear hK K
        refine RegOk.put_ (m' := 32767) (by kernel_rfl) ?_
        try simp only [Act.put, List.setIfInBounds_toArray, List.set_cons_zero, List.set_cons_succ]
        refine hR.take (i := 15) (oi := ?ow511_15) (v := ?vw511_15) (m' := 65535) ?hw511_15 (by kernel_rfl) (by kernel_rfl) (fun _ _ _ h => h) (Or.inl ⟨?sw511_15, ?yw511_15⟩) (by assumption) ?nw511_15
        case hw511_15 => simp only [List.getElem?_toArray, List.getElem?_cons_succ, List.getElem?_cons_zero]; rfl
        case sw511_15 => rfl
        case yw511_15 => (intro w hSw; (try dsimp only at hSw); go_simp <;> with_reducible rfl)
        try simp only [Act.put, List.setIfInBounds_toArray, List.set_cons_zero, List.set_cons_succ]
        refine hR.take (i := 16) (oi := ?ow512_16) (v := ?vw512_16) (m' := 131071) ?hw512_16 (by kernel_rfl) (by kernel_rfl) (fun _ _ _ h => h) (Or.inl ⟨?sw512_16, ?yw512_16⟩) (by assumption) ?nw512_16
        case hw512_16 => simp only [List.getElem?_toArray, List.getElem?_cons_succ, List.getElem?_cons_zero]; rfl
        case sw512_16 => rfl
        case yw512_16 => (intro w hSw; (try dsimp only at hSw); go_simp <;> with_reducible rfl)
        try simp only [Act.put, List.setIfInBounds_toArray, List.set_cons_zero, List.set_cons_succ]
        refine hR.take (i := 17) (oi := ?ow513_17) (v := ?vw513_17) (m' := 262143) ?hw513_17 (by kernel_rfl) (by kernel_rfl) (fun _ _ _ h => h) (Or.inl ⟨?sw513_17, ?yw513_17⟩) (by assumption) ?nw513_17
        case hw513_17 => simp only [List.getElem?_toArray, List.getElem?_cons_succ, List.getElem?_cons_zero]; rfl
        case sw513_17 => rfl
        case yw513_17 => (intro w hSw; (try dsimp only at hSw); go_simp <;> with_reducible rfl)
        try simp only [Act.put, List.setIfInBounds_toArray, List.set_cons_zero, List.set_cons_succ]
        refine hR.take (i := 18) (oi := ?ow514_18) (v := ?vw514_18) (m' := 524287) ?hw514_18 (by kernel_rfl) (by kernel_rfl) (fun _ _ _ h => h) (Or.inl ⟨?sw514_18, ?yw514_18⟩) (by assumption) ?nw514_18
        case hw514_18 => simp only [List.getElem?_toArray, List.getElem?_cons_succ, List.getElem?_cons_zero]; rfl
        case sw514_18 => rfl
        case yw514_18 => (intro w hSw; (try dsimp only at hSw); go_simp <;> with_reducible rfl)
        try simp only [Act.put, List.setIfInBounds_toArray, List.set_cons_zero, List.set_cons_succ]
        refine hR.take (i := 19) (oi := ?ow515_19) (v := ?vw515_19) (m' := 1048575) ?hw515_19 (by kernel_rfl) (by kernel_rfl) (fun _ _ _ h => h) (Or.inl ⟨?sw515_19, ?yw515_19⟩) (by assumption) ?nw515_19
        case hw515_19 => simp only [List.getElem?_toArray, List.getElem?_cons_succ, List.getElem?_cons_zero]; rfl
        case sw515_19 => rfl
        case yw515_19 => (intro w hSw; (try dsimp only at hSw); go_simp <;> with_reducible rfl)
        try simp only [Act.put, List.setIfInBounds_toArray, List.set_cons_zero, List.set_cons_succ]
        refine hR.take (i := 20) (oi := ?ow516_20) (v := ?vw516_20) (m' := 2097151) ?hw516_20 (by kernel_rfl) (by kernel_rfl) (fun _ _ _ h => h) (Or.inl ⟨?sw516_20, ?yw516_20⟩) (by assumption) ?nw516_20
        case hw516_20 => simp only [List.getElem?_toArray, List.getElem?_cons_succ, List.getElem?_cons_zero]; rfl
        case sw516_20 => rfl
        case yw516_20 => (intro w hSw; (try dsimp only at hSw); go_simp <;> with_reducible rfl)
        try simp only [Act.put, List.setIfInBounds_toArray, List.set_cons_zero, List.set_cons_succ]
        refine hR.take (i := 21) (oi := ?ow517_21) (v := ?vw517_21) (m' := 4194303) ?hw517_21 (by kernel_rfl) (by kernel_rfl) (fun _ _ _ h => h) (Or.inl ⟨?sw517_21, ?yw517_21⟩) (by assumption) ?nw517_21
        case hw517_21 => simp only [List.getElem?_toArray, List.getElem?_cons_succ, List.getElem?_cons_zero]; rfl
        case sw517_21 => rfl
        case yw517_21 => (intro w hSw; (try dsimp only at hSw); go_simp <;> with_reducible rfl)
        try simp only [Act.put, List.setIfInBounds_toArray, List.set_cons_zero, List.set_cons_succ]
        refine hR.all (by kernel_rfl) ?_ _
        refine NoPanic.normal ?_
        have hk : Hid (0 ≤ q.k ∧ q.k ≤ maxKF q.kind ∧ (q.kind = 3 ∨ q.kind = 6 → 1 ≤ q.k)) := Lib.hid (by rw [Hmk.out]; omega)
        clear hk36
        have b1 := b0
        by_cases h7 : q.kind = 7
        · have h7' : (q.kind == 7) = true := by simp [h7]
          have hnf : nFilF q.kind = 2 := by unfold nFilF; rw [if_pos h7]
          by_cases hln : q.fs.length = 2
          · have hl1 : ((q.fs.length : Int) != 2) = false := by simp [hln]
            have Hln := Lib.hid (hln.trans hnf.symm)
            have Hnf := Lib.hid hnf
            clear hln hnf
            have hd := Lib.hid (show HeadOk q from ⟨HK.out.1, HK.out.2.1, HK.out.2.2, hk.out.1, hk.out.2.1, hk.out.2.2, Hln.out⟩)
            go_wp2_with fail
            go_loopw [4] (fun i wx => ∃ j : Nat, j ≤ q.fs.length ∧ i = .int .i64 j ∧ (q.fs.take j).all validFltB = true ∧ Below wc.heap.size wc wx) (fun i _ => q.fs.length - (intOf i).toNat)
            case atStart => exact ⟨0, Nat.zero_le _, rfl, rfl, (Below.refl _ _).drew⟩
            case round =>
              rename_i wo wq
              obtain ⟨j, hj, rfl, ha, hb⟩ := hrel
              have Ha := Lib.hid ha
              have Hb := Lib.hid hb
              have Hs := Lib.hid (H.out.keep (Below.agree hb))
              obtain ⟨x0, x1, x2, x3⟩ := row4 (mvQ gq hb)
              clear ha hb
              have hj0 : (0 : Int) ≤ (j : Int) := by omega
              by_cases hlt : j < q.fs.length
              · have hj1 : (j : Int) < (q.fs.length : Int) := by omega
                have hj2 : (j : Int) < 2 := by have e1 := Hln.out; have e2 := Hnf.out; omega
                obtain ⟨l, hl⟩ : ∃ l, q.fs[j]? = some l := ⟨_, List.getElem?_eq_getElem hlt⟩
                obtain ⟨b5, o5, B5, d5, rfl, -, l5, z5, hs5⟩ := flt_at Hs.out hl
                have Hs5 := Lib.hid hs5
                have Hl := Lib.hid hl
                have hn : (q.fs.take (j + 1)).all validFltB = ((q.fs.take j).all validFltB && validFltB l) := by rw [take_snocR hl]; simp
                have Hn := Lib.hid hn
                clear hl hs5 hn
                cases hvl : validFltB l with
                | true =>
                  go_wp2_with (go_at_call 81; refine (validFltRef (l := l) _ Hs5.out).mono ?_; rw [hvl]; rintro e w6 ⟨rfl, hb6⟩)
                  go_roundw
                  case rel => exact ⟨j + 1, by omega, by go_num, by rw [Hn.out, Ha.out, hvl]; rfl, Hb.out.trans (hb6.mono Hb.out.size)⟩
                  case measure => simp [intOf]; omega
                | false =>
                  go_wp2_with (go_at_call 81; refine (validFltRef (l := l) _ Hs5.out).mono ?_; rw [hvl]; rintro e w6 ⟨rfl, hb6⟩)
                  go_ret
                  exact ⟨ret_b (not_flt (List.mem_of_getElem? Hl.out) hvl).symm, b0.out.trans ((Hb.out.trans (hb6.mono Hb.out.size)).mono b0.out.size)⟩
              · have hj1 : ¬ (j : Int) < (q.fs.length : Int) := by omega
                have hj2 : ¬ (j : Int) < 2 := by have e1 := Hln.out; have e2 := Hnf.out; omega
                go_wp2_with fail
                go_ret
                refine ⟨ret_b ?_, b0.out.trans (Hb.out.mono b0.out.size)⟩
                have := Ha.out
                rw [List.take_of_length_le (by omega)] at this
                unfold validQB
                rw [decide_eq_true hd.out, this]; rfl
          · have hl1 : ((q.fs.length : Int) != 2) = true := by simp; omega
            have hv := Lib.hid (not_head (q := q) fun h => hln (h.2.2.2.2.2.2.trans hnf))
            clear hnf
            go_wp2_with fail
            go_ret
            exact ⟨ret_b hv.out.symm, b0.out.drew⟩
        · have h7' : (q.kind == 7) = false := by simpa using h7
          have hnf : nFilF q.kind = 1 := by unfold nFilF; rw [if_neg h7]
          by_cases hln : q.fs.length = 1
          · have hl1 : ((q.fs.length : Int) != 1) = false := by simp [hln]
            have Hln := Lib.hid (hln.trans hnf.symm)
            have Hnf := Lib.hid hnf
            clear hln hnf
            have hd := Lib.hid (show HeadOk q from ⟨HK.out.1, HK.out.2.1, HK.out.2.2, hk.out.1, hk.out.2.1, hk.out.2.2, Hln.out⟩)
            go_wp2_with fail
            go_loopw [4] (fun i wx => ∃ j : Nat, j ≤ q.fs.length ∧ i = .int .i64 j ∧ (q.fs.take j).all validFltB = true ∧ Below wc.heap.size wc wx) (fun i _ => q.fs.length - (intOf i).toNat)
            case atStart => exact ⟨0, Nat.zero_le _, rfl, rfl, (Below.refl _ _).drew⟩
            case round =>
              rename_i wo wq
              obtain ⟨j, hj, rfl, ha, hb⟩ := hrel
              have Ha := Lib.hid ha
              have Hb := Lib.hid hb
              have Hs := Lib.hid (H.out.keep (Below.agree hb))
              obtain ⟨x0, x1, x2, x3⟩ := row4 (mvQ gq hb)
              clear ha hb
              have hj0 : (0 : Int) ≤ (j : Int) := by omega
              by_cases hlt : j < q.fs.length
              · have hj1 : (j : Int) < (q.fs.length : Int) := by omega
                have hj2 : (j : Int) < 1 := by have e1 := Hln.out; have e2 := Hnf.out; omega
                obtain ⟨l, hl⟩ : ∃ l, q.fs[j]? = some l := ⟨_, List.getElem?_eq_getElem hlt⟩
                obtain ⟨b5, o5, B5, d5, rfl, -, l5, z5, hs5⟩ := flt_at Hs.out hl
                have Hs5 := Lib.hid hs5
                have Hl := Lib.hid hl
                have hn : (q.fs.take (j + 1)).all validFltB = ((q.fs.take j).all validFltB && validFltB l) := by rw [take_snocR hl]; simp
                have Hn := Lib.hid hn
                clear hl hs5 hn
                cases hvl : validFltB l with
                | true =>
                  go_wp2_with (go_at_call 81; refine (validFltRef (l := l) _ Hs5.out).mono ?_; rw [hvl]; rintro e w6 ⟨rfl, hb6⟩)
                  go_roundw
                  case rel => exact ⟨j + 1, by omega, by go_num, by rw [Hn.out, Ha.out, hvl]; rfl, Hb.out.trans (hb6.mono Hb.out.size)⟩
                  case measure => simp [intOf]; omega
                | false =>
                  go_wp2_with (go_at_call 81; refine (validFltRef (l := l) _ Hs5.out).mono ?_; rw [hvl]; rintro e w6 ⟨rfl, hb6⟩)
                  go_ret
                  exact ⟨ret_b (not_flt (List.mem_of_getElem? Hl.out) hvl).symm, b0.out.trans ((Hb.out.trans (hb6.mono Hb.out.size)).mono b0.out.size)⟩
              · have hj1 : ¬ (j : Int) < (q.fs.length : Int) := by omega
                have hj2 : ¬ (j : Int) < 1 := by have e1 := Hln.out; have e2 := Hnf.out; omega
                go_wp2_with fail
                go_ret
                refine ⟨ret_b ?_, b0.out.trans (Hb.out.mono b0.out.size)⟩
                have := Ha.out
                rw [List.take_of_length_le (by omega)] at this
                unfold validQB
                rw [decide_eq_true hd.out, this]; rfl
          · have hl1 : ((q.fs.length : Int) != 1) = true := by simp; omega
            have hv := Lib.hid (not_head (q := q) fun h => hln (h.2.2.2.2.2.2.trans hnf))
            clear hnf
            go_wp2_with fail
            go_ret
            exact ⟨ret_b hv.out.symm, b0.out.drew⟩
    · subst hmk0
      refine wp_region_noPanic ?_
      refine wp_region_held_drew (S := fun X => Below wc.heap.size wc X) (by kernel_rfl) ?_ (fun hHeld => ?_)
      · (first | with_reducible assumption | (with_reducible refine Below.drew ?_; with_reducible assumption) | (with_reducible refine ba _ _ ?_; with_reducible assumption) | (with_reducible refine Below.drew ?_; with_reducible refine ba _ _ ?_; with_reducible assumption) | exact Below.refl _ _ | exact (Below.refl _ _).drew | exact (Below.refl _ _).alloc (Nat.le_refl _) _ | (refine bc _ _ (by assumption) (by assumption)))
      refine RegOk.begin_ (n := 22) (T := q6A) ⟨by kernel_rfl, by kernel_rfl, by kernel_rfl, by kernel_rfl⟩ fun hR => ?_
      refine hR.take (i := 0) (oi := ?ow518_0) (v := ?vw518_0) (m' := 1) ?hw518_0 (by kernel_rfl) (by kernel_rfl) (fun _ _ _ h => h) (Or.inl ⟨?sw518_0, ?yw518_0⟩) (by assumption) ?nw518_0
      case hw518_0 => simp only [List.getElem?_toArray, List.getElem?_cons_succ, List.getElem?_cons_zero]; rfl
      case sw518_0 => rfl
      case yw518_0 => (intro w hSw; (try dsimp only at hSw); go_simp <;> with_reducible rfl)
      try simp only [Act.put, List.setIfInBounds_toArray, List.set_cons_zero, List.set_cons_succ]
      refine hR.take (i := 1) (oi := ?ow519_1) (v := ?vw519_1) (m' := 3) ?hw519_1 (by kernel_rfl) (by kernel_rfl) (fun _ _ _ h => h) (Or.inl ⟨?sw519_1, ?yw519_1⟩) (by assumption) ?nw519_1
      case hw519_1 => simp only [List.getElem?_toArray, List.getElem?_cons_succ, List.getElem?_cons_zero]; rfl
      case sw519_1 => rfl
      case yw519_1 => (intro w hSw; (try dsimp only at hSw); go_simp <;> with_reducible rfl)
      try simp only [Act.put, List.setIfInBounds_toArray, List.set_cons_zero, List.set_cons_succ]
      refine hR.take (i := 2) (oi := ?ow520_2) (v := ?vw520_2) (m' := 7) ?hw520_2 (by kernel_rfl) (by kernel_rfl) (fun _ _ _ h => h) (Or.inl ⟨?sw520_2, ?yw520_2⟩) (by assumption) ?nw520_2
      case hw520_2 => simp only [List.getElem?_toArray, List.getElem?_cons_succ, List.getElem?_cons_zero]; rfl
      case sw520_2 => rfl
      case yw520_2 => (intro w hSw; (try dsimp only at hSw); go_simp <;> with_reducible rfl)
      try simp only [Act.put, List.setIfInBounds_toArray, List.set_cons_zero, List.set_cons_succ]
      refine hR.take (i := 3) (oi := ?ow521_3) (v := ?vw521_3) (m' := 15) ?hw521_3 (by kernel_rfl) (by kernel_rfl) (fun _ _ _ h => h) (Or.inl ⟨?sw521_3, ?yw521_3⟩) (by assumption) ?nw521_3
      case hw521_3 => simp only [List.getElem?_toArray, List.getElem?_cons_succ, List.getElem?_cons_zero]; rfl
      case sw521_3 => rfl
      case yw521_3 => (intro w hSw; (try dsimp only at hSw); go_simp <;> with_reducible rfl)
      try simp only [Act.put, List.setIfInBounds_toArray, List.set_cons_zero, List.set_cons_succ]
      refine hR.take (i := 4) (oi := ?ow522_4) (v := ?vw522_4) (m' := 31) ?hw522_4 (by kernel_rfl) (by kernel_rfl) (fun _ _ _ h => h) (Or.inl ⟨?sw522_4, ?yw522_4⟩) (by assumption) ?nw522_4
      case hw522_4 => simp only [List.getElem?_toArray, List.getElem?_cons_succ, List.getElem?_cons_zero]; rfl
      case sw522_4 => rfl
      case yw522_4 => (intro w hSw; (try dsimp only at hSw); go_simp <;> with_reducible rfl)
      try simp only [Act.put, List.setIfInBounds_toArray, List.set_cons_zero, List.set_cons_succ]
      refine hR.take (i := 5) (oi := ?ow523_5) (v := ?vw523_5) (m' := 63) ?hw523_5 (by kernel_rfl) (by kernel_rfl) (fun _ _ _ h => h) (Or.inl ⟨?sw523_5, ?yw523_5⟩) (by assumption) ?nw523_5
      case hw523_5 => simp only [List.getElem?_toArray, List.getElem?_cons_succ, List.getElem?_cons_zero]; rfl
      case sw523_5 => rfl
      case yw523_5 => (intro w hSw; (try dsimp only at hSw); go_simp <;> with_reducible rfl)
      try simp only [Act.put, List.setIfInBounds_toArray, List.set_cons_zero, List.set_cons_succ]
      refine hR.take (i := 6) (oi := ?ow524_6) (v := ?vw524_6) (m' := 127) ?hw524_6 (by kernel_rfl) (by kernel_rfl) (fun _ _ _ h => h) (Or.inl ⟨?sw524_6, ?yw524_6⟩) (by assumption) ?nw524_6
      case hw524_6 => simp only [List.getElem?_toArray, List.getElem?_cons_succ, List.getElem?_cons_zero]; rfl
      case sw524_6 => rfl
      case yw524_6 => (intro w hSw; (try dsimp only at hSw); go_simp <;> with_reducible rfl)
      try simp only [Act.put, List.setIfInBounds_toArray, List.set_cons_zero, List.set_cons_succ]
      refine hR.take (i := 7) (oi := ?ow525_7) (v := ?vw525_7) (m' := 255) ?hw525_7 (by kernel_rfl) (by kernel_rfl) (fun _ _ _ h => h) (Or.inl ⟨?sw525_7, ?yw525_7⟩) (by assumption) ?nw525_7
      case hw525_7 => simp only [List.getElem?_toArray, List.getElem?_cons_succ, List.getElem?_cons_zero]; rfl
      case sw525_7 => rfl
      case yw525_7 => (intro w hSw; (try dsimp only at hSw); go_simp <;> with_reducible rfl)
      try simp only [Act.put, List.setIfInBounds_toArray, List.set_cons_zero, List.set_cons_succ]
      refine hR.come (rs := [8]) (by kernel_rfl) (by simp) ?_
      refine AllReadyH.cons (o := ?o526_8) ?h526_8 (fun K hK => ?kw526_8) AllReadyH.nil
      case h526_8 => simp only [List.getElem?_toArray, List.getElem?_cons_succ, List.getElem?_cons_zero]; rfl
      go_simp
      go_at_call 38; refine (maxKRef _ _).mono ?_; rw [Hmk.out]; rintro e w2 ⟨rfl, rfl⟩
      refine hK.out _ _ ?_ (fun hHeld => ?_)
      · (first | with_reducible assumption | (with_reducible refine Below.drew ?_; with_reducible assumption) | (with_reducible refine ba _ _ ?_; with_reducible assumption) | (with_reducible refine Below.drew ?_; with_reducible refine ba _ _ ?_; with_reducible assumption) | exact Below.refl _ _ | exact (Below.refl _ _).drew | exact (Below.refl _ _).alloc (Nat.le_refl _) _ | (refine bc _ _ (by assumption) (by assumption)))
      clear hK K
      refine RegOk.put_ (m' := 511) (by kernel_rfl) ?_
      try simp only [Act.put, List.setIfInBounds_toArray, List.set_cons_zero, List.set_cons_succ]
      refine hR.take (i := 9) (oi := ?ow527_9) (v := ?vw527_9) (m' := 1023) ?hw527_9 (by kernel_rfl) (by kernel_rfl) (fun _ _ _ h => h) (Or.inl ⟨?sw527_9, ?yw527_9⟩) (by assumption) ?nw527_9
      case hw527_9 => simp only [List.getElem?_toArray, List.getElem?_cons_succ, List.getElem?_cons_zero]; rfl
      case sw527_9 => rfl
      case yw527_9 => (intro w hSw; (try dsimp only at hSw); go_simp <;> with_reducible rfl)
      try simp only [Act.put, List.setIfInBounds_toArray, List.set_cons_zero, List.set_cons_succ]
      refine hR.take (i := 10) (oi := ?ow528_10) (v := ?vw528_10) (m' := 2047) ?hw528_10 (by kernel_rfl) (by kernel_rfl) (fun _ _ _ h => h) (Or.inl ⟨?sw528_10, ?yw528_10⟩) (by assumption) ?nw528_10
      case hw528_10 => simp only [List.getElem?_toArray, List.getElem?_cons_succ, List.getElem?_cons_zero]; rfl
      case sw528_10 => rfl
      case yw528_10 => (intro w hSw; (try dsimp only at hSw); go_simp <;> with_reducible rfl)
      try simp only [Act.put, List.setIfInBounds_toArray, List.set_cons_zero, List.set_cons_succ]
      refine hR.take (i := 11) (oi := ?ow529_11) (v := ?vw529_11) (m' := 4095) ?hw529_11 (by kernel_rfl) (by kernel_rfl) (fun _ _ _ h => h) (Or.inl ⟨?sw529_11, ?yw529_11⟩) (by assumption) ?nw529_11
      case hw529_11 => simp only [List.getElem?_toArray, List.getElem?_cons_succ, List.getElem?_cons_zero]; rfl
      case sw529_11 => rfl
      case yw529_11 => (intro w hSw; (try dsimp only at hSw); go_simp <;> with_reducible rfl)
      try simp only [Act.put, List.setIfInBounds_toArray, List.set_cons_zero, List.set_cons_succ]
      refine hR.take (i := 12) (oi := ?ow530_12) (v := ?vw530_12) (m' := 8191) ?hw530_12 (by kernel_rfl) (by kernel_rfl) (fun _ _ _ h => h) (Or.inl ⟨?sw530_12, ?yw530_12⟩) (by assumption) ?nw530_12
      case hw530_12 => simp only [List.getElem?_toArray, List.getElem?_cons_succ, List.getElem?_cons_zero]; rfl
      case sw530_12 => rfl
      case yw530_12 => (intro w hSw; (try dsimp only at hSw); go_simp <;> with_reducible rfl)
      try simp only [Act.put, List.setIfInBounds_toArray, List.set_cons_zero, List.set_cons_succ]
      refine hR.take (i := 13) (oi := ?ow531_13) (v := ?vw531_13) (m' := 16383) ?hw531_13 (by kernel_rfl) (by kernel_rfl) (fun _ _ _ h => h) (Or.inl ⟨?sw531_13, ?yw531_13⟩) (by assumption) ?nw531_13
      case hw531_13 => simp only [List.getElem?_toArray, List.getElem?_cons_succ, List.getElem?_cons_zero]; rfl
      case sw531_13 => rfl
      case yw531_13 => (intro w hSw; (try dsimp only at hSw); go_simp <;> with_reducible rfl)
      try simp only [Act.put, List.setIfInBounds_toArray, List.set_cons_zero, List.set_cons_succ]
      refine hR.come (rs := [14]) (by kernel_rfl) (by simp) ?_
      refine AllReadyH.cons (o := ?o532_14) ?h532_14 (fun K hK => ?kw532_14) AllReadyH.nil
      case h532_14 => simp only [List.getElem?_toArray, List.getElem?_cons_succ, List.getElem?_cons_zero]; rfl
      go_simp
      go_at_call 38; refine (maxKRef _ _).mono ?_; rw [Hmk.out]; rintro e w3 ⟨rfl, rfl⟩
      refine hK.out _ _ ?_ (fun hHeld => ?_)
      · (first | with_reducible assumption | (with_reducible refine Below.drew ?_; with_reducible assumption) | (with_reducible refine ba _ _ ?_; with_reducible assumption) | (with_reducible refine Below.drew ?_; with_reducible refine ba _ _ ?_; with_reducible assumption) | exact Below.refl _ _ | exact (Below.refl _ _).drew | exact (Below.refl _ _).alloc (Nat.le_refl _) _ | (refine bc _ _ (by assumption) (by assumption)))
      clear hK K
      refine RegOk.put_ (m' := 32767) (by kernel_rfl) ?_
      try simp only [Act.put, List.setIfInBounds_toArray, List.set_cons_zero, List.set_cons_succ]
      refine hR.take (i := 15) (oi := ?ow533_15) (v := ?vw533_15) (m' := 65535) ?hw533_15 (by kernel_rfl) (by kernel_rfl) (fun _ _ _ h => h) (Or.inl ⟨?sw533_15, ?yw533_15⟩) (by assumption) ?nw533_15
      case hw533_15 => simp only [List.getElem?_toArray, List.getElem?_cons_succ, List.getElem?_cons_zero]; rfl
      case sw533_15 => rfl
      case yw533_15 => (intro w hSw; (try dsimp only at hSw); go_simp <;> with_reducible rfl)
      try simp only [Act.put, List.setIfInBounds_toArray, List.set_cons_zero, List.set_cons_succ]
      refine hR.take (i := 16) (oi := ?ow534_16) (v := ?vw534_16) (m' := 131071) ?hw534_16 (by kernel_rfl) (by kernel_rfl) (fun _ _ _ h => h) (Or.inl ⟨?sw534_16, ?yw534_16⟩) (by assumption) ?nw534_16
      case hw534_16 => simp only [List.getElem?_toArray, List.getElem?_cons_succ, List.getElem?_cons_zero]; rfl
      case sw534_16 => rfl
      case yw534_16 => (intro w hSw; (try dsimp only at hSw); go_simp <;> with_reducible rfl)
      try simp only [Act.put, List.setIfInBounds_toArray, List.set_cons_zero, List.set_cons_succ]
      refine hR.take (i := 17) (oi := ?ow535_17) (v := ?vw535_17) (m' := 262143) ?hw535_17 (by kernel_rfl) (by kernel_rfl) (fun _ _ _ h => h) (Or.inr ⟨?sw535_17, ?yw535_17⟩) (by assumption) ?nw535_17
      case hw535_17 => simp only [List.getElem?_toArray, List.getElem?_cons_succ, List.getElem?_cons_zero]; rfl
      case sw535_17 => rfl
      case yw535_17 => rfl
      try simp only [Act.put, List.setIfInBounds_toArray, List.set_cons_zero, List.set_cons_succ]
      refine hR.take (i := 18) (oi := ?ow536_18) (v := ?vw536_18) (m' := 524287) ?hw536_18 (by kernel_rfl) (by kernel_rfl) (fun _ _ _ h => h) (Or.inr ⟨?sw536_18, ?yw536_18⟩) (by assumption) ?nw536_18
      case hw536_18 => simp only [List.getElem?_toArray, List.getElem?_cons_succ, List.getElem?_cons_zero]; rfl
      case sw536_18 => rfl
      case yw536_18 => rfl
      try simp only [Act.put, List.setIfInBounds_toArray, List.set_cons_zero, List.set_cons_succ]
      refine hR.take (i := 19) (oi := ?ow537_19) (v := ?vw537_19) (m' := 1048575) ?hw537_19 (by kernel_rfl) (by kernel_rfl) (fun _ _ _ h => h) (Or.inr ⟨?sw537_19, ?yw537_19⟩) (by assumption) ?nw537_19
      case hw537_19 => simp only [List.getElem?_toArray, List.getElem?_cons_succ, List.getElem?_cons_zero]; rfl
      case sw537_19 => rfl
      case yw537_19 => rfl
      try simp only [Act.put, List.setIfInBounds_toArray, List.set_cons_zero, List.set_cons_succ]
      refine hR.take (i := 20) (oi := ?ow538_20) (v := ?vw538_20) (m' := 2097151) ?hw538_20 (by kernel_rfl) (by kernel_rfl) (fun _ _ _ h => h) (Or.inl ⟨?sw538_20, ?yw538_20⟩) (by assumption) ?nw538_20
      case hw538_20 => simp only [List.getElem?_toArray, List.getElem?_cons_succ, List.getElem?_cons_zero]; rfl
      case sw538_20 => rfl
      case yw538_20 => (intro w hSw; (try dsimp only at hSw); go_simp <;> with_reducible rfl)
      try simp only [Act.put, List.setIfInBounds_toArray, List.set_cons_zero, List.set_cons_succ]
      refine hR.take (i := 21) (oi := ?ow539_21) (v := ?vw539_21) (m' := 4194303) ?hw539_21 (by kernel_rfl) (by kernel_rfl) (fun _ _ _ h => h) (Or.inl ⟨?sw539_21, ?yw539_21⟩) (by assumption) ?nw539_21
      case hw539_21 => simp only [List.getElem?_toArray, List.getElem?_cons_succ, List.getElem?_cons_zero]; rfl
      case sw539_21 => rfl
      case yw539_21 => (intro w hSw; (try dsimp only at hSw); go_simp <;> with_reducible rfl)
      try simp only [Act.put, List.setIfInBounds_toArray, List.set_cons_zero, List.set_cons_succ]
      refine hR.all (by kernel_rfl) ?_ _
      refine NoPanic.normal ?_
      have hk : Hid (0 ≤ q.k ∧ q.k ≤ maxKF q.kind ∧ (q.kind = 3 ∨ q.kind = 6 → 1 ≤ q.k)) := Lib.hid (by rw [Hmk.out]; omega)
      clear hk36
      have b1 := b0
      by_cases h7 : q.kind = 7
      · have h7' : (q.kind == 7) = true := by simp [h7]
        have hnf : nFilF q.kind = 2 := by unfold nFilF; rw [if_pos h7]
        by_cases hln : q.fs.length = 2
        · have hl1 : ((q.fs.length : Int) != 2) = false := by simp [hln]
          have Hln := Lib.hid (hln.trans hnf.symm)
          have Hnf := Lib.hid hnf
          clear hln hnf
          have hd := Lib.hid (show HeadOk q from ⟨HK.out.1, HK.out.2.1, HK.out.2.2, hk.out.1, hk.out.2.1, hk.out.2.2, Hln.out⟩)
          go_wp2_with fail
          go_loopw [4] (fun i wx => ∃ j : Nat, j ≤ q.fs.length ∧ i = .int .i64 j ∧ (q.fs.take j).all validFltB = true ∧ Below wc.heap.size wc wx) (fun i _ => q.fs.length - (intOf i).toNat)
          case atStart => exact ⟨0, Nat.zero_le _, rfl, rfl, (Below.refl _ _).drew⟩
          case round =>
            rename_i wo wq
            obtain ⟨j, hj, rfl, ha, hb⟩ := hrel
            have Ha := Lib.hid ha
            have Hb := Lib.hid hb
            have Hs := Lib.hid (H.out.keep (Below.agree hb))
            obtain ⟨x0, x1, x2, x3⟩ := row4 (mvQ gq hb)
            clear ha hb
            have hj0 : (0 : Int) ≤ (j : Int) := by omega
            by_cases hlt : j < q.fs.length
            · have hj1 : (j : Int) < (q.fs.length : Int) := by omega
              have hj2 : (j : Int) < 2 := by have e1 := Hln.out; have e2 := Hnf.out; omega
              obtain ⟨l, hl⟩ : ∃ l, q.fs[j]? = some l := ⟨_, List.getElem?_eq_getElem hlt⟩
              obtain ⟨b5, o5, B5, d5, rfl, -, l5, z5, hs5⟩ := flt_at Hs.out hl
              have Hs5 := Lib.hid hs5
              have Hl := Lib.hid hl
              have hn : (q.fs.take (j + 1)).all validFltB = ((q.fs.take j).all validFltB && validFltB l) := by rw [take_snocR hl]; simp
              have Hn := Lib.hid hn
              clear hl hs5 hn
              cases hvl : validFltB l with
              | true =>
                go_wp2_with (go_at_call 81; refine (validFltRef (l := l) _ Hs5.out).mono ?_; rw [hvl]; rintro e w6 ⟨rfl, hb6⟩)
                go_roundw
                case rel => exact ⟨j + 1, by omega, by go_num, by rw [Hn.out, Ha.out, hvl]; rfl, Hb.out.trans (hb6.mono Hb.out.size)⟩
                case measure => simp [intOf]; omega
              | false =>
                go_wp2_with (go_at_call 81; refine (validFltRef (l := l) _ Hs5.out).mono ?_; rw [hvl]; rintro e w6 ⟨rfl, hb6⟩)
                go_ret
                exact ⟨ret_b (not_flt (List.mem_of_getElem? Hl.out) hvl).symm, b0.out.trans ((Hb.out.trans (hb6.mono Hb.out.size)).mono b0.out.size)⟩
            · have hj1 : ¬ (j : Int) < (q.fs.length : Int) := by omega
              have hj2 : ¬ (j : Int) < 2 := by have e1 := Hln.out; have e2 := Hnf.out; omega
              go_wp2_with fail
              go_ret
              refine ⟨ret_b ?_, b0.out.trans (Hb.out.mono b0.out.size)⟩
              have := Ha.out
              rw [List.take_of_length_le (by omega)] at this
              unfold validQB
              rw [decide_eq_true hd.out, this]; rfl
        · have hl1 : ((q.fs.length : Int) != 2) = true := by simp; omega
          have hv := Lib.hid (not_head (q := q) fun h => hln (h.2.2.2.2.2.2.trans hnf))
          clear hnf
          go_wp2_with fail
          go_ret
          exact ⟨ret_b hv.out.symm, b0.out.drew⟩
      · have h7' : (q.kind == 7) = false := by simpa using h7
        have hnf : nFilF q.kind = 1 := by unfold nFilF; rw [if_neg h7]
        by_cases hln : q.fs.length = 1
        · have hl1 : ((q.fs.length : Int) != 1) = false := by simp [hln]
          have Hln := Lib.hid (hln.trans hnf.symm)
          have Hnf := Lib.hid hnf
          clear hln hnf
          have hd := Lib.hid (show HeadOk q from ⟨HK.out.1, HK.out.2.1, HK.out.2.2, hk.out.1, hk.out.2.1, hk.out.2.2, Hln.out⟩)
          go_wp2_with fail
          go_loopw [4] (fun i wx => ∃ j : Nat, j ≤ q.fs.length ∧ i = .int .i64 j ∧ (q.fs.take j).all validFltB = true ∧ Below wc.heap.size wc wx) (fun i _ => q.fs.length - (intOf i).toNat)
          case atStart => exact ⟨0, Nat.zero_le _, rfl, rfl, (Below.refl _ _).drew⟩
          case round =>
            rename_i wo wq
            obtain ⟨j, hj, rfl, ha, hb⟩ := hrel
            have Ha := Lib.hid ha
            have Hb := Lib.hid hb
            have Hs := Lib.hid (H.out.keep (Below.agree hb))
            obtain ⟨x0, x1, x2, x3⟩ := row4 (mvQ gq hb)
            clear ha hb
            have hj0 : (0 : Int) ≤ (j : Int) := by omega
            by_cases hlt : j < q.fs.length
            · have hj1 : (j : Int) < (q.fs.length : Int) := by omega
              have hj2 : (j : Int) < 1 := by have e1 := Hln.out; have e2 := Hnf.out; omega
              obtain ⟨l, hl⟩ : ∃ l, q.fs[j]? = some l := ⟨_, List.getElem?_eq_getElem hlt⟩
              obtain ⟨b5, o5, B5, d5, rfl, -, l5, z5, hs5⟩ := flt_at Hs.out hl
              have Hs5 := Lib.hid hs5
              have Hl := Lib.hid hl
              have hn : (q.fs.take (j + 1)).all validFltB = ((q.fs.take j).all validFltB && validFltB l) := by rw [take_snocR hl]; simp
              have Hn := Lib.hid hn
              clear hl hs5 hn
              cases hvl : validFltB l with
              | true =>
                go_wp2_with (go_at_call 81; refine (validFltRef (l := l) _ Hs5.out).mono ?_; rw [hvl]; rintro e w6 ⟨rfl, hb6⟩)
                go_roundw
                case rel => exact ⟨j + 1, by omega, by go_num, by rw [Hn.out, Ha.out, hvl]; rfl, Hb.out.trans (hb6.mono Hb.out.size)⟩
                case measure => simp [intOf]; omega
              | false =>
                go_wp2_with (go_at_call 81; refine (validFltRef (l := l) _ Hs5.out).mono ?_; rw [hvl]; rintro e w6 ⟨rfl, hb6⟩)
                go_ret
                exact ⟨ret_b (not_flt (List.mem_of_getElem? Hl.out) hvl).symm, b0.out.trans ((Hb.out.trans (hb6.mono Hb.out.size)).mono b0.out.size)⟩
            · have hj1 : ¬ (j : Int) < (q.fs.length : Int) := by omega
              have hj2 : ¬ (j : Int) < 1 := by have e1 := Hln.out; have e2 := Hnf.out; omega
              go_wp2_with fail
              go_ret
              refine ⟨ret_b ?_, b0.out.trans (Hb.out.mono b0.out.size)⟩
              have := Ha.out
              rw [List.take_of_length_le (by omega)] at this
              unfold validQB
              rw [decide_eq_true hd.out, this]; rfl
        · have hl1 : ((q.fs.length : Int) != 1) = true := by simp; omega
          have hv := Lib.hid (not_head (q := q) fun h => hln (h.2.2.2.2.2.2.trans hnf))
          clear hnf
          go_wp2_with fail
          go_ret
          exact ⟨ret_b hv.out.symm, b0.out.drew⟩
end Go.Proofs.YtagadbdbbglddaaGreatDoor
