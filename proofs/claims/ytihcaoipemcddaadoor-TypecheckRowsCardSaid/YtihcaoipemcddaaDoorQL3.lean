/-
  The law 'TypecheckRows', walked: it returns true for every input, and nothing that existed changes. Condition: the package's map lies as its text lays it.
-/
import Derived.Test.YtihcaoipemcddaaDoorQ22
import Derived.Test.YtihcaoipemcddaaDoorQP2
namespace Go.Proofs.YtihcaoipemcddaaDoor
open Go.RowKit

theorem zero_ok (q : Qy) : (boundF q 0).2 = true := by
  unfold boundF powF
  split
  · split
    · simp [two62]
    · rfl
  · split <;> rfl
theorem mono_ok {q : Qy} (hq : ValidQ q) {n m : Int} (h0 : 0 ≤ n) (h : n ≤ m) (hm : m ≤ 65536) (hok : (boundF q m).2 = true) : (boundF q n).2 = true := by
  by_cases h3 : q.kind ≤ 3
  · have h1 := bound_lt hq (Int.le_trans h0 h) hm hok (v := 0) (by have := hq.head.1.1; rw [sums_1 this h3]; decide)
    have hc := cap_nn hq (v := 0) (by omega)
    have h2 : n * capF q 0 ≤ m * capF q 0 := Int.mul_le_mul_of_nonneg_right h hc.1
    have hf : filtF q 0 = fl q 0 := by unfold filtF; rw [if_neg (by omega)]
    unfold boundF
    rw [if_pos h3]
    unfold capF at h1 h2
    rw [if_pos h3, hf] at h1 h2
    cases hs : satB (fl q 0) with
    | true =>
      rw [hs] at h1 h2
      simp only [if_true] at h1 h2 ⊢
      exact decide_eq_true (by unfold powF two62; omega)
    | false => rfl
  · unfold boundF
    rw [if_neg h3]
    split <;> rfl
def qL3T : List FRow := [(0, ([], (43, [10]))), (1, ([0], (44, [42]))), (2, ([1], (45, [43]))), (3, ([2], (46, [9, 44]))), (4, ([3, 2], (47, [45, 44]))), (5, ([4, 2], (48, [46, 44]))), (6, ([2], (49, [8, 44]))), (7, ([6, 2, 2], (50, [48, 44]))), (8, ([5, 7, 2], (51, [47, 49, 44]))), (9, ([2, 8], (52, [44, 50]))), (10, ([9, 7], (53, [51]))), (11, ([10], (54, [2, 52]))), (12, ([11, 10], (55, [53, 52]))), (13, ([12, 10, 10], (56, [54, 52]))), (14, ([13], (57, [14, 55]))), (15, ([14, 13], (58, [56, 55]))), (16, ([13, 15, 10], (59, [55, 57, 52]))), (17, ([16, 13, 10], (60, [58, 52]))), (18, ([17], (61, [12, 59]))), (19, ([18, 17], (62, [60, 59]))), (20, ([17, 19, 10], (63, [59, 61, 52]))), (21, ([10, 20], (64, [52, 62])))]
def qL3U : List FRow := [(0, ([], (93, [16]))), (1, ([], (94, [13]))), (2, ([1], (95, [93]))), (3, ([2], (96, [94]))), (4, ([0, 3], (97, [92, 95]))), (5, ([4], (98, [96]))), (6, ([5], (99, [13, 97]))), (7, ([6, 5], (100, [98, 97]))), (8, ([5], (101, [16, 97]))), (9, ([7, 8, 5], (102, [99, 100, 97]))), (10, ([9, 5], (103, [101, 97]))), (11, ([5], (104, [11, 97]))), (12, ([11, 5], (105, [103, 97]))), (13, ([5], (106, [16, 97]))), (14, ([12, 13, 5], (107, [104, 105, 97]))), (15, ([14, 5], (108, [106, 97]))), (16, ([5], (109, [2, 97]))), (17, ([16, 5], (110, [108, 97]))), (18, ([15, 17, 5], (111, [107, 109, 97]))), (19, ([10, 18, 5], (112, [102, 110, 97]))), (20, ([5, 19], (113, [97, 111])))]
set_option maxRecDepth 100000 in
set_option maxHeartbeats 8000000 in
theorem walk_TypecheckRows {q : Qy} {A : Option Addr} {c : Nat} {n k : Int} (w : World) (hw : WidOk w) (h : Sl cdE.slice (fun _ => True) w A c q.fs) (_hc : -9223372036854775808 ≤ q.col ∧ q.col ≤ 9223372036854775807) (hn : 0 ≤ n ∧ n ≤ 255) (hk : 0 ≤ k ∧ k ≤ 255) :
    Calls Tryd.prog 9 #[(.agg #[.int .i64 q.kind, .int .i64 q.col, .int .i64 q.k, .slice A q.fs.length c]), .int .u8 n, .int .u8 k] w fun e w' => e = .returned (.bool true) ∧ Below w.heap.size w w' := by
  have HW := Lib.hid hw
  have H := Lib.hid h
  have hm := h.max
  obtain ⟨n, rfl⟩ : ∃ m : Nat, n = m := ⟨n.toNat, by omega⟩
  obtain ⟨k, rfl⟩ : ∃ m : Nat, k = m := ⟨k.toNat, by omega⟩
  obtain ⟨nk, hnk⟩ : ∃ nk : Nat, n * k = nk := ⟨_, rfl⟩
  have hnk1 : (n : Int) * (k : Int) = (nk : Int) := by rw [← hnk, Int.natCast_mul]
  have hnkb : nk ≤ 65025 := by rw [← hnk]; exact Nat.le_trans (Nat.mul_le_mul (show n ≤ 255 by omega) (show k ≤ 255 by omega)) (by decide)
  have HNK := Lib.hid hnk
  clear hw h hnk
  go_enter Tryd.func9, Tryd.ntmps9
  go_upto_region 1 with fail
  refine wp_world (F := fun wx => Below w.heap.size w wx ∧ Hid (wx.heap[w.heap.size]? = some (.cells #[.int .i64 q.kind, .int .i64 q.col, .int .i64 q.k, .slice A q.fs.length c] 24 (0, 0)))) ⟨(by repeat' (first | with_reducible exact Below.refl _ _ | with_reducible assumption | with_reducible refine Below.setCell ?_ ?_ _ | with_reducible refine Below.drew ?_ | with_reducible refine below_drewN ?_ _ | with_reducible refine Below.alloc ?_ ?_ _ | (rintro _ ⟨⟩; simp <;> omega) | omega | (simp <;> omega))), Lib.hid (heap_alloc_at rfl)⟩ ?_
  rintro w1 ⟨bb, gq⟩
  have b1 := Lib.hid bb
  have W1 := mvW HW bb
  clear bb HW
  go_upto_region 2 with (go_at_call 10; refine (sanityL14 _ W1.out).mono ?_; rintro e w2 ⟨rfl, hb2⟩; have b2 := Lib.hid (b1.out.trans (hb2.mono b1.out.size)); have gq2 := mvQ gq hb2; have W2 := mvW W1 hb2; clear hb2)
  obtain ⟨x0, x1, x2, x3⟩ := row4 gq2
  have H2 := Lib.hid (H.out.keep (Below.agree b2.out))
  clear gq W1 b1 H
  go_cut [8] (fun p wx => ∃ (g : Nat) (x : Qy) (B : Option Addr) (d : Nat), p = .pointer (some ⟨g, 0, none⟩) ∧ ValidQ x ∧ NotWide x ∧ Hid (wx.heap[g]? = some (.cells #[.int .i64 x.kind, .int .i64 x.col, .int .i64 x.k, .slice B x.fs.length d] 24 (0, 0))) ∧ Sl cdE.slice (fun _ => True) wx B d x.fs ∧ Below w2.heap.size w2 wx)
  case first =>
    go_wp2_with (go_at_call 19; refine (made14P (q := q) _ H2.out).mono ?_; rintro e wC ⟨x, hv, hnw, B, d, rfl, hs, hbC⟩; have HC := Lib.hid hs; have bC := Lib.hid hbC; have HV := Lib.hid hv; have HN := Lib.hid hnw; clear hs hbC hv hnw)
    go_meet
    case rel => exact ⟨_, x, B, d, rfl, HV.out, HN.out, Lib.hid (heap_alloc_at rfl), (HC.out.sub (fun _ _ _ => trivial)).keep ((Agree.refl _ _).alloc _), bC.out.alloc bC.out.size _⟩
  obtain ⟨g, x, B, d, rfl, hv, hnw, gx, hs, hb⟩ := hcut
  obtain ⟨w3, hwv⟩ : ∃ x, x = wc := ⟨_, rfl⟩
  subst hwv
  have HV := Lib.hid hv
  have HNW := Lib.hid hnw
  have W3 := mvW W2 hb
  have b3 := Lib.hid (b2.out.trans (hb.mono b2.out.size))
  have F3 := Lib.hid hs
  clear hv hnw hs hb x0 x1 x2 x3 gq2 W2 b2 H2
  obtain ⟨L, hL⟩ : ∃ L : Nat, (L : Int) = sumsC x.kind := ⟨(sumsC x.kind).toNat, by have := sums_le HV.out.head.1.1 HV.out.head.1.2; omega⟩
  have HLN := Lib.hid (fun N => (show (boundF x N).1.length = L by have := bound_len (q := x) (n := N) HV.out.head.1.1 HV.out.head.1.2; omega))
  have hL32 : L ≤ 32 := by have := sums_le HV.out.head.1.1 HV.out.head.1.2; omega
  have HLS := Lib.hid hL
  have HCV := Lib.hid (fun (N : Int) (h0 : 0 ≤ N) (h1 : N ≤ 65536) => check_val HV.out HNW.out (n := N) h0 h1)
  clear hL
  have hne : ((L : Int) != sumsC x.kind) = false := by rw [HLS.out]; simp
  obtain ⟨P4, hP4⟩ : ∃ P, checkTF x 0 = P := ⟨_, rfl⟩
  have HP4 := Lib.hid hP4
  clear hP4
  obtain ⟨y0, y1, y2, y3⟩ := row4 gx
  go_upto_region 3 with fail
  go_cut [9, 10] (fun p e wx => ∃ g, p = .pointer (some ⟨g, 0, none⟩) ∧ e = .int .i64 P4.2 ∧ Bx wx g P4.1 ∧ Below w3.heap.size w3 wx)
  case first =>
    go_wp2_with (go_at_call 11; refine (checkP (q := x) 0 _ W3.out F3.out HP4.out).mono ?_; rintro e wC ⟨B, d, rfl, hs, hbC⟩; have HC := Lib.hid hs; have bC := Lib.hid hbC; clear hs hbC)
    go_meet
    case rel => exact ⟨_, rfl, rfl, ⟨B, d, heap_alloc_at rfl, (HC.out.sub (fun _ _ _ => trivial)).keep ((Agree.refl _ _).alloc _)⟩, bC.out.alloc bC.out.size _⟩
  obtain ⟨g4, rfl, rfl, hbx, hb⟩ := hcut
  obtain ⟨w4, hwv⟩ : ∃ x, x = wc := ⟨_, rfl⟩
  subst hwv
  have W4 := mvW W3 hb
  have b4 := Lib.hid (b3.out.trans (hb.mono b3.out.size))
  have F4 := Lib.hid (F3.out.keep (Below.agree hb))
  (try replace X4 := mvBx X4 hb)
  (try replace X5 := mvBx X5 hb)
  replace gx := mvQ gx hb
  have X4 := Lib.hid hbx
  clear hbx hb W3 b3 F3 y0 y1 y2 y3
  obtain ⟨P5, hP5⟩ : ∃ P, checkTF x n = P := ⟨_, rfl⟩
  have HP5 := Lib.hid hP5
  clear hP5
  obtain ⟨y0, y1, y2, y3⟩ := row4 gx
  go_upto_region 4 with fail
  go_cut [11, 12] (fun p e wx => ∃ g, p = .pointer (some ⟨g, 0, none⟩) ∧ e = .int .i64 P5.2 ∧ Bx wx g P5.1 ∧ Below w4.heap.size w4 wx)
  case first =>
    go_wp2_with (go_at_call 11; refine (checkP (q := x) n _ W4.out F4.out HP5.out).mono ?_; rintro e wC ⟨B, d, rfl, hs, hbC⟩; have HC := Lib.hid hs; have bC := Lib.hid hbC; clear hs hbC)
    go_meet
    case rel => exact ⟨_, rfl, rfl, ⟨B, d, heap_alloc_at rfl, (HC.out.sub (fun _ _ _ => trivial)).keep ((Agree.refl _ _).alloc _)⟩, bC.out.alloc bC.out.size _⟩
  obtain ⟨g5, rfl, rfl, hbx, hb⟩ := hcut
  obtain ⟨w5, hwv⟩ : ∃ x, x = wc := ⟨_, rfl⟩
  subst hwv
  have W5 := mvW W4 hb
  have b5 := Lib.hid (b4.out.trans (hb.mono b4.out.size))
  have F5 := Lib.hid (F4.out.keep (Below.agree hb))
  (try replace X4 := mvBx X4 hb)
  (try replace X5 := mvBx X5 hb)
  replace gx := mvQ gx hb
  have X5 := Lib.hid hbx
  clear hbx hb W4 b4 F4 y0 y1 y2 y3
  obtain ⟨P6, hP6⟩ : ∃ P, checkTF x nk = P := ⟨_, rfl⟩
  have HP6 := Lib.hid hP6
  clear hP6
  obtain ⟨y0, y1, y2, y3⟩ := row4 gx
  go_upto_region 5 with fail
  go_cut [13, 14] (fun p e wx => ∃ g, p = .pointer (some ⟨g, 0, none⟩) ∧ e = .int .i64 P6.2 ∧ Bx wx g P6.1 ∧ Below w5.heap.size w5 wx)
  case first =>
    go_wp2_with (go_at_call 11; refine (checkP (q := x) nk _ W5.out F5.out HP6.out).mono ?_; rintro e wC ⟨B, d, rfl, hs, hbC⟩; have HC := Lib.hid hs; have bC := Lib.hid hbC; clear hs hbC)
    go_meet
    case rel => exact ⟨_, rfl, rfl, ⟨B, d, heap_alloc_at rfl, (HC.out.sub (fun _ _ _ => trivial)).keep ((Agree.refl _ _).alloc _)⟩, bC.out.alloc bC.out.size _⟩
  obtain ⟨g6, rfl, rfl, hbx, hb⟩ := hcut
  obtain ⟨w6, hwv⟩ : ∃ x, x = wc := ⟨_, rfl⟩
  subst hwv
  have W6 := mvW W5 hb
  have b6 := Lib.hid (b5.out.trans (hb.mono b5.out.size))
  have F6 := Lib.hid (F5.out.keep (Below.agree hb))
  (try replace X4 := mvBx X4 hb)
  (try replace X5 := mvBx X5 hb)
  replace gx := mvQ gx hb
  have X6 := Lib.hid hbx
  clear hbx hb W5 b5 F5 y0 y1 y2 y3
  clear W6 F6
  obtain ⟨ok5, h5⟩ : ∃ b, (boundF x n).2 = b := ⟨_, rfl⟩
  obtain ⟨ok6, h6⟩ : ∃ b, (boundF x nk).2 = b := ⟨_, rfl⟩
  have O5 := Lib.hid h5
  have O6 := Lib.hid h6
  have HE := Lib.hid (show k = 0 ∧ ok6 = true ∨ 0 < k ∧ ok6 = false ∨ 0 < k ∧ ok6 = true ∧ ok5 = true by
    rcases Nat.eq_zero_or_pos k with hk0 | hk0
    · left
      refine ⟨hk0, ?_⟩
      have hz : nk = 0 := by rw [← HNK.out, hk0]; rfl
      rw [← h6, hz]
      exact zero_ok x
    · right
      cases hok : ok6 with
      | false => exact .inl ⟨hk0, rfl⟩
      | true =>
        right
        refine ⟨hk0, rfl, ?_⟩
        rw [← h5]
        exact mono_ok (m := (nk : Int)) HV.out (by omega) (by have := Nat.le_mul_of_pos_right n hk0; rw [HNK.out] at this; omega) (by omega) (by rw [h6, hok]))
  have E4 := Lib.hid (show P4 = ((boundF x 0).1, 0) by rw [← HP4.out, HCV.out 0 (by omega) (by omega), zero_ok]; rfl)
  have E5 := Lib.hid (show P5 = if ok5 then ((boundF x n).1, 0) else ([], 141) by rw [← HP5.out, HCV.out n (by omega) (by omega), h5])
  have E6 := Lib.hid (show P6 = if ok6 then ((boundF x nk).1, 0) else ([], 141) by rw [← HP6.out, HCV.out nk (by omega) (by omega), h6])
  rw [E4.out]
  rw [E4.out] at X4
  dsimp only at X4 ⊢
  obtain ⟨B4, d4, y4, s4⟩ := X4.out
  rw [HLN.out] at y4
  have Y4 := Lib.hid y4
  have S4 := Lib.hid s4
  have hm4 := s4.max
  rw [HLN.out] at hm4
  have z4 : ∀ W, Below w6.heap.size w6 W → _ ∧ _ ∧ _ := fun W hW => one (mvQ Y4 hW)
  have zx : ∀ W, Below w6.heap.size w6 W → _ ∧ _ ∧ _ ∧ _ := fun W hW => row4 (mvQ gx hW)
  have br : Below w6.heap.size w6 w6 := Below.refl _ _
  have ba : ∀ W o, Below w6.heap.size w6 W → Below w6.heap.size w6 (W.alloc o) := fun W o h => h.alloc h.size o
  have bc : ∀ W W', Below w6.heap.size w6 W → Below W.heap.size W W' → Below w6.heap.size w6 W' := fun W W' h k => h.trans (k.mono h.size)
  clear X4 y4 s4 h5 h6
  (first | go_values | go_skip | go_guarded | go_step | go_upon | go_back)
  (first | go_values | go_skip | go_guarded | go_step | go_upon | go_back)
  go_cut [2, 12, 14] (fun s2 s12 s14 wx => s2 = .int .u8 k ∧ s12 = .int .i64 P5.2 ∧ s14 = .int .i64 P6.2 ∧ Below w6.heap.size w6 wx)
  case first =>
    rcases HE.out with ⟨rfl, e6⟩ | ⟨hk0, e6⟩ | ⟨hk0, e6, e5⟩
    · rw [E6.out, e6]
      simp only [if_true, Int.natCast_zero]
      go_upto_region 6 with fail
      refine wp_region_noPanic ?_
      refine wp_region_held_drew (S := fun X => Below w6.heap.size w6 X) (by kernel_rfl) ?_ (fun hHeld => ?_)
      · (first | with_reducible assumption | (with_reducible refine Below.drew ?_; with_reducible assumption) | (with_reducible refine ba _ _ ?_; with_reducible assumption) | (with_reducible refine Below.drew ?_; with_reducible refine ba _ _ ?_; with_reducible assumption) | exact Below.refl _ _ | exact (Below.refl _ _).drew | exact (Below.refl _ _).alloc (Nat.le_refl _) _ | (refine bc _ _ (by assumption) (by assumption)))
      refine RegOk.begin_ (n := 22) (T := qL3T) ⟨by kernel_rfl, by kernel_rfl, by kernel_rfl, by kernel_rfl⟩ fun hR => ?_
      refine hR.take (i := 0) (oi := ?ow1_0) (v := ?vw1_0) (m' := 1) ?hw1_0 (by kernel_rfl) (by kernel_rfl) (fun _ _ _ h => h) (Or.inl ⟨?sw1_0, ?yw1_0⟩) (by assumption) ?nw1_0
      case hw1_0 => simp only [List.getElem?_toArray, List.getElem?_cons_succ, List.getElem?_cons_zero]; rfl
      case sw1_0 => rfl
      case yw1_0 => (intro w hSw; (try dsimp only at hSw); go_simp <;> with_reducible rfl)
      try simp only [Act.put, List.setIfInBounds_toArray, List.set_cons_zero, List.set_cons_succ]
      refine hR.take (i := 1) (oi := ?ow2_1) (v := ?vw2_1) (m' := 3) ?hw2_1 (by kernel_rfl) (by kernel_rfl) (fun _ _ _ h => h) (Or.inl ⟨?sw2_1, ?yw2_1⟩) (by assumption) ?nw2_1
      case hw2_1 => simp only [List.getElem?_toArray, List.getElem?_cons_succ, List.getElem?_cons_zero]; rfl
      case sw2_1 => rfl
      case yw2_1 => (intro w hSw; (try dsimp only at hSw); go_simp <;> with_reducible rfl)
      try simp only [Act.put, List.setIfInBounds_toArray, List.set_cons_zero, List.set_cons_succ]
      refine hR.take (i := 2) (oi := ?ow3_2) (v := ?vw3_2) (m' := 7) ?hw3_2 (by kernel_rfl) (by kernel_rfl) (fun _ _ _ h => h) (Or.inl ⟨?sw3_2, ?yw3_2⟩) (by assumption) ?nw3_2
      case hw3_2 => simp only [List.getElem?_toArray, List.getElem?_cons_succ, List.getElem?_cons_zero]; rfl
      case sw3_2 => rfl
      case yw3_2 => (intro w hSw; (try dsimp only at hSw); go_simp <;> with_reducible rfl)
      try simp only [Act.put, List.setIfInBounds_toArray, List.set_cons_zero, List.set_cons_succ]
      refine hR.take (i := 3) (oi := ?ow4_3) (v := ?vw4_3) (m' := 15) ?hw4_3 (by kernel_rfl) (by kernel_rfl) (fun _ _ _ h => h) (Or.inl ⟨?sw4_3, ?yw4_3⟩) (by assumption) ?nw4_3
      case hw4_3 => simp only [List.getElem?_toArray, List.getElem?_cons_succ, List.getElem?_cons_zero]; rfl
      case sw4_3 => rfl
      case yw4_3 => (intro w hSw; (try dsimp only at hSw); go_simp <;> with_reducible rfl)
      try simp only [Act.put, List.setIfInBounds_toArray, List.set_cons_zero, List.set_cons_succ]
      refine hR.take (i := 4) (oi := ?ow5_4) (v := ?vw5_4) (m' := 31) ?hw5_4 (by kernel_rfl) (by kernel_rfl) (fun _ _ _ h => h) (Or.inl ⟨?sw5_4, ?yw5_4⟩) (by assumption) ?nw5_4
      case hw5_4 => simp only [List.getElem?_toArray, List.getElem?_cons_succ, List.getElem?_cons_zero]; rfl
      case sw5_4 => rfl
      case yw5_4 => (intro w hSw; (try dsimp only at hSw); go_simp <;> with_reducible rfl)
      try simp only [Act.put, List.setIfInBounds_toArray, List.set_cons_zero, List.set_cons_succ]
      refine hR.take (i := 5) (oi := ?ow6_5) (v := ?vw6_5) (m' := 63) ?hw6_5 (by kernel_rfl) (by kernel_rfl) (fun _ _ _ h => h) (Or.inl ⟨?sw6_5, ?yw6_5⟩) (by assumption) ?nw6_5
      case hw6_5 => simp only [List.getElem?_toArray, List.getElem?_cons_succ, List.getElem?_cons_zero]; rfl
      case sw6_5 => rfl
      case yw6_5 => (intro w hSw; (try dsimp only at hSw); go_simp <;> with_reducible rfl)
      try simp only [Act.put, List.setIfInBounds_toArray, List.set_cons_zero, List.set_cons_succ]
      refine hR.take (i := 6) (oi := ?ow7_6) (v := ?vw7_6) (m' := 127) ?hw7_6 (by kernel_rfl) (by kernel_rfl) (fun _ _ _ h => h) (Or.inl ⟨?sw7_6, ?yw7_6⟩) (by assumption) ?nw7_6
      case hw7_6 => simp only [List.getElem?_toArray, List.getElem?_cons_succ, List.getElem?_cons_zero]; rfl
      case sw7_6 => rfl
      case yw7_6 => (intro w hSw; (try dsimp only at hSw); go_simp <;> with_reducible rfl)
      try simp only [Act.put, List.setIfInBounds_toArray, List.set_cons_zero, List.set_cons_succ]
      refine hR.come (rs := [7]) (by kernel_rfl) (by simp) ?_
      refine AllReadyH.cons (o := ?o8_7) ?h8_7 (fun K hK => ?kw8_7) AllReadyH.nil
      case h8_7 => simp only [List.getElem?_toArray, List.getElem?_cons_succ, List.getElem?_cons_zero]; rfl
      go_simp
      go_at_call 15; refine (sumsP (q := x) _).mono ?_; rintro e wA ⟨rfl, hA⟩; have hk := bc _ _ (by (first | with_reducible assumption | (with_reducible refine Below.drew ?_; with_reducible assumption) | (with_reducible refine ba _ _ ?_; with_reducible assumption) | (with_reducible refine Below.drew ?_; with_reducible refine ba _ _ ?_; with_reducible assumption) | exact Below.refl _ _ | exact (Below.refl _ _).drew | exact (Below.refl _ _).alloc (Nat.le_refl _) _ | (refine bc _ _ (by assumption) (by assumption)))) hA; clear hA
      refine hK.out _ _ ?_ (fun hHeld => ?_)
      · (first | with_reducible assumption | (with_reducible refine Below.drew ?_; with_reducible assumption) | (with_reducible refine ba _ _ ?_; with_reducible assumption) | (with_reducible refine Below.drew ?_; with_reducible refine ba _ _ ?_; with_reducible assumption) | exact Below.refl _ _ | exact (Below.refl _ _).drew | exact (Below.refl _ _).alloc (Nat.le_refl _) _ | (refine bc _ _ (by assumption) (by assumption)))
      clear hK K
      refine RegOk.put_ (m' := 255) (by kernel_rfl) ?_
      try simp only [Act.put, List.setIfInBounds_toArray, List.set_cons_zero, List.set_cons_succ]
      refine hR.take (i := 8) (oi := ?ow9_8) (v := ?vw9_8) (m' := 511) ?hw9_8 (by kernel_rfl) (by kernel_rfl) (fun _ _ _ h => h) (Or.inl ⟨?sw9_8, ?yw9_8⟩) (by assumption) ?nw9_8
      case hw9_8 => simp only [List.getElem?_toArray, List.getElem?_cons_succ, List.getElem?_cons_zero]; rfl
      case sw9_8 => rfl
      case yw9_8 => (intro w hSw; (try dsimp only at hSw); go_simp <;> with_reducible rfl)
      try simp only [Act.put, List.setIfInBounds_toArray, List.set_cons_zero, List.set_cons_succ]
      refine hR.take (i := 9) (oi := ?ow10_9) (v := ?vw10_9) (m' := 1023) ?hw10_9 (by kernel_rfl) (by kernel_rfl) (fun _ _ _ h => h) (Or.inl ⟨?sw10_9, ?yw10_9⟩) (by assumption) ?nw10_9
      case hw10_9 => simp only [List.getElem?_toArray, List.getElem?_cons_succ, List.getElem?_cons_zero]; rfl
      case sw10_9 => rfl
      case yw10_9 => (intro w hSw; (try dsimp only at hSw); go_simp <;> with_reducible rfl)
      try simp only [Act.put, List.setIfInBounds_toArray, List.set_cons_zero, List.set_cons_succ]
      refine hR.take (i := 10) (oi := ?ow11_10) (v := ?vw11_10) (m' := 2047) ?hw11_10 (by kernel_rfl) (by kernel_rfl) (fun _ _ _ h => h) (Or.inl ⟨?sw11_10, ?yw11_10⟩) (by assumption) ?nw11_10
      case hw11_10 => simp only [List.getElem?_toArray, List.getElem?_cons_succ, List.getElem?_cons_zero]; rfl
      case sw11_10 => rfl
      case yw11_10 => (intro w hSw; (try dsimp only at hSw); go_simp <;> with_reducible rfl)
      try simp only [Act.put, List.setIfInBounds_toArray, List.set_cons_zero, List.set_cons_succ]
      refine hR.take (i := 11) (oi := ?ow12_11) (v := ?vw12_11) (m' := 4095) ?hw12_11 (by kernel_rfl) (by kernel_rfl) (fun _ _ _ h => h) (Or.inl ⟨?sw12_11, ?yw12_11⟩) (by assumption) ?nw12_11
      case hw12_11 => simp only [List.getElem?_toArray, List.getElem?_cons_succ, List.getElem?_cons_zero]; rfl
      case sw12_11 => rfl
      case yw12_11 => (intro w hSw; (try dsimp only at hSw); go_simp <;> with_reducible rfl)
      try simp only [Act.put, List.setIfInBounds_toArray, List.set_cons_zero, List.set_cons_succ]
      refine hR.take (i := 12) (oi := ?ow13_12) (v := ?vw13_12) (m' := 8191) ?hw13_12 (by kernel_rfl) (by kernel_rfl) (fun _ _ _ h => h) (Or.inl ⟨?sw13_12, ?yw13_12⟩) (by assumption) ?nw13_12
      case hw13_12 => simp only [List.getElem?_toArray, List.getElem?_cons_succ, List.getElem?_cons_zero]; rfl
      case sw13_12 => rfl
      case yw13_12 => (intro w hSw; (try dsimp only at hSw); go_simp <;> with_reducible rfl)
      try simp only [Act.put, List.setIfInBounds_toArray, List.set_cons_zero, List.set_cons_succ]
      refine hR.take (i := 13) (oi := ?ow14_13) (v := ?vw14_13) (m' := 16383) ?hw14_13 (by kernel_rfl) (by kernel_rfl) (fun _ _ _ h => h) (Or.inl ⟨?sw14_13, ?yw14_13⟩) (by assumption) ?nw14_13
      case hw14_13 => simp only [List.getElem?_toArray, List.getElem?_cons_succ, List.getElem?_cons_zero]; rfl
      case sw14_13 => rfl
      case yw14_13 => (intro w hSw; (try dsimp only at hSw); go_simp <;> with_reducible rfl)
      try simp only [Act.put, List.setIfInBounds_toArray, List.set_cons_zero, List.set_cons_succ]
      refine hR.take (i := 14) (oi := ?ow15_14) (v := ?vw15_14) (m' := 32767) ?hw15_14 (by kernel_rfl) (by kernel_rfl) (fun _ _ _ h => h) (Or.inr ⟨?sw15_14, ?yw15_14⟩) (by assumption) ?nw15_14
      case hw15_14 => simp only [List.getElem?_toArray, List.getElem?_cons_succ, List.getElem?_cons_zero]; rfl
      case sw15_14 => rfl
      case yw15_14 => rfl
      try simp only [Act.put, List.setIfInBounds_toArray, List.set_cons_zero, List.set_cons_succ]
      refine hR.take (i := 15) (oi := ?ow16_15) (v := ?vw16_15) (m' := 65535) ?hw16_15 (by kernel_rfl) (by kernel_rfl) (fun _ _ _ h => h) (Or.inr ⟨?sw16_15, ?yw16_15⟩) (by assumption) ?nw16_15
      case hw16_15 => simp only [List.getElem?_toArray, List.getElem?_cons_succ, List.getElem?_cons_zero]; rfl
      case sw16_15 => rfl
      case yw16_15 => rfl
      try simp only [Act.put, List.setIfInBounds_toArray, List.set_cons_zero, List.set_cons_succ]
      refine hR.take (i := 16) (oi := ?ow17_16) (v := ?vw17_16) (m' := 131071) ?hw17_16 (by kernel_rfl) (by kernel_rfl) (fun _ _ _ h => h) (Or.inl ⟨?sw17_16, ?yw17_16⟩) (by assumption) ?nw17_16
      case hw17_16 => simp only [List.getElem?_toArray, List.getElem?_cons_succ, List.getElem?_cons_zero]; rfl
      case sw17_16 => rfl
      case yw17_16 => (intro w hSw; (try dsimp only at hSw); go_simp <;> with_reducible rfl)
      try simp only [Act.put, List.setIfInBounds_toArray, List.set_cons_zero, List.set_cons_succ]
      refine hR.take (i := 17) (oi := ?ow18_17) (v := ?vw18_17) (m' := 262143) ?hw18_17 (by kernel_rfl) (by kernel_rfl) (fun _ _ _ h => h) (Or.inl ⟨?sw18_17, ?yw18_17⟩) (by assumption) ?nw18_17
      case hw18_17 => simp only [List.getElem?_toArray, List.getElem?_cons_succ, List.getElem?_cons_zero]; rfl
      case sw18_17 => rfl
      case yw18_17 => (intro w hSw; (try dsimp only at hSw); go_simp <;> with_reducible rfl)
      try simp only [Act.put, List.setIfInBounds_toArray, List.set_cons_zero, List.set_cons_succ]
      refine hR.take (i := 18) (oi := ?ow19_18) (v := ?vw19_18) (m' := 524287) ?hw19_18 (by kernel_rfl) (by kernel_rfl) (fun _ _ _ h => h) (Or.inr ⟨?sw19_18, ?yw19_18⟩) (by assumption) ?nw19_18
      case hw19_18 => simp only [List.getElem?_toArray, List.getElem?_cons_succ, List.getElem?_cons_zero]; rfl
      case sw19_18 => rfl
      case yw19_18 => rfl
      try simp only [Act.put, List.setIfInBounds_toArray, List.set_cons_zero, List.set_cons_succ]
      refine hR.take (i := 19) (oi := ?ow20_19) (v := ?vw20_19) (m' := 1048575) ?hw20_19 (by kernel_rfl) (by kernel_rfl) (fun _ _ _ h => h) (Or.inr ⟨?sw20_19, ?yw20_19⟩) (by assumption) ?nw20_19
      case hw20_19 => simp only [List.getElem?_toArray, List.getElem?_cons_succ, List.getElem?_cons_zero]; rfl
      case sw20_19 => rfl
      case yw20_19 => rfl
      try simp only [Act.put, List.setIfInBounds_toArray, List.set_cons_zero, List.set_cons_succ]
      refine hR.take (i := 20) (oi := ?ow21_20) (v := ?vw21_20) (m' := 2097151) ?hw21_20 (by kernel_rfl) (by kernel_rfl) (fun _ _ _ h => h) (Or.inl ⟨?sw21_20, ?yw21_20⟩) (by assumption) ?nw21_20
      case hw21_20 => simp only [List.getElem?_toArray, List.getElem?_cons_succ, List.getElem?_cons_zero]; rfl
      case sw21_20 => rfl
      case yw21_20 => (intro w hSw; (try dsimp only at hSw); go_simp <;> with_reducible rfl)
      try simp only [Act.put, List.setIfInBounds_toArray, List.set_cons_zero, List.set_cons_succ]
      refine hR.take (i := 21) (oi := ?ow22_21) (v := ?vw22_21) (m' := 4194303) ?hw22_21 (by kernel_rfl) (by kernel_rfl) (fun _ _ _ h => h) (Or.inl ⟨?sw22_21, ?yw22_21⟩) (by assumption) ?nw22_21
      case hw22_21 => simp only [List.getElem?_toArray, List.getElem?_cons_succ, List.getElem?_cons_zero]; rfl
      case sw22_21 => rfl
      case yw22_21 => (intro w hSw; (try dsimp only at hSw); go_simp <;> with_reducible rfl)
      try simp only [Act.put, List.setIfInBounds_toArray, List.set_cons_zero, List.set_cons_succ]
      refine hR.all (by kernel_rfl) ?_ _
      refine NoPanic.normal ?_
      go_wp2_with fail
      go_meet
      exact ⟨rfl, rfl, by rw [E6.out, e6]; rfl, by assumption⟩
    · have hk1 : (0 : Int) < (k : Int) := by omega
      rw [E6.out, e6]
      simp only [Bool.false_eq_true, if_false]
      go_upto_region 6 with fail
      refine wp_region_noPanic ?_
      refine wp_region_held_drew (S := fun X => Below w6.heap.size w6 X) (by kernel_rfl) ?_ (fun hHeld => ?_)
      · (first | with_reducible assumption | (with_reducible refine Below.drew ?_; with_reducible assumption) | (with_reducible refine ba _ _ ?_; with_reducible assumption) | (with_reducible refine Below.drew ?_; with_reducible refine ba _ _ ?_; with_reducible assumption) | exact Below.refl _ _ | exact (Below.refl _ _).drew | exact (Below.refl _ _).alloc (Nat.le_refl _) _ | (refine bc _ _ (by assumption) (by assumption)))
      refine RegOk.begin_ (n := 22) (T := qL3T) ⟨by kernel_rfl, by kernel_rfl, by kernel_rfl, by kernel_rfl⟩ fun hR => ?_
      refine hR.take (i := 0) (oi := ?ow23_0) (v := ?vw23_0) (m' := 1) ?hw23_0 (by kernel_rfl) (by kernel_rfl) (fun _ _ _ h => h) (Or.inl ⟨?sw23_0, ?yw23_0⟩) (by assumption) ?nw23_0
      case hw23_0 => simp only [List.getElem?_toArray, List.getElem?_cons_succ, List.getElem?_cons_zero]; rfl
      case sw23_0 => rfl
      case yw23_0 => (intro w hSw; (try dsimp only at hSw); go_simp <;> with_reducible rfl)
      try simp only [Act.put, List.setIfInBounds_toArray, List.set_cons_zero, List.set_cons_succ]
      refine hR.take (i := 1) (oi := ?ow24_1) (v := ?vw24_1) (m' := 3) ?hw24_1 (by kernel_rfl) (by kernel_rfl) (fun _ _ _ h => h) (Or.inl ⟨?sw24_1, ?yw24_1⟩) (by assumption) ?nw24_1
      case hw24_1 => simp only [List.getElem?_toArray, List.getElem?_cons_succ, List.getElem?_cons_zero]; rfl
      case sw24_1 => rfl
      case yw24_1 => (intro w hSw; (try dsimp only at hSw); go_simp <;> with_reducible rfl)
      try simp only [Act.put, List.setIfInBounds_toArray, List.set_cons_zero, List.set_cons_succ]
      refine hR.take (i := 2) (oi := ?ow25_2) (v := ?vw25_2) (m' := 7) ?hw25_2 (by kernel_rfl) (by kernel_rfl) (fun _ _ _ h => h) (Or.inl ⟨?sw25_2, ?yw25_2⟩) (by assumption) ?nw25_2
      case hw25_2 => simp only [List.getElem?_toArray, List.getElem?_cons_succ, List.getElem?_cons_zero]; rfl
      case sw25_2 => rfl
      case yw25_2 => (intro w hSw; (try dsimp only at hSw); go_simp <;> with_reducible rfl)
      try simp only [Act.put, List.setIfInBounds_toArray, List.set_cons_zero, List.set_cons_succ]
      refine hR.take (i := 3) (oi := ?ow26_3) (v := ?vw26_3) (m' := 15) ?hw26_3 (by kernel_rfl) (by kernel_rfl) (fun _ _ _ h => h) (Or.inl ⟨?sw26_3, ?yw26_3⟩) (by assumption) ?nw26_3
      case hw26_3 => simp only [List.getElem?_toArray, List.getElem?_cons_succ, List.getElem?_cons_zero]; rfl
      case sw26_3 => rfl
      case yw26_3 => (intro w hSw; (try dsimp only at hSw); go_simp <;> with_reducible rfl)
      try simp only [Act.put, List.setIfInBounds_toArray, List.set_cons_zero, List.set_cons_succ]
      refine hR.take (i := 4) (oi := ?ow27_4) (v := ?vw27_4) (m' := 31) ?hw27_4 (by kernel_rfl) (by kernel_rfl) (fun _ _ _ h => h) (Or.inl ⟨?sw27_4, ?yw27_4⟩) (by assumption) ?nw27_4
      case hw27_4 => simp only [List.getElem?_toArray, List.getElem?_cons_succ, List.getElem?_cons_zero]; rfl
      case sw27_4 => rfl
      case yw27_4 => (intro w hSw; (try dsimp only at hSw); go_simp <;> with_reducible rfl)
      try simp only [Act.put, List.setIfInBounds_toArray, List.set_cons_zero, List.set_cons_succ]
      refine hR.take (i := 5) (oi := ?ow28_5) (v := ?vw28_5) (m' := 63) ?hw28_5 (by kernel_rfl) (by kernel_rfl) (fun _ _ _ h => h) (Or.inl ⟨?sw28_5, ?yw28_5⟩) (by assumption) ?nw28_5
      case hw28_5 => simp only [List.getElem?_toArray, List.getElem?_cons_succ, List.getElem?_cons_zero]; rfl
      case sw28_5 => rfl
      case yw28_5 => (intro w hSw; (try dsimp only at hSw); go_simp <;> with_reducible rfl)
      try simp only [Act.put, List.setIfInBounds_toArray, List.set_cons_zero, List.set_cons_succ]
      refine hR.take (i := 6) (oi := ?ow29_6) (v := ?vw29_6) (m' := 127) ?hw29_6 (by kernel_rfl) (by kernel_rfl) (fun _ _ _ h => h) (Or.inl ⟨?sw29_6, ?yw29_6⟩) (by assumption) ?nw29_6
      case hw29_6 => simp only [List.getElem?_toArray, List.getElem?_cons_succ, List.getElem?_cons_zero]; rfl
      case sw29_6 => rfl
      case yw29_6 => (intro w hSw; (try dsimp only at hSw); go_simp <;> with_reducible rfl)
      try simp only [Act.put, List.setIfInBounds_toArray, List.set_cons_zero, List.set_cons_succ]
      refine hR.come (rs := [7]) (by kernel_rfl) (by simp) ?_
      refine AllReadyH.cons (o := ?o30_7) ?h30_7 (fun K hK => ?kw30_7) AllReadyH.nil
      case h30_7 => simp only [List.getElem?_toArray, List.getElem?_cons_succ, List.getElem?_cons_zero]; rfl
      go_simp
      go_at_call 15; refine (sumsP (q := x) _).mono ?_; rintro e wA ⟨rfl, hA⟩; have hk := bc _ _ (by (first | with_reducible assumption | (with_reducible refine Below.drew ?_; with_reducible assumption) | (with_reducible refine ba _ _ ?_; with_reducible assumption) | (with_reducible refine Below.drew ?_; with_reducible refine ba _ _ ?_; with_reducible assumption) | exact Below.refl _ _ | exact (Below.refl _ _).drew | exact (Below.refl _ _).alloc (Nat.le_refl _) _ | (refine bc _ _ (by assumption) (by assumption)))) hA; clear hA
      refine hK.out _ _ ?_ (fun hHeld => ?_)
      · (first | with_reducible assumption | (with_reducible refine Below.drew ?_; with_reducible assumption) | (with_reducible refine ba _ _ ?_; with_reducible assumption) | (with_reducible refine Below.drew ?_; with_reducible refine ba _ _ ?_; with_reducible assumption) | exact Below.refl _ _ | exact (Below.refl _ _).drew | exact (Below.refl _ _).alloc (Nat.le_refl _) _ | (refine bc _ _ (by assumption) (by assumption)))
      clear hK K
      refine RegOk.put_ (m' := 255) (by kernel_rfl) ?_
      try simp only [Act.put, List.setIfInBounds_toArray, List.set_cons_zero, List.set_cons_succ]
      refine hR.take (i := 8) (oi := ?ow31_8) (v := ?vw31_8) (m' := 511) ?hw31_8 (by kernel_rfl) (by kernel_rfl) (fun _ _ _ h => h) (Or.inl ⟨?sw31_8, ?yw31_8⟩) (by assumption) ?nw31_8
      case hw31_8 => simp only [List.getElem?_toArray, List.getElem?_cons_succ, List.getElem?_cons_zero]; rfl
      case sw31_8 => rfl
      case yw31_8 => (intro w hSw; (try dsimp only at hSw); go_simp <;> with_reducible rfl)
      try simp only [Act.put, List.setIfInBounds_toArray, List.set_cons_zero, List.set_cons_succ]
      refine hR.take (i := 9) (oi := ?ow32_9) (v := ?vw32_9) (m' := 1023) ?hw32_9 (by kernel_rfl) (by kernel_rfl) (fun _ _ _ h => h) (Or.inl ⟨?sw32_9, ?yw32_9⟩) (by assumption) ?nw32_9
      case hw32_9 => simp only [List.getElem?_toArray, List.getElem?_cons_succ, List.getElem?_cons_zero]; rfl
      case sw32_9 => rfl
      case yw32_9 => (intro w hSw; (try dsimp only at hSw); go_simp <;> with_reducible rfl)
      try simp only [Act.put, List.setIfInBounds_toArray, List.set_cons_zero, List.set_cons_succ]
      refine hR.take (i := 10) (oi := ?ow33_10) (v := ?vw33_10) (m' := 2047) ?hw33_10 (by kernel_rfl) (by kernel_rfl) (fun _ _ _ h => h) (Or.inl ⟨?sw33_10, ?yw33_10⟩) (by assumption) ?nw33_10
      case hw33_10 => simp only [List.getElem?_toArray, List.getElem?_cons_succ, List.getElem?_cons_zero]; rfl
      case sw33_10 => rfl
      case yw33_10 => (intro w hSw; (try dsimp only at hSw); go_simp <;> with_reducible rfl)
      try simp only [Act.put, List.setIfInBounds_toArray, List.set_cons_zero, List.set_cons_succ]
      refine hR.take (i := 11) (oi := ?ow34_11) (v := ?vw34_11) (m' := 4095) ?hw34_11 (by kernel_rfl) (by kernel_rfl) (fun _ _ _ h => h) (Or.inl ⟨?sw34_11, ?yw34_11⟩) (by assumption) ?nw34_11
      case hw34_11 => simp only [List.getElem?_toArray, List.getElem?_cons_succ, List.getElem?_cons_zero]; rfl
      case sw34_11 => rfl
      case yw34_11 => (intro w hSw; (try dsimp only at hSw); go_simp <;> with_reducible rfl)
      try simp only [Act.put, List.setIfInBounds_toArray, List.set_cons_zero, List.set_cons_succ]
      refine hR.take (i := 12) (oi := ?ow35_12) (v := ?vw35_12) (m' := 8191) ?hw35_12 (by kernel_rfl) (by kernel_rfl) (fun _ _ _ h => h) (Or.inl ⟨?sw35_12, ?yw35_12⟩) (by assumption) ?nw35_12
      case hw35_12 => simp only [List.getElem?_toArray, List.getElem?_cons_succ, List.getElem?_cons_zero]; rfl
      case sw35_12 => rfl
      case yw35_12 => (intro w hSw; (try dsimp only at hSw); go_simp <;> with_reducible rfl)
      try simp only [Act.put, List.setIfInBounds_toArray, List.set_cons_zero, List.set_cons_succ]
      refine hR.take (i := 13) (oi := ?ow36_13) (v := ?vw36_13) (m' := 16383) ?hw36_13 (by kernel_rfl) (by kernel_rfl) (fun _ _ _ h => h) (Or.inl ⟨?sw36_13, ?yw36_13⟩) (by assumption) ?nw36_13
      case hw36_13 => simp only [List.getElem?_toArray, List.getElem?_cons_succ, List.getElem?_cons_zero]; rfl
      case sw36_13 => rfl
      case yw36_13 => (intro w hSw; (try dsimp only at hSw); go_simp <;> with_reducible rfl)
      try simp only [Act.put, List.setIfInBounds_toArray, List.set_cons_zero, List.set_cons_succ]
      refine hR.take (i := 14) (oi := ?ow37_14) (v := ?vw37_14) (m' := 32767) ?hw37_14 (by kernel_rfl) (by kernel_rfl) (fun _ _ _ h => h) (Or.inl ⟨?sw37_14, ?yw37_14⟩) (by assumption) ?nw37_14
      case hw37_14 => simp only [List.getElem?_toArray, List.getElem?_cons_succ, List.getElem?_cons_zero]; rfl
      case sw37_14 => rfl
      case yw37_14 => (intro w hSw; (try dsimp only at hSw); go_simp <;> with_reducible rfl)
      try simp only [Act.put, List.setIfInBounds_toArray, List.set_cons_zero, List.set_cons_succ]
      refine hR.take (i := 15) (oi := ?ow38_15) (v := ?vw38_15) (m' := 65535) ?hw38_15 (by kernel_rfl) (by kernel_rfl) (fun _ _ _ h => h) (Or.inl ⟨?sw38_15, ?yw38_15⟩) (by assumption) ?nw38_15
      case hw38_15 => simp only [List.getElem?_toArray, List.getElem?_cons_succ, List.getElem?_cons_zero]; rfl
      case sw38_15 => rfl
      case yw38_15 => (intro w hSw; (try dsimp only at hSw); go_simp <;> with_reducible rfl)
      try simp only [Act.put, List.setIfInBounds_toArray, List.set_cons_zero, List.set_cons_succ]
      refine hR.take (i := 16) (oi := ?ow39_16) (v := ?vw39_16) (m' := 131071) ?hw39_16 (by kernel_rfl) (by kernel_rfl) (fun _ _ _ h => h) (Or.inl ⟨?sw39_16, ?yw39_16⟩) (by assumption) ?nw39_16
      case hw39_16 => simp only [List.getElem?_toArray, List.getElem?_cons_succ, List.getElem?_cons_zero]; rfl
      case sw39_16 => rfl
      case yw39_16 => (intro w hSw; (try dsimp only at hSw); go_simp <;> with_reducible rfl)
      try simp only [Act.put, List.setIfInBounds_toArray, List.set_cons_zero, List.set_cons_succ]
      refine hR.take (i := 17) (oi := ?ow40_17) (v := ?vw40_17) (m' := 262143) ?hw40_17 (by kernel_rfl) (by kernel_rfl) (fun _ _ _ h => h) (Or.inl ⟨?sw40_17, ?yw40_17⟩) (by assumption) ?nw40_17
      case hw40_17 => simp only [List.getElem?_toArray, List.getElem?_cons_succ, List.getElem?_cons_zero]; rfl
      case sw40_17 => rfl
      case yw40_17 => (intro w hSw; (try dsimp only at hSw); go_simp <;> with_reducible rfl)
      try simp only [Act.put, List.setIfInBounds_toArray, List.set_cons_zero, List.set_cons_succ]
      refine hR.take (i := 18) (oi := ?ow41_18) (v := ?vw41_18) (m' := 524287) ?hw41_18 (by kernel_rfl) (by kernel_rfl) (fun _ _ _ h => h) (Or.inr ⟨?sw41_18, ?yw41_18⟩) (by assumption) ?nw41_18
      case hw41_18 => simp only [List.getElem?_toArray, List.getElem?_cons_succ, List.getElem?_cons_zero]; rfl
      case sw41_18 => rfl
      case yw41_18 => rfl
      try simp only [Act.put, List.setIfInBounds_toArray, List.set_cons_zero, List.set_cons_succ]
      refine hR.take (i := 19) (oi := ?ow42_19) (v := ?vw42_19) (m' := 1048575) ?hw42_19 (by kernel_rfl) (by kernel_rfl) (fun _ _ _ h => h) (Or.inr ⟨?sw42_19, ?yw42_19⟩) (by assumption) ?nw42_19
      case hw42_19 => simp only [List.getElem?_toArray, List.getElem?_cons_succ, List.getElem?_cons_zero]; rfl
      case sw42_19 => rfl
      case yw42_19 => rfl
      try simp only [Act.put, List.setIfInBounds_toArray, List.set_cons_zero, List.set_cons_succ]
      refine hR.take (i := 20) (oi := ?ow43_20) (v := ?vw43_20) (m' := 2097151) ?hw43_20 (by kernel_rfl) (by kernel_rfl) (fun _ _ _ h => h) (Or.inl ⟨?sw43_20, ?yw43_20⟩) (by assumption) ?nw43_20
      case hw43_20 => simp only [List.getElem?_toArray, List.getElem?_cons_succ, List.getElem?_cons_zero]; rfl
      case sw43_20 => rfl
      case yw43_20 => (intro w hSw; (try dsimp only at hSw); go_simp <;> with_reducible rfl)
      try simp only [Act.put, List.setIfInBounds_toArray, List.set_cons_zero, List.set_cons_succ]
      refine hR.take (i := 21) (oi := ?ow44_21) (v := ?vw44_21) (m' := 4194303) ?hw44_21 (by kernel_rfl) (by kernel_rfl) (fun _ _ _ h => h) (Or.inl ⟨?sw44_21, ?yw44_21⟩) (by assumption) ?nw44_21
      case hw44_21 => simp only [List.getElem?_toArray, List.getElem?_cons_succ, List.getElem?_cons_zero]; rfl
      case sw44_21 => rfl
      case yw44_21 => (intro w hSw; (try dsimp only at hSw); go_simp <;> with_reducible rfl)
      try simp only [Act.put, List.setIfInBounds_toArray, List.set_cons_zero, List.set_cons_succ]
      refine hR.all (by kernel_rfl) ?_ _
      refine NoPanic.normal ?_
      go_wp2_with fail
      go_meet
      exact ⟨rfl, rfl, by rw [E6.out, e6]; rfl, by assumption⟩
    · have hk1 : (0 : Int) < (k : Int) := by omega
      rw [E5.out, E6.out, e6, e5]
      simp only [if_true]
      go_upto_region 6 with fail
      refine wp_region_noPanic ?_
      refine wp_region_held_drew (S := fun X => Below w6.heap.size w6 X) (by kernel_rfl) ?_ (fun hHeld => ?_)
      · (first | with_reducible assumption | (with_reducible refine Below.drew ?_; with_reducible assumption) | (with_reducible refine ba _ _ ?_; with_reducible assumption) | (with_reducible refine Below.drew ?_; with_reducible refine ba _ _ ?_; with_reducible assumption) | exact Below.refl _ _ | exact (Below.refl _ _).drew | exact (Below.refl _ _).alloc (Nat.le_refl _) _ | (refine bc _ _ (by assumption) (by assumption)))
      refine RegOk.begin_ (n := 22) (T := qL3T) ⟨by kernel_rfl, by kernel_rfl, by kernel_rfl, by kernel_rfl⟩ fun hR => ?_
      refine hR.take (i := 0) (oi := ?ow45_0) (v := ?vw45_0) (m' := 1) ?hw45_0 (by kernel_rfl) (by kernel_rfl) (fun _ _ _ h => h) (Or.inl ⟨?sw45_0, ?yw45_0⟩) (by assumption) ?nw45_0
      case hw45_0 => simp only [List.getElem?_toArray, List.getElem?_cons_succ, List.getElem?_cons_zero]; rfl
      case sw45_0 => rfl
      case yw45_0 => (intro w hSw; (try dsimp only at hSw); go_simp <;> with_reducible rfl)
      try simp only [Act.put, List.setIfInBounds_toArray, List.set_cons_zero, List.set_cons_succ]
      refine hR.take (i := 1) (oi := ?ow46_1) (v := ?vw46_1) (m' := 3) ?hw46_1 (by kernel_rfl) (by kernel_rfl) (fun _ _ _ h => h) (Or.inl ⟨?sw46_1, ?yw46_1⟩) (by assumption) ?nw46_1
      case hw46_1 => simp only [List.getElem?_toArray, List.getElem?_cons_succ, List.getElem?_cons_zero]; rfl
      case sw46_1 => rfl
      case yw46_1 => (intro w hSw; (try dsimp only at hSw); go_simp <;> with_reducible rfl)
      try simp only [Act.put, List.setIfInBounds_toArray, List.set_cons_zero, List.set_cons_succ]
      refine hR.take (i := 2) (oi := ?ow47_2) (v := ?vw47_2) (m' := 7) ?hw47_2 (by kernel_rfl) (by kernel_rfl) (fun _ _ _ h => h) (Or.inl ⟨?sw47_2, ?yw47_2⟩) (by assumption) ?nw47_2
      case hw47_2 => simp only [List.getElem?_toArray, List.getElem?_cons_succ, List.getElem?_cons_zero]; rfl
      case sw47_2 => rfl
      case yw47_2 => (intro w hSw; (try dsimp only at hSw); go_simp <;> with_reducible rfl)
      try simp only [Act.put, List.setIfInBounds_toArray, List.set_cons_zero, List.set_cons_succ]
      refine hR.take (i := 3) (oi := ?ow48_3) (v := ?vw48_3) (m' := 15) ?hw48_3 (by kernel_rfl) (by kernel_rfl) (fun _ _ _ h => h) (Or.inl ⟨?sw48_3, ?yw48_3⟩) (by assumption) ?nw48_3
      case hw48_3 => simp only [List.getElem?_toArray, List.getElem?_cons_succ, List.getElem?_cons_zero]; rfl
      case sw48_3 => rfl
      case yw48_3 => (intro w hSw; (try dsimp only at hSw); go_simp <;> with_reducible rfl)
      try simp only [Act.put, List.setIfInBounds_toArray, List.set_cons_zero, List.set_cons_succ]
      refine hR.take (i := 4) (oi := ?ow49_4) (v := ?vw49_4) (m' := 31) ?hw49_4 (by kernel_rfl) (by kernel_rfl) (fun _ _ _ h => h) (Or.inl ⟨?sw49_4, ?yw49_4⟩) (by assumption) ?nw49_4
      case hw49_4 => simp only [List.getElem?_toArray, List.getElem?_cons_succ, List.getElem?_cons_zero]; rfl
      case sw49_4 => rfl
      case yw49_4 => (intro w hSw; (try dsimp only at hSw); go_simp <;> with_reducible rfl)
      try simp only [Act.put, List.setIfInBounds_toArray, List.set_cons_zero, List.set_cons_succ]
      refine hR.take (i := 5) (oi := ?ow50_5) (v := ?vw50_5) (m' := 63) ?hw50_5 (by kernel_rfl) (by kernel_rfl) (fun _ _ _ h => h) (Or.inl ⟨?sw50_5, ?yw50_5⟩) (by assumption) ?nw50_5
      case hw50_5 => simp only [List.getElem?_toArray, List.getElem?_cons_succ, List.getElem?_cons_zero]; rfl
      case sw50_5 => rfl
      case yw50_5 => (intro w hSw; (try dsimp only at hSw); go_simp <;> with_reducible rfl)
      try simp only [Act.put, List.setIfInBounds_toArray, List.set_cons_zero, List.set_cons_succ]
      refine hR.take (i := 6) (oi := ?ow51_6) (v := ?vw51_6) (m' := 127) ?hw51_6 (by kernel_rfl) (by kernel_rfl) (fun _ _ _ h => h) (Or.inl ⟨?sw51_6, ?yw51_6⟩) (by assumption) ?nw51_6
      case hw51_6 => simp only [List.getElem?_toArray, List.getElem?_cons_succ, List.getElem?_cons_zero]; rfl
      case sw51_6 => rfl
      case yw51_6 => (intro w hSw; (try dsimp only at hSw); go_simp <;> with_reducible rfl)
      try simp only [Act.put, List.setIfInBounds_toArray, List.set_cons_zero, List.set_cons_succ]
      refine hR.come (rs := [7]) (by kernel_rfl) (by simp) ?_
      refine AllReadyH.cons (o := ?o52_7) ?h52_7 (fun K hK => ?kw52_7) AllReadyH.nil
      case h52_7 => simp only [List.getElem?_toArray, List.getElem?_cons_succ, List.getElem?_cons_zero]; rfl
      go_simp
      go_at_call 15; refine (sumsP (q := x) _).mono ?_; rintro e wA ⟨rfl, hA⟩; have hk := bc _ _ (by (first | with_reducible assumption | (with_reducible refine Below.drew ?_; with_reducible assumption) | (with_reducible refine ba _ _ ?_; with_reducible assumption) | (with_reducible refine Below.drew ?_; with_reducible refine ba _ _ ?_; with_reducible assumption) | exact Below.refl _ _ | exact (Below.refl _ _).drew | exact (Below.refl _ _).alloc (Nat.le_refl _) _ | (refine bc _ _ (by assumption) (by assumption)))) hA; clear hA
      refine hK.out _ _ ?_ (fun hHeld => ?_)
      · (first | with_reducible assumption | (with_reducible refine Below.drew ?_; with_reducible assumption) | (with_reducible refine ba _ _ ?_; with_reducible assumption) | (with_reducible refine Below.drew ?_; with_reducible refine ba _ _ ?_; with_reducible assumption) | exact Below.refl _ _ | exact (Below.refl _ _).drew | exact (Below.refl _ _).alloc (Nat.le_refl _) _ | (refine bc _ _ (by assumption) (by assumption)))
      clear hK K
      refine RegOk.put_ (m' := 255) (by kernel_rfl) ?_
      try simp only [Act.put, List.setIfInBounds_toArray, List.set_cons_zero, List.set_cons_succ]
      refine hR.take (i := 8) (oi := ?ow53_8) (v := ?vw53_8) (m' := 511) ?hw53_8 (by kernel_rfl) (by kernel_rfl) (fun _ _ _ h => h) (Or.inl ⟨?sw53_8, ?yw53_8⟩) (by assumption) ?nw53_8
      case hw53_8 => simp only [List.getElem?_toArray, List.getElem?_cons_succ, List.getElem?_cons_zero]; rfl
      case sw53_8 => rfl
      case yw53_8 => (intro w hSw; (try dsimp only at hSw); go_simp <;> with_reducible rfl)
      try simp only [Act.put, List.setIfInBounds_toArray, List.set_cons_zero, List.set_cons_succ]
      refine hR.take (i := 9) (oi := ?ow54_9) (v := ?vw54_9) (m' := 1023) ?hw54_9 (by kernel_rfl) (by kernel_rfl) (fun _ _ _ h => h) (Or.inl ⟨?sw54_9, ?yw54_9⟩) (by assumption) ?nw54_9
      case hw54_9 => simp only [List.getElem?_toArray, List.getElem?_cons_succ, List.getElem?_cons_zero]; rfl
      case sw54_9 => rfl
      case yw54_9 => (intro w hSw; (try dsimp only at hSw); go_simp <;> with_reducible rfl)
      try simp only [Act.put, List.setIfInBounds_toArray, List.set_cons_zero, List.set_cons_succ]
      refine hR.take (i := 10) (oi := ?ow55_10) (v := ?vw55_10) (m' := 2047) ?hw55_10 (by kernel_rfl) (by kernel_rfl) (fun _ _ _ h => h) (Or.inl ⟨?sw55_10, ?yw55_10⟩) (by assumption) ?nw55_10
      case hw55_10 => simp only [List.getElem?_toArray, List.getElem?_cons_succ, List.getElem?_cons_zero]; rfl
      case sw55_10 => rfl
      case yw55_10 => (intro w hSw; (try dsimp only at hSw); go_simp <;> with_reducible rfl)
      try simp only [Act.put, List.setIfInBounds_toArray, List.set_cons_zero, List.set_cons_succ]
      refine hR.take (i := 11) (oi := ?ow56_11) (v := ?vw56_11) (m' := 4095) ?hw56_11 (by kernel_rfl) (by kernel_rfl) (fun _ _ _ h => h) (Or.inl ⟨?sw56_11, ?yw56_11⟩) (by assumption) ?nw56_11
      case hw56_11 => simp only [List.getElem?_toArray, List.getElem?_cons_succ, List.getElem?_cons_zero]; rfl
      case sw56_11 => rfl
      case yw56_11 => (intro w hSw; (try dsimp only at hSw); go_simp <;> with_reducible rfl)
      try simp only [Act.put, List.setIfInBounds_toArray, List.set_cons_zero, List.set_cons_succ]
      refine hR.take (i := 12) (oi := ?ow57_12) (v := ?vw57_12) (m' := 8191) ?hw57_12 (by kernel_rfl) (by kernel_rfl) (fun _ _ _ h => h) (Or.inl ⟨?sw57_12, ?yw57_12⟩) (by assumption) ?nw57_12
      case hw57_12 => simp only [List.getElem?_toArray, List.getElem?_cons_succ, List.getElem?_cons_zero]; rfl
      case sw57_12 => rfl
      case yw57_12 => (intro w hSw; (try dsimp only at hSw); go_simp <;> with_reducible rfl)
      try simp only [Act.put, List.setIfInBounds_toArray, List.set_cons_zero, List.set_cons_succ]
      refine hR.take (i := 13) (oi := ?ow58_13) (v := ?vw58_13) (m' := 16383) ?hw58_13 (by kernel_rfl) (by kernel_rfl) (fun _ _ _ h => h) (Or.inl ⟨?sw58_13, ?yw58_13⟩) (by assumption) ?nw58_13
      case hw58_13 => simp only [List.getElem?_toArray, List.getElem?_cons_succ, List.getElem?_cons_zero]; rfl
      case sw58_13 => rfl
      case yw58_13 => (intro w hSw; (try dsimp only at hSw); go_simp <;> with_reducible rfl)
      try simp only [Act.put, List.setIfInBounds_toArray, List.set_cons_zero, List.set_cons_succ]
      refine hR.take (i := 14) (oi := ?ow59_14) (v := ?vw59_14) (m' := 32767) ?hw59_14 (by kernel_rfl) (by kernel_rfl) (fun _ _ _ h => h) (Or.inl ⟨?sw59_14, ?yw59_14⟩) (by assumption) ?nw59_14
      case hw59_14 => simp only [List.getElem?_toArray, List.getElem?_cons_succ, List.getElem?_cons_zero]; rfl
      case sw59_14 => rfl
      case yw59_14 => (intro w hSw; (try dsimp only at hSw); go_simp <;> with_reducible rfl)
      try simp only [Act.put, List.setIfInBounds_toArray, List.set_cons_zero, List.set_cons_succ]
      refine hR.take (i := 15) (oi := ?ow60_15) (v := ?vw60_15) (m' := 65535) ?hw60_15 (by kernel_rfl) (by kernel_rfl) (fun _ _ _ h => h) (Or.inl ⟨?sw60_15, ?yw60_15⟩) (by assumption) ?nw60_15
      case hw60_15 => simp only [List.getElem?_toArray, List.getElem?_cons_succ, List.getElem?_cons_zero]; rfl
      case sw60_15 => rfl
      case yw60_15 => (intro w hSw; (try dsimp only at hSw); go_simp <;> with_reducible rfl)
      try simp only [Act.put, List.setIfInBounds_toArray, List.set_cons_zero, List.set_cons_succ]
      refine hR.take (i := 16) (oi := ?ow61_16) (v := ?vw61_16) (m' := 131071) ?hw61_16 (by kernel_rfl) (by kernel_rfl) (fun _ _ _ h => h) (Or.inl ⟨?sw61_16, ?yw61_16⟩) (by assumption) ?nw61_16
      case hw61_16 => simp only [List.getElem?_toArray, List.getElem?_cons_succ, List.getElem?_cons_zero]; rfl
      case sw61_16 => rfl
      case yw61_16 => (intro w hSw; (try dsimp only at hSw); go_simp <;> with_reducible rfl)
      try simp only [Act.put, List.setIfInBounds_toArray, List.set_cons_zero, List.set_cons_succ]
      refine hR.take (i := 17) (oi := ?ow62_17) (v := ?vw62_17) (m' := 262143) ?hw62_17 (by kernel_rfl) (by kernel_rfl) (fun _ _ _ h => h) (Or.inl ⟨?sw62_17, ?yw62_17⟩) (by assumption) ?nw62_17
      case hw62_17 => simp only [List.getElem?_toArray, List.getElem?_cons_succ, List.getElem?_cons_zero]; rfl
      case sw62_17 => rfl
      case yw62_17 => (intro w hSw; (try dsimp only at hSw); go_simp <;> with_reducible rfl)
      try simp only [Act.put, List.setIfInBounds_toArray, List.set_cons_zero, List.set_cons_succ]
      refine hR.take (i := 18) (oi := ?ow63_18) (v := ?vw63_18) (m' := 524287) ?hw63_18 (by kernel_rfl) (by kernel_rfl) (fun _ _ _ h => h) (Or.inl ⟨?sw63_18, ?yw63_18⟩) (by assumption) ?nw63_18
      case hw63_18 => simp only [List.getElem?_toArray, List.getElem?_cons_succ, List.getElem?_cons_zero]; rfl
      case sw63_18 => rfl
      case yw63_18 => (intro w hSw; (try dsimp only at hSw); go_simp <;> with_reducible rfl)
      try simp only [Act.put, List.setIfInBounds_toArray, List.set_cons_zero, List.set_cons_succ]
      refine hR.take (i := 19) (oi := ?ow64_19) (v := ?vw64_19) (m' := 1048575) ?hw64_19 (by kernel_rfl) (by kernel_rfl) (fun _ _ _ h => h) (Or.inl ⟨?sw64_19, ?yw64_19⟩) (by assumption) ?nw64_19
      case hw64_19 => simp only [List.getElem?_toArray, List.getElem?_cons_succ, List.getElem?_cons_zero]; rfl
      case sw64_19 => rfl
      case yw64_19 => (intro w hSw; (try dsimp only at hSw); go_simp <;> with_reducible rfl)
      try simp only [Act.put, List.setIfInBounds_toArray, List.set_cons_zero, List.set_cons_succ]
      refine hR.take (i := 20) (oi := ?ow65_20) (v := ?vw65_20) (m' := 2097151) ?hw65_20 (by kernel_rfl) (by kernel_rfl) (fun _ _ _ h => h) (Or.inl ⟨?sw65_20, ?yw65_20⟩) (by assumption) ?nw65_20
      case hw65_20 => simp only [List.getElem?_toArray, List.getElem?_cons_succ, List.getElem?_cons_zero]; rfl
      case sw65_20 => rfl
      case yw65_20 => (intro w hSw; (try dsimp only at hSw); go_simp <;> with_reducible rfl)
      try simp only [Act.put, List.setIfInBounds_toArray, List.set_cons_zero, List.set_cons_succ]
      refine hR.take (i := 21) (oi := ?ow66_21) (v := ?vw66_21) (m' := 4194303) ?hw66_21 (by kernel_rfl) (by kernel_rfl) (fun _ _ _ h => h) (Or.inl ⟨?sw66_21, ?yw66_21⟩) (by assumption) ?nw66_21
      case hw66_21 => simp only [List.getElem?_toArray, List.getElem?_cons_succ, List.getElem?_cons_zero]; rfl
      case sw66_21 => rfl
      case yw66_21 => (intro w hSw; (try dsimp only at hSw); go_simp <;> with_reducible rfl)
      try simp only [Act.put, List.setIfInBounds_toArray, List.set_cons_zero, List.set_cons_succ]
      refine hR.all (by kernel_rfl) ?_ _
      refine NoPanic.normal ?_
      go_wp2_with fail
      go_meet
      exact ⟨rfl, by rw [E5.out, e5]; rfl, by rw [E6.out, e6]; rfl, by assumption⟩
  obtain ⟨rfl, rfl, rfl, hb7⟩ := hcut
  have hk7 : k ≤ 255 := by omega
  go_wp2_with fail
  go_loopw [15] (fun i wr => ∃ v : Nat, v ≤ L ∧ i = .int .i64 v ∧ Hid (Below w6.heap.size w6 wr)) (fun i _ => L - (intOf i).toNat)
  case atStart => exact ⟨0, Nat.zero_le _, rfl, Lib.hid hb7⟩
  case round =>
    clear hb7
    obtain ⟨v, hv, rfl, hbr⟩ := hrel
    have hkr := hbr.out
    have hv0 : (0 : Int) ≤ (v : Int) := by omega
    by_cases hlt : v < L
    · have hv1 : (v : Int) < (L : Int) := by omega
      obtain ⟨b8, o8, rfl, -, l8, v8⟩ := i64_at (S4.out.keep (Below.agree hkr)) (i := v) (r := 0) (by rw [bound_at HV.out.head.1.1 HV.out.head.1.2 (by rw [← HLS.out]; exact hv1), Int.zero_mul])
      go_wp2_with fail
      go_roundw
      case rel => exact ⟨v + 1, by omega, by go_num, hbr⟩
      case measure => simp [intOf]; omega
    · have hv1 : ¬ (v : Int) < (L : Int) := by omega
      go_wp2_with fail
      clear hlt hv1 hv hv0 z4 hm4
      have e5 := E5.out
      have e6 := E6.out
      cases hok5 : ok5 with
      | false =>
        rw [hok5, if_neg (by simp)] at e5
        cases hok6 : ok6 with
        | false =>
          rw [hok6, if_neg (by simp)] at e6
          (subst e5; subst e6; go_loopw [16] (fun i wx => i = .int .i64 0 ∧ Hid (wx = wr)) (fun _ _ => 0); (case atStart => exact ⟨rfl, Lib.hid rfl⟩); (case round => (obtain ⟨rfl, hwx⟩ := hrel; obtain rfl := hwx.out; go_wp2_with fail; go_ret; exact ⟨rfl, b6.out.trans (hkr.mono b6.out.size)⟩)))
        | true =>
          rw [hok6, if_pos rfl] at e6
          (subst e5; subst e6; go_loopw [16] (fun i wx => i = .int .i64 0 ∧ Hid (wx = wr)) (fun _ _ => 0); (case atStart => exact ⟨rfl, Lib.hid rfl⟩); (case round => (obtain ⟨rfl, hwx⟩ := hrel; obtain rfl := hwx.out; go_wp2_with fail; go_ret; exact ⟨rfl, b6.out.trans (hkr.mono b6.out.size)⟩)))
      | true =>
        rw [hok5, if_pos rfl] at e5
        cases hok6 : ok6 with
        | false =>
          rw [hok6, if_neg (by simp)] at e6
          (subst e5; subst e6; go_loopw [16] (fun i wx => i = .int .i64 0 ∧ Hid (wx = wr)) (fun _ _ => 0); (case atStart => exact ⟨rfl, Lib.hid rfl⟩); (case round => (obtain ⟨rfl, hwx⟩ := hrel; obtain rfl := hwx.out; go_wp2_with fail; go_ret; exact ⟨rfl, b6.out.trans (hkr.mono b6.out.size)⟩)))
        | true =>
          rw [hok6, if_pos rfl] at e6
          subst e5
          subst e6
          have OK6 := Lib.hid (O6.out.trans hok6)
          obtain ⟨B5, d5, y5, s5⟩ := X5.out
          obtain ⟨B6, d6, y6, s6⟩ := X6.out
          rw [HLN.out] at y5 y6
          have Y5 := Lib.hid y5
          have Y6 := Lib.hid y6
          have S5 := Lib.hid s5
          have S6 := Lib.hid s6
          have z5 : ∀ W, Below w6.heap.size w6 W → _ ∧ _ ∧ _ := fun W hW => one (mvQ Y5 hW)
          have z6 : ∀ W, Below w6.heap.size w6 W → _ ∧ _ ∧ _ := fun W hW => one (mvQ Y6 hW)
          have hm5 := s5.max
          rw [HLN.out] at hm5
          clear y5 y6 s5 s6 X5 X6 hok5 hok6
          go_loopw [16] (fun i wx => ∃ v : Nat, v ≤ L ∧ i = .int .i64 v ∧ Hid (Below w6.heap.size w6 wx)) (fun i _ => L - (intOf i).toNat)
          case atStart => exact ⟨0, Nat.zero_le _, rfl, hbr⟩
          case round =>
            obtain ⟨v, hv, rfl, hbx⟩ := hrel
            have hkx := hbx.out
            clear hkr
            have hv0 : (0 : Int) ≤ (v : Int) := by omega
            by_cases hlt : v < L
            · have hv1 : (v : Int) < (L : Int) := by omega
              have hv2 : ¬ (L : Int) ≤ (v : Int) := by omega
              have hvs : (v : Int) < sumsC x.kind := by rw [← HLS.out]; exact hv1
              obtain ⟨a, ha⟩ : ∃ a, (n : Int) * capF x v = a := ⟨_, rfl⟩
              obtain ⟨b, hb⟩ : ∃ b, (nk : Int) * capF x v = b := ⟨_, rfl⟩
              have hab : a * (k : Int) = b := by rw [← ha, ← hb, ← hnk1, Int.mul_assoc, Int.mul_assoc, Int.mul_comm (capF x v)]
              have hbl := bound_lt HV.out (n := nk) (by omega) (by omega) OK6.out hvs
              rw [hb] at hbl
              obtain ⟨b7, o7, rfl, -, l7, v7⟩ := i64_at S5.out (i := v) (r := a) (by rw [bound_at HV.out.head.1.1 HV.out.head.1.2 hvs, ha])
              obtain ⟨b8, o8, rfl, -, l8, v8⟩ := i64_at S6.out (i := v) (r := b) (by rw [bound_at HV.out.head.1.1 HV.out.head.1.2 hvs, hb])
              have zv : ∀ W, Below w6.heap.size w6 W → W.cell? ⟨b7, o7 + v, none⟩ = some (.int .i64 a) ∧ W.cell? ⟨b8, o8 + v, none⟩ = some (.int .i64 b) := fun W hW => ⟨(hW.cell (p := ⟨b7, _, none⟩) l7).trans v7, (hW.cell (p := ⟨b8, _, none⟩) l8).trans v8⟩
              have hwb : IntKind.i64.wrap b = b := IntWalk.i64_in _ (by omega)
              have hwk : IntKind.i64.wrap (k : Int) = k := IntWalk.i64_in _ (by omega)
              clear ha hb hnk1 hvs
              go_upto_region 16 with fail
              refine wp_region_noPanic ?_
              refine wp_region_held_drew (S := fun X => Below w6.heap.size w6 X) (by kernel_rfl) ?_ (fun hHeld => ?_)
              · (first | with_reducible assumption | (with_reducible refine Below.drew ?_; with_reducible assumption) | (with_reducible refine ba _ _ ?_; with_reducible assumption) | (with_reducible refine Below.drew ?_; with_reducible refine ba _ _ ?_; with_reducible assumption) | exact Below.refl _ _ | exact (Below.refl _ _).drew | exact (Below.refl _ _).alloc (Nat.le_refl _) _ | (refine bc _ _ (by assumption) (by assumption)))
              refine RegOk.begin_ (n := 21) (T := qL3U) ⟨by kernel_rfl, by kernel_rfl, by kernel_rfl, by kernel_rfl⟩ fun hR => ?_
              refine hR.take (i := 0) (oi := ?ow67_0) (v := ?vw67_0) (m' := 1) ?hw67_0 (by kernel_rfl) (by kernel_rfl) (fun _ _ _ h => h) (Or.inl ⟨?sw67_0, ?yw67_0⟩) (by assumption) ?nw67_0
              case hw67_0 => simp only [List.getElem?_toArray, List.getElem?_cons_succ, List.getElem?_cons_zero]; rfl
              case sw67_0 => rfl
              case yw67_0 => (intro w hSw; (try dsimp only at hSw); go_simp <;> with_reducible rfl)
              try simp only [Act.put, List.setIfInBounds_toArray, List.set_cons_zero, List.set_cons_succ]
              refine hR.take (i := 1) (oi := ?ow68_1) (v := ?vw68_1) (m' := 3) ?hw68_1 (by kernel_rfl) (by kernel_rfl) (fun _ _ _ h => h) (Or.inl ⟨?sw68_1, ?yw68_1⟩) (by assumption) ?nw68_1
              case hw68_1 => simp only [List.getElem?_toArray, List.getElem?_cons_succ, List.getElem?_cons_zero]; rfl
              case sw68_1 => rfl
              case yw68_1 => (intro w hSw; (try dsimp only at hSw); go_simp <;> with_reducible rfl)
              try simp only [Act.put, List.setIfInBounds_toArray, List.set_cons_zero, List.set_cons_succ]
              refine hR.take (i := 2) (oi := ?ow69_2) (v := ?vw69_2) (m' := 7) ?hw69_2 (by kernel_rfl) (by kernel_rfl) (fun _ _ _ h => h) (Or.inl ⟨?sw69_2, ?yw69_2⟩) (by assumption) ?nw69_2
              case hw69_2 => simp only [List.getElem?_toArray, List.getElem?_cons_succ, List.getElem?_cons_zero]; rfl
              case sw69_2 => rfl
              case yw69_2 => (intro w hSw; (try dsimp only at hSw); go_simp <;> with_reducible rfl)
              try simp only [Act.put, List.setIfInBounds_toArray, List.set_cons_zero, List.set_cons_succ]
              refine hR.take (i := 3) (oi := ?ow70_3) (v := ?vw70_3) (m' := 15) ?hw70_3 (by kernel_rfl) (by kernel_rfl) (fun _ _ _ h => h) (Or.inl ⟨?sw70_3, ?yw70_3⟩) (by assumption) ?nw70_3
              case hw70_3 => simp only [List.getElem?_toArray, List.getElem?_cons_succ, List.getElem?_cons_zero]; rfl
              case sw70_3 => rfl
              case yw70_3 => (intro w hSw; (try dsimp only at hSw); go_simp <;> with_reducible rfl)
              try simp only [Act.put, List.setIfInBounds_toArray, List.set_cons_zero, List.set_cons_succ]
              refine hR.take (i := 4) (oi := ?ow71_4) (v := ?vw71_4) (m' := 31) ?hw71_4 (by kernel_rfl) (by kernel_rfl) (fun _ _ _ h => h) (Or.inl ⟨?sw71_4, ?yw71_4⟩) (by assumption) ?nw71_4
              case hw71_4 => simp only [List.getElem?_toArray, List.getElem?_cons_succ, List.getElem?_cons_zero]; rfl
              case sw71_4 => rfl
              case yw71_4 => (intro w hSw; (try dsimp only at hSw); go_simp <;> with_reducible rfl)
              try simp only [Act.put, List.setIfInBounds_toArray, List.set_cons_zero, List.set_cons_succ]
              refine hR.take (i := 5) (oi := ?ow72_5) (v := ?vw72_5) (m' := 63) ?hw72_5 (by kernel_rfl) (by kernel_rfl) (fun _ _ _ h => h) (Or.inl ⟨?sw72_5, ?yw72_5⟩) (by assumption) ?nw72_5
              case hw72_5 => simp only [List.getElem?_toArray, List.getElem?_cons_succ, List.getElem?_cons_zero]; rfl
              case sw72_5 => rfl
              case yw72_5 => (intro w hSw; (try dsimp only at hSw); go_simp <;> with_reducible rfl)
              try simp only [Act.put, List.setIfInBounds_toArray, List.set_cons_zero, List.set_cons_succ]
              refine hR.take (i := 6) (oi := ?ow73_6) (v := ?vw73_6) (m' := 127) ?hw73_6 (by kernel_rfl) (by kernel_rfl) (fun _ _ _ h => h) (Or.inl ⟨?sw73_6, ?yw73_6⟩) (by assumption) ?nw73_6
              case hw73_6 => simp only [List.getElem?_toArray, List.getElem?_cons_succ, List.getElem?_cons_zero]; rfl
              case sw73_6 => rfl
              case yw73_6 => (intro w hSw; (try dsimp only at hSw); go_simp <;> with_reducible rfl)
              try simp only [Act.put, List.setIfInBounds_toArray, List.set_cons_zero, List.set_cons_succ]
              refine hR.take (i := 7) (oi := ?ow74_7) (v := ?vw74_7) (m' := 255) ?hw74_7 (by kernel_rfl) (by kernel_rfl) (fun _ _ _ h => h) (Or.inl ⟨?sw74_7, ?yw74_7⟩) (by assumption) ?nw74_7
              case hw74_7 => simp only [List.getElem?_toArray, List.getElem?_cons_succ, List.getElem?_cons_zero]; rfl
              case sw74_7 => rfl
              case yw74_7 => (intro w hSw; (try dsimp only at hSw); go_simp <;> with_reducible rfl)
              try simp only [Act.put, List.setIfInBounds_toArray, List.set_cons_zero, List.set_cons_succ]
              refine hR.take (i := 8) (oi := ?ow75_8) (v := ?vw75_8) (m' := 511) ?hw75_8 (by kernel_rfl) (by kernel_rfl) (fun _ _ _ h => h) (Or.inl ⟨?sw75_8, ?yw75_8⟩) (by assumption) ?nw75_8
              case hw75_8 => simp only [List.getElem?_toArray, List.getElem?_cons_succ, List.getElem?_cons_zero]; rfl
              case sw75_8 => rfl
              case yw75_8 => (intro w hSw; (try dsimp only at hSw); go_simp <;> with_reducible rfl)
              try simp only [Act.put, List.setIfInBounds_toArray, List.set_cons_zero, List.set_cons_succ]
              refine hR.take (i := 9) (oi := ?ow76_9) (v := ?vw76_9) (m' := 1023) ?hw76_9 (by kernel_rfl) (by kernel_rfl) (fun _ _ _ h => h) (Or.inl ⟨?sw76_9, ?yw76_9⟩) (by assumption) ?nw76_9
              case hw76_9 => simp only [List.getElem?_toArray, List.getElem?_cons_succ, List.getElem?_cons_zero]; rfl
              case sw76_9 => rfl
              case yw76_9 => (intro w hSw; (try dsimp only at hSw); go_simp <;> with_reducible rfl)
              try simp only [Act.put, List.setIfInBounds_toArray, List.set_cons_zero, List.set_cons_succ]
              refine hR.take (i := 10) (oi := ?ow77_10) (v := ?vw77_10) (m' := 2047) ?hw77_10 (by kernel_rfl) (by kernel_rfl) (fun _ _ _ h => h) (Or.inl ⟨?sw77_10, ?yw77_10⟩) (by assumption) ?nw77_10
              case hw77_10 => simp only [List.getElem?_toArray, List.getElem?_cons_succ, List.getElem?_cons_zero]; rfl
              case sw77_10 => rfl
              case yw77_10 => (intro w hSw; (try dsimp only at hSw); go_simp <;> with_reducible rfl)
              try simp only [Act.put, List.setIfInBounds_toArray, List.set_cons_zero, List.set_cons_succ]
              refine hR.take (i := 11) (oi := ?ow78_11) (v := ?vw78_11) (m' := 4095) ?hw78_11 (by kernel_rfl) (by kernel_rfl) (fun _ _ _ h => h) (Or.inl ⟨?sw78_11, ?yw78_11⟩) (by assumption) ?nw78_11
              case hw78_11 => simp only [List.getElem?_toArray, List.getElem?_cons_succ, List.getElem?_cons_zero]; rfl
              case sw78_11 => rfl
              case yw78_11 => (intro w hSw; (try dsimp only at hSw); go_simp <;> with_reducible rfl)
              try simp only [Act.put, List.setIfInBounds_toArray, List.set_cons_zero, List.set_cons_succ]
              refine hR.take (i := 12) (oi := ?ow79_12) (v := ?vw79_12) (m' := 8191) ?hw79_12 (by kernel_rfl) (by kernel_rfl) (fun _ _ _ h => h) (Or.inl ⟨?sw79_12, ?yw79_12⟩) (by assumption) ?nw79_12
              case hw79_12 => simp only [List.getElem?_toArray, List.getElem?_cons_succ, List.getElem?_cons_zero]; rfl
              case sw79_12 => rfl
              case yw79_12 => (intro w hSw; (try dsimp only at hSw); go_simp <;> with_reducible rfl)
              try simp only [Act.put, List.setIfInBounds_toArray, List.set_cons_zero, List.set_cons_succ]
              refine hR.take (i := 13) (oi := ?ow80_13) (v := ?vw80_13) (m' := 16383) ?hw80_13 (by kernel_rfl) (by kernel_rfl) (fun _ _ _ h => h) (Or.inl ⟨?sw80_13, ?yw80_13⟩) (by assumption) ?nw80_13
              case hw80_13 => simp only [List.getElem?_toArray, List.getElem?_cons_succ, List.getElem?_cons_zero]; rfl
              case sw80_13 => rfl
              case yw80_13 => (intro w hSw; (try dsimp only at hSw); go_simp <;> with_reducible rfl)
              try simp only [Act.put, List.setIfInBounds_toArray, List.set_cons_zero, List.set_cons_succ]
              refine hR.take (i := 14) (oi := ?ow81_14) (v := ?vw81_14) (m' := 32767) ?hw81_14 (by kernel_rfl) (by kernel_rfl) (fun _ _ _ h => h) (Or.inl ⟨?sw81_14, ?yw81_14⟩) (by assumption) ?nw81_14
              case hw81_14 => simp only [List.getElem?_toArray, List.getElem?_cons_succ, List.getElem?_cons_zero]; rfl
              case sw81_14 => rfl
              case yw81_14 => (intro w hSw; (try dsimp only at hSw); go_simp <;> with_reducible rfl)
              try simp only [Act.put, List.setIfInBounds_toArray, List.set_cons_zero, List.set_cons_succ]
              refine hR.take (i := 15) (oi := ?ow82_15) (v := ?vw82_15) (m' := 65535) ?hw82_15 (by kernel_rfl) (by kernel_rfl) (fun _ _ _ h => h) (Or.inl ⟨?sw82_15, ?yw82_15⟩) (by assumption) ?nw82_15
              case hw82_15 => simp only [List.getElem?_toArray, List.getElem?_cons_succ, List.getElem?_cons_zero]; rfl
              case sw82_15 => rfl
              case yw82_15 => (intro w hSw; (try dsimp only at hSw); go_simp <;> with_reducible rfl)
              try simp only [Act.put, List.setIfInBounds_toArray, List.set_cons_zero, List.set_cons_succ]
              refine hR.take (i := 16) (oi := ?ow83_16) (v := ?vw83_16) (m' := 131071) ?hw83_16 (by kernel_rfl) (by kernel_rfl) (fun _ _ _ h => h) (Or.inl ⟨?sw83_16, ?yw83_16⟩) (by assumption) ?nw83_16
              case hw83_16 => simp only [List.getElem?_toArray, List.getElem?_cons_succ, List.getElem?_cons_zero]; rfl
              case sw83_16 => rfl
              case yw83_16 => (intro w hSw; (try dsimp only at hSw); go_simp <;> with_reducible rfl)
              try simp only [Act.put, List.setIfInBounds_toArray, List.set_cons_zero, List.set_cons_succ]
              refine hR.take (i := 17) (oi := ?ow84_17) (v := ?vw84_17) (m' := 262143) ?hw84_17 (by kernel_rfl) (by kernel_rfl) (fun _ _ _ h => h) (Or.inl ⟨?sw84_17, ?yw84_17⟩) (by assumption) ?nw84_17
              case hw84_17 => simp only [List.getElem?_toArray, List.getElem?_cons_succ, List.getElem?_cons_zero]; rfl
              case sw84_17 => rfl
              case yw84_17 => (intro w hSw; (try dsimp only at hSw); go_simp <;> with_reducible rfl)
              try simp only [Act.put, List.setIfInBounds_toArray, List.set_cons_zero, List.set_cons_succ]
              refine hR.take (i := 18) (oi := ?ow85_18) (v := ?vw85_18) (m' := 524287) ?hw85_18 (by kernel_rfl) (by kernel_rfl) (fun _ _ _ h => h) (Or.inl ⟨?sw85_18, ?yw85_18⟩) (by assumption) ?nw85_18
              case hw85_18 => simp only [List.getElem?_toArray, List.getElem?_cons_succ, List.getElem?_cons_zero]; rfl
              case sw85_18 => rfl
              case yw85_18 => (intro w hSw; (try dsimp only at hSw); go_simp <;> with_reducible rfl)
              try simp only [Act.put, List.setIfInBounds_toArray, List.set_cons_zero, List.set_cons_succ]
              refine hR.take (i := 19) (oi := ?ow86_19) (v := ?vw86_19) (m' := 1048575) ?hw86_19 (by kernel_rfl) (by kernel_rfl) (fun _ _ _ h => h) (Or.inl ⟨?sw86_19, ?yw86_19⟩) (by assumption) ?nw86_19
              case hw86_19 => simp only [List.getElem?_toArray, List.getElem?_cons_succ, List.getElem?_cons_zero]; rfl
              case sw86_19 => rfl
              case yw86_19 => (intro w hSw; (try dsimp only at hSw); go_simp <;> with_reducible rfl)
              try simp only [Act.put, List.setIfInBounds_toArray, List.set_cons_zero, List.set_cons_succ]
              refine hR.take (i := 20) (oi := ?ow87_20) (v := ?vw87_20) (m' := 2097151) ?hw87_20 (by kernel_rfl) (by kernel_rfl) (fun _ _ _ h => h) (Or.inl ⟨?sw87_20, ?yw87_20⟩) (by assumption) ?nw87_20
              case hw87_20 => simp only [List.getElem?_toArray, List.getElem?_cons_succ, List.getElem?_cons_zero]; rfl
              case sw87_20 => rfl
              case yw87_20 => (intro w hSw; (try dsimp only at hSw); go_simp <;> with_reducible rfl)
              try simp only [Act.put, List.setIfInBounds_toArray, List.set_cons_zero, List.set_cons_succ]
              refine hR.all (by kernel_rfl) ?_ _
              refine NoPanic.normal ?_
              go_wp2_with fail
              go_roundw
              case rel => exact ⟨v + 1, by omega, by go_num, Lib.hid (by assumption)⟩
              case measure => simp [intOf]; omega
            · have hv1 : ¬ (v : Int) < (L : Int) := by omega
              go_wp2_with fail
              go_ret
              exact ⟨rfl, b6.out.trans (hkx.mono b6.out.size)⟩
end Go.Proofs.YtihcaoipemcddaaDoor
