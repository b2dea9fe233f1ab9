/-
  The law 'TypecheckRows', walked: it returns true for every input, and nothing that existed changes. Condition: the package's map lies as its text lays it.
-/
import Derived.Test.YtihcaoipemcddaaDoorQ22
import Derived.Test.YtihcaoipemcddaaDoorQP2
namespace Go.Proofs.YtihcaoipemcddaaDoor
open Go.RowKit

theorem zero_ok (q : Qy) : (boundF q 0).2 = true := by
  unfold boundF powF
  split
  · split
    · simp [two62]
    · rfl
  · split <;> rfl
theorem mono_ok {q : Qy} (hq : ValidQ q) {n m : Int} (h0 : 0 ≤ n) (h : n ≤ m) (hm : m ≤ 65536) (hok : (boundF q m).2 = true) : (boundF q n).2 = true := by
  by_cases h3 : q.kind ≤ 3
  · have h1 := bound_lt hq (Int.le_trans h0 h) hm hok (v := 0) (by have := hq.head.1.1; rw [sums_1 this h3]; decide)
    have hc := cap_nn hq (v := 0) (by omega)
    have h2 : n * capF q 0 ≤ m * capF q 0 := Int.mul_le_mul_of_nonneg_right h hc.1
    have hf : filtF q 0 = fl q 0 := by unfold filtF; rw [if_neg (by omega)]
    unfold boundF
    rw [if_pos h3]
    unfold capF at h1 h2
    rw [if_pos h3, hf] at h1 h2
    cases hs : satB (fl q 0) with
    | true =>
      rw [hs] at h1 h2
      simp only [if_true] at h1 h2 ⊢
      exact decide_eq_true (by unfold powF two62; omega)
    | false => rfl
  · unfold boundF
    rw [if_neg h3]
    split <;> rfl
def qL3T : List FRow := [(0, ([], (43, [10]))), (1, ([0], (44, [42]))), (2, ([1], (45, [43]))), (3, ([2], (46, [9, 44]))), (4, ([3, 2], (47, [45, 44]))), (5, ([4, 2], (48, [46, 44]))), (6, ([2], (49, [8, 44]))), (7, ([6, 2, 2], (50, [48, 44]))), (8, ([5, 7, 2], (51, [47, 49, 44]))), (9, ([2, 8], (52, [44, 50]))), (10, ([9, 7], (53, [51]))), (11, ([10], (54, [2, 52]))), (12, ([11, 10], (55, [53, 52]))), (13, ([12, 10, 10], (56, [54, 52]))), (14, ([13], (57, [14, 55]))), (15, ([14, 13], (58, [56, 55]))), (16, ([13, 15, 10], (59, [55, 57, 52]))), (17, ([16, 13, 10], (60, [58, 52]))), (18, ([17], (61, [12, 59]))), (19, ([18, 17], (62, [60, 59]))), (20, ([17, 19, 10], (63, [59, 61, 52]))), (21, ([10, 20], (64, [52, 62])))]
def qL3U : List FRow := [(0, ([], (93, [16]))), (1, ([], (94, [13]))), (2, ([1], (95, [93]))), (3, ([2], (96, [94]))), (4, ([0, 3], (97, [92, 95]))), (5, ([4], (98, [96]))), (6, ([5], (99, [13, 97]))), (7, ([6, 5], (100, [98, 97]))), (8, ([5], (101, [16, 97]))), (9, ([7, 8, 5], (102, [99, 100, 97]))), (10, ([9, 5], (103, [101, 97]))), (11, ([5], (104, [11, 97]))), (12, ([11, 5], (105, [103, 97]))), (13, ([5], (106, [16, 97]))), (14, ([12, 13, 5], (107, [104, 105, 97]))), (15, ([14, 5], (108, [106, 97]))), (16, ([5], (109, [2, 97]))), (17, ([16, 5], (110, [108, 97]))), (18, ([15, 17, 5], (111, [107, 109, 97]))), (19, ([10, 18, 5], (112, [102, 110, 97]))), (20, ([5, 19], (113, [97, 111])))]
set_option maxRecDepth 100000 in
set_option maxHeartbeats 8000000 in
theorem walk_TypecheckRows {q : Qy} {A : Option Addr} {c : Nat} {n k : Int} (w : World) (hw : WidOk w) (h : Sl cdE.slice (fun _ => True) w A c q.fs) (_hc : -9223372036854775808 ≤ q.col ∧ q.col ≤ 9223372036854775807) (hn : 0 ≤ n ∧ n ≤ 255) (hk : 0 ≤ k ∧ k ≤ 255) :
    Calls Tryd.prog 9 #[(.agg #[.int .i64 q.kind, .int .i64 q.col, .int .i64 q.k, .slice A q.fs.length c]), .int .u8 n, .int .u8 k] w fun e w' => e = .returned (.bool true) ∧ Below w.heap.size w w' := by
  have HW := Lib.hid hw
  have H := Lib.hid h
  have hm := h.max
  obtain ⟨n, rfl⟩ : ∃ m : Nat, n = m := ⟨n.toNat, by omega⟩
  obtain ⟨k, rfl⟩ : ∃ m : Nat, k = m := ⟨k.toNat, by omega⟩
  obtain ⟨nk, hnk⟩ : ∃ nk : Nat, n * k = nk := ⟨_, rfl⟩
  have hnk1 : (n : Int) * (k : Int) = (nk : Int) := by rw [← hnk, Int.natCast_mul]
  have hnkb : nk ≤ 65025 := by rw [← hnk]; exact Nat.le_trans (Nat.mul_le_mul (show n ≤ 255 by omega) (show k ≤ 255 by omega)) (by decide)
  have HNK := Lib.hid hnk
  clear hw h hnk
  go_enter Tryd.func9, Tryd.ntmps9
  go_upto_region 1 with fail
  refine wp_world (F := fun wx => Below w.heap.size w wx ∧ Hid (wx.heap[w.heap.size]? = some (.cells #[.int .i64 q.kind, .int .i64 q.col, .int .i64 q.k, .slice A q.fs.length c] 24 (0, 0)))) ⟨(by repeat' (first | with_reducible exact Below.refl _ _ | with_reducible assumption | with_reducible refine Below.setCell ?_ ?_ _ | with_reducible refine Below.drew ?_ | with_reducible refine below_drewN ?_ _ | with_reducible refine Below.alloc ?_ ?_ _ | (rintro _ ⟨⟩; simp <;> omega) | omega | (simp <;> omega))), Lib.hid (heap_alloc_at rfl)⟩ ?_
  rintro w1 ⟨bb, gq⟩
  have b1 := Lib.hid bb
  have W1 := mvW HW bb
  clear bb HW
  go_upto_region 2 with (go_at_call 10; refine (sanityL14 _ W1.out).mono ?_; rintro e w2 ⟨rfl, hb2⟩; have b2 := Lib.hid (b1.out.trans (hb2.mono b1.out.size)); have gq2 := mvQ gq hb2; have W2 := mvW W1 hb2; clear hb2)
  obtain ⟨x0, x1, x2, x3⟩ := row4 gq2
  have H2 := Lib.hid (H.out.keep (Below.agree b2.out))
  clear gq W1 b1 H
  go_cut [8] (fun p wx => ∃ (g : Nat) (x : Qy) (B : Option Addr) (d : Nat), p = .pointer (some ⟨g, 0, none⟩) ∧ ValidQ x ∧ NotWide x ∧ Hid (wx.heap[g]? = some (.cells #[.int .i64 x.kind, .int .i64 x.col, .int .i64 x.k, .slice B x.fs.length d] 24 (0, 0))) ∧ Sl cdE.slice (fun _ => True) wx B d x.fs ∧ Below w2.heap.size w2 wx)
  case first =>
    go_wp2_with (go_at_call 19; refine (made14P (q := q) _ H2.out).mono ?_; rintro e wC ⟨x, hv, hnw, B, d, rfl, hs, hbC⟩; have HC := Lib.hid hs; have bC := Lib.hid hbC; have HV := Lib.hid hv; have HN := Lib.hid hnw; clear hs hbC hv hnw)
    go_meet
    case rel => exact ⟨_, x, B, d, rfl, HV.out, HN.out, Lib.hid (heap_alloc_at rfl), (HC.out.sub (fun _ _ _ => trivial)).keep ((Agree.refl _ _).alloc _), bC.out.alloc bC.out.size _⟩
  obtain ⟨g, x, B, d, rfl, hv, hnw, gx, hs, hb⟩ := hcut
  obtain ⟨w3, hwv⟩ : ∃ x, x = wc := ⟨_, rfl⟩
  subst hwv
  have HV := Lib.hid hv
  have HNW := Lib.hid hnw
  have W3 := mvW W2 hb
  have b3 := Lib.hid (b2.out.trans (hb.mono b2.out.size))
  have F3 := Lib.hid hs
  clear hv hnw hs hb x0 x1 x2 x3 gq2 W2 b2 H2
  obtain ⟨L, hL⟩ : ∃ L : Nat, (L : Int) = sumsC x.kind := ⟨(sumsC x.kind).toNat, by have := sums_le HV.out.head.1.1 HV.out.head.1.2; omega⟩
  have HLN := Lib.hid (fun N => (show (boundF x N).1.length = L by have := bound_len (q := x) (n := N) HV.out.head.1.1 HV.out.head.1.2; omega))
  have hL32 : L ≤ 32 := by have := sums_le HV.out.head.1.1 HV.out.head.1.2; omega
  have HLS := Lib.hid hL
  have HCV := Lib.hid (fun (N : Int) (h0 : 0 ≤ N) (h1 : N ≤ 65536) => check_val HV.out HNW.out (n := N) h0 h1)
  clear hL
  have hne : ((L : Int) != sumsC x.kind) = false := by rw [HLS.out]; simp
  obtain ⟨P4, hP4⟩ : ∃ P, checkTF x 0 = P := ⟨_, rfl⟩
  have HP4 := Lib.hid hP4
  clear hP4
  obtain ⟨y0, y1, y2, y3⟩ := row4 gx
  go_upto_region 3 with fail
  go_cut [9, 10] (fun p e wx => ∃ g, p = .pointer (some ⟨g, 0, none⟩) ∧ e = .int .i64 P4.2 ∧ Bx wx g P4.1 ∧ Below w3.heap.size w3 wx)
  case first =>
    go_wp2_with (go_at_call 11; refine (checkP (q := x) 0 _ W3.out F3.out HP4.out).mono ?_; rintro e wC ⟨B, d, rfl, hs, hbC⟩; have HC := Lib.hid hs; have bC := Lib.hid hbC; clear hs hbC)
    go_meet
    case rel => exact ⟨_, rfl, rfl, ⟨B, d, heap_alloc_at rfl, (HC.out.sub (fun _ _ _ => trivial)).keep ((Agree.refl _ _).alloc _)⟩, bC.out.alloc bC.out.size _⟩
  obtain ⟨g4, rfl, rfl, hbx, hb⟩ := hcut
  obtain ⟨w4, hwv⟩ : ∃ x, x = wc := ⟨_, rfl⟩
  subst hwv
  have W4 := mvW W3 hb
  have b4 := Lib.hid (b3.out.trans (hb.mono b3.out.size))
  have F4 := Lib.hid (F3.out.keep (Below.agree hb))
  (try replace X4 := mvBx X4 hb)
  (try replace X5 := mvBx X5 hb)
  replace gx := mvQ gx hb
  have X4 := Lib.hid hbx
  clear hbx hb W3 b3 F3 y0 y1 y2 y3
  obtain ⟨P5, hP5⟩ : ∃ P, checkTF x n = P := ⟨_, rfl⟩
  have HP5 := Lib.hid hP5
  clear hP5
  obtain ⟨y0, y1, y2, y3⟩ := row4 gx
  go_upto_region 4 with fail
  go_cut [11, 12] (fun p e wx => ∃ g, p = .pointer (some ⟨g, 0, none⟩) ∧ e = .int .i64 P5.2 ∧ Bx wx g P5.1 ∧ Below w4.heap.size w4 wx)
  case first =>
    go_wp2_with (go_at_call 11; refine (checkP (q := x) n _ W4.out F4.out HP5.out).mono ?_; rintro e wC ⟨B, d, rfl, hs, hbC⟩; have HC := Lib.hid hs; have bC := Lib.hid hbC; clear hs hbC)
    go_meet
    case rel => exact ⟨_, rfl, rfl, ⟨B, d, heap_alloc_at rfl, (HC.out.sub (fun _ _ _ => trivial)).keep ((Agree.refl _ _).alloc _)⟩, bC.out.alloc bC.out.size _⟩
  obtain ⟨g5, rfl, rfl, hbx, hb⟩ := hcut
  obtain ⟨w5, hwv⟩ : ∃ x, x = wc := ⟨_, rfl⟩
  subst hwv
  have W5 := mvW W4 hb
  have b5 := Lib.hid (b4.out.trans (hb.mono b4.out.size))
  have F5 := Lib.hid (F4.out.keep (Below.agree hb))
  (try replace X4 := mvBx X4 hb)
  (try replace X5 := mvBx X5 hb)
  replace gx := mvQ gx hb
  have X5 := Lib.hid hbx
  clear hbx hb W4 b4 F4 y0 y1 y2 y3
  obtain ⟨P6, hP6⟩ : ∃ P, checkTF x nk = P := ⟨_, rfl⟩
  have HP6 := Lib.hid hP6
  clear hP6
  obtain ⟨y0, y1, y2, y3⟩ := row4 gx
  go_upto_region 5 with fail
  go_cut [13, 14] (fun p e wx => ∃ g, p = .pointer (some ⟨g, 0, none⟩) ∧ e = .int .i64 P6.2 ∧ Bx wx g P6.1 ∧ Below w5.heap.size w5 wx)
  case first =>
    go_wp2_with (go_at_call 11; refine (checkP (q := x) nk _ W5.out F5.out HP6.out).mono ?_; rintro e wC ⟨B, d, rfl, hs, hbC⟩; have HC := Lib.hid hs; have bC := Lib.hid hbC; clear hs hbC)
    go_meet
    case rel => exact ⟨_, rfl, rfl, ⟨B, d, heap_alloc_at rfl, (HC.out.sub (fun _ _ _ => trivial)).keep ((Agree.refl _ _).alloc _)⟩, bC.out.alloc bC.out.size _⟩
  obtain ⟨g6, rfl, rfl, hbx, hb⟩ := hcut
  obtain ⟨w6, hwv⟩ : ∃ x, x = wc := ⟨_, rfl⟩
  subst hwv
  have W6 := mvW W5 hb
  have b6 := Lib.hid (b5.out.trans (hb.mono b5.out.size))
  have F6 := Lib.hid (F5.out.keep (Below.agree hb))
  (try replace X4 := mvBx X4 hb)
  (try replace X5 := mvBx X5 hb)
  replace gx := mvQ gx hb
  have X6 := Lib.hid hbx
  clear hbx hb W5 b5 F5 y0 y1 y2 y3
  clear W6 F6
  obtain ⟨ok5, h5⟩ : ∃ b, (boundF x n).2 = b := ⟨_, rfl⟩
  obtain ⟨ok6, h6⟩ : ∃ b, (boundF x nk).2 = b := ⟨_, rfl⟩
  have O5 := Lib.hid h5
  have O6 := Lib.hid h6
  have HE := Lib.hid (show k = 0 ∧ ok6 = true ∨ 0 < k ∧ ok6 = false ∨ 0 < k ∧ ok6 = true ∧ ok5 = true by
    rcases Nat.eq_zero_or_pos k with hk0 | hk0
    · left
      refine ⟨hk0, ?_⟩
      have hz : nk = 0 := by rw [← HNK.out, hk0]; rfl
      rw [← h6, hz]
      exact zero_ok x
    · right
      cases hok : ok6 with
      | false => exact .inl ⟨hk0, rfl⟩
      | true =>
        right
        refine ⟨hk0, rfl, ?_⟩
        rw [← h5]
        exact mono_ok (m := (nk : Int)) HV.out (by omega) (by have := Nat.le_mul_of_pos_right n hk0; rw [HNK.out] at this; omega) (by omega) (by rw [h6, hok]))
  have E4 := Lib.hid (show P4 = ((boundF x 0).1, 0) by rw [← HP4.out, HCV.out 0 (by omega) (by omega), zero_ok]; rfl)
  have E5 := Lib.hid (show P5 = if ok5 then ((boundF x n).1, 0) else ([], 141) by rw [← HP5.out, HCV.out n (by omega) (by omega), h5])
  have E6 := Lib.hid (show P6 = if ok6 then ((boundF x nk).1, 0) else ([], 141) by rw [← HP6.out, HCV.out nk (by omega) (by omega), h6])
  rw [E4.out]
  rw [E4.out] at X4
  dsimp only at X4 ⊢
  obtain ⟨B4, d4, y4, s4⟩ := X4.out
  rw [HLN.out] at y4
  have Y4 := Lib.hid y4
  have S4 := Lib.hid s4
  have hm4 := s4.max
  rw [HLN.out] at hm4
  have z4 : ∀ W, Below w6.heap.size w6 W → _ ∧ _ ∧ _ := fun W hW => one (mvQ Y4 hW)
  have zx : ∀ W, Below w6.heap.size w6 W → _ ∧ _ ∧ _ ∧ _ := fun W hW => row4 (mvQ gx hW)
  have br : Below w6.heap.size w6 w6 := Below.refl _ _
  have ba : ∀ W o, Below w6.heap.size w6 W → Below w6.heap.size w6 (W.alloc o) := fun W o h => h.alloc h.size o
  have bc : ∀ W W', Below w6.heap.size w6 W → Below W.heap.size W W' → Below w6.heap.size w6 W' := fun W W' h k => h.trans (k.mono h.size)
  clear X4 y4 s4 h5 h6
  (first | go_values | go_skip | go_guarded | go_step | go_upon | go_back)
  (first | go_values | go_skip | go_guarded | go_step | go_upon | go_back)
  go_cut [2, 12, 14] (fun s2 s12 s14 wx => s2 = .int .u8 k ∧ s12 = .int .i64 P5.2 ∧ s14 = .int .i64 P6.2 ∧ Below w6.heap.size w6 wx)
  case first =>
    rcases HE.out with ⟨rfl, e6⟩ | ⟨hk0, e6⟩ | ⟨hk0, e6, e5⟩
    · rw [E6.out, e6]
      simp only [if_true, Int.natCast_zero]
      go_upto_region 6 with fail
      refine wp_region_noPanic ?_
      refine wp_region_held_drew (S := fun X => Below w6.heap.size w6 X) (by kernel_rfl) ?_ (fun hHeld => ?_)
      · (first | with_reducible assumption | (with_reducible refine Below.drew ?_; with_reducible assumption) | (with_reducible refine ba _ _ ?_; with_reducible assumption) | (with_reducible refine Below.drew ?_; with_reducible refine ba _ _ ?_; with_reducible assumption) | exact Below.refl _ _ | exact (Below.refl _ _).drew | exact (Below.refl _ _).alloc (Nat.le_refl _) _ | (refine bc _ _ (by assumption) (by assumption)))
      refine RegOk.begin_ (n := 22) (T := qL3T) ⟨by kernel_rfl, by kernel_rfl, by kernel_rfl, by kernel_rfl⟩ fun hR => ?_
      refine hR.take (i := 0) (oi := ?ow635_0) (v := ?vw635_0) (m' := 1) ?hw635_0 (by kernel_rfl) (by kernel_rfl) (fun _ _ _ h => h) (Or.inl ⟨?sw635_0, ?yw635_0⟩) (by assumption) ?nw635_0
      case hw635_0 => simp only [List.getElem?_toArray, List.getElem?_cons_succ, List.getElem?_cons_zero]; rfl
      case sw635_0 => rfl
      case yw635_0 => (intro w hSw; (try dsimp only at hSw); go_simp <;> with_reducible rfl)
      try simp only [Act.put, List.setIfInBounds_toArray, List.set_cons_zero, List.set_cons_succ]
      refine hR.take (i := 1) (oi := ?ow636_1) (v := ?vw636_1) (m' := 3) ?hw636_1 (by kernel_rfl) (by kernel_rfl) (fun _ _ _ h => h) (Or.inl ⟨?sw636_1, ?yw636_1⟩) (by assumption) ?nw636_1
      case hw636_1 => simp only [List.getElem?_toArray, List.getElem?_cons_succ, List.getElem?_cons_zero]; rfl
      case sw636_1 => rfl
      case yw636_1 => (intro w hSw; (try dsimp only at hSw); go_simp <;> with_reducible rfl)
      try simp only [Act.put, List.setIfInBounds_toArray, List.set_cons_zero, List.set_cons_succ]
      refine hR.take (i := 2) (oi := ?ow637_2) (v := ?vw637_2) (m' := 7) ?hw637_2 (by kernel_rfl) (by kernel_rfl) (fun _ _ _ h => h) (Or.inl ⟨?sw637_2, ?yw637_2⟩) (by assumption) ?nw637_2
      case hw637_2 => simp only [List.getElem?_toArray, List.getElem?_cons_succ, List.getElem?_cons_zero]; rfl
      case sw637_2 => rfl
      case yw637_2 => (intro w hSw; (try dsimp only at hSw); go_simp <;> with_reducible rfl)
      try simp only [Act.put, List.setIfInBounds_toArray, List.set_cons_zero, List.set_cons_succ]
      refine hR.take (i := 3) (oi := ?ow638_3) (v := ?vw638_3) (m' := 15) ?hw638_3 (by kernel_rfl) (by kernel_rfl) (fun _ _ _ h => h) (Or.inl ⟨?sw638_3, ?yw638_3⟩) (by assumption) ?nw638_3
      case hw638_3 => simp only [List.getElem?_toArray, List.getElem?_cons_succ, List.getElem?_cons_zero]; rfl
      case sw638_3 => rfl
      case yw638_3 => (intro w hSw; (try dsimp only at hSw); go_simp <;> with_reducible rfl)
      try simp only [Act.put, List.setIfInBounds_toArray, List.set_cons_zero, List.set_cons_succ]
      refine hR.take (i := 4) (oi := ?ow639_4) (v := ?vw639_4) (m' := 31) ?hw639_4 (by kernel_rfl) (by kernel_rfl) (fun _ _ _ h => h) (Or.inl ⟨?sw639_4, ?yw639_4⟩) (by assumption) ?nw639_4
      case hw639_4 => simp only [List.getElem?_toArray, List.getElem?_cons_succ, List.getElem?_cons_zero]; rfl
      case sw639_4 => rfl
      case yw639_4 => (intro w hSw; (try dsimp only at hSw); go_simp <;> with_reducible rfl)
      try simp only [Act.put, List.setIfInBounds_toArray, List.set_cons_zero, List.set_cons_succ]
      refine hR.take (i := 5) (oi := ?ow640_5) (v := ?vw640_5) (m' := 63) ?hw640_5 (by kernel_rfl) (by kernel_rfl) (fun _ _ _ h => h) (Or.inl ⟨?sw640_5, ?yw640_5⟩) (by assumption) ?nw640_5
      case hw640_5 => simp only [List.getElem?_toArray, List.getElem?_cons_succ, List.getElem?_cons_zero]; rfl
      case sw640_5 => rfl
      case yw640_5 => (intro w hSw; (try dsimp only at hSw); go_simp <;> with_reducible rfl)
      try simp only [Act.put, List.setIfInBounds_toArray, List.set_cons_zero, List.set_cons_succ]
      refine hR.take (i := 6) (oi := ?ow641_6) (v := ?vw641_6) (m' := 127) ?hw641_6 (by kernel_rfl) (by kernel_rfl) (fun _ _ _ h => h) (Or.inl ⟨?sw641_6, ?yw641_6⟩) (by assumption) ?nw641_6
      case hw641_6 => simp only [List.getElem?_toArray, List.getElem?_cons_succ, List.getElem?_cons_zero]; rfl
      case sw641_6 => rfl
      case yw641_6 => (intro w hSw; (try dsimp only at hSw); go_simp <;> with_reducible rfl)
      try simp only [Act.put, List.setIfInBounds_toArray, List.set_cons_zero, List.set_cons_succ]
      refine hR.come (rs := [7]) (by kernel_rfl) (by simp) ?_
      refine AllReadyH.cons (o := ?o642_7) ?h642_7 (fun K hK => ?kw642_7) AllReadyH.nil
      case h642_7 => simp only [List.getElem?_toArray, List.getElem?_cons_succ, List.getElem?_cons_zero]; rfl
      go_simp
      go_at_call 15; refine (sumsP (q := x) _).mono ?_; rintro e wA ⟨rfl, hA⟩; have hk := bc _ _ (by (first | with_reducible assumption | (with_reducible refine Below.drew ?_; with_reducible assumption) | (with_reducible refine ba _ _ ?_; with_reducible assumption) | (with_reducible refine Below.drew ?_; with_reducible refine ba _ _ ?_; with_reducible assumption) | exact Below.refl _ _ | exact (Below.refl _ _).drew | exact (Below.refl _ _).alloc (Nat.le_refl _) _ | (refine bc _ _ (by assumption) (by assumption)))) hA; clear hA
      refine hK.out _ _ ?_ (fun hHeld => ?_)
      · (first | with_reducible assumption | (with_reducible refine Below.drew ?_; with_reducible assumption) | (with_reducible refine ba _ _ ?_; with_reducible assumption) | (with_reducible refine Below.drew ?_; with_reducible refine ba _ _ ?_; with_reducible assumption) | exact Below.refl _ _ | exact (Below.refl _ _).drew | exact (Below.refl _ _).alloc (Nat.le_refl _) _ | (refine bc _ _ (by assumption) (by assumption)))
      clear hK K
      refine RegOk.put_ (m' := 255) (by kernel_rfl) ?_
      try simp only [Act.put, List.setIfInBounds_toArray, List.set_cons_zero, List.set_cons_succ]
      refine hR.take (i := 8) (oi := ?ow643_8) (v := ?vw643_8) (m' := 511) ?hw643_8 (by kernel_rfl) (by kernel_rfl) (fun _ _ _ h => h) (Or.inl ⟨?sw643_8, ?yw643_8⟩) (by assumption) ?nw643_8
      case hw643_8 => simp only [List.getElem?_toArray, List.getElem?_cons_succ, List.getElem?_cons_zero]; rfl
      case sw643_8 => rfl
      case yw643_8 => (intro w hSw; (try dsimp only at hSw); go_simp <;> with_reducible rfl)
      try simp only [Act.put, List.setIfInBounds_toArray, List.set_cons_zero, List.set_cons_succ]
      refine hR.take (i := 9) (oi := ?ow644_9) (v := ?vw644_9) (m' := 1023) ?hw644_9 (by kernel_rfl) (by kernel_rfl) (fun _ _ _ h => h) (Or.inl ⟨?sw644_9, ?yw644_9⟩) (by assumption) ?nw644_9
      case hw644_9 => simp only [List.getElem?_toArray, List.getElem?_cons_succ, List.getElem?_cons_zero]; rfl
      case sw644_9 => rfl
      case yw644_9 => (intro w hSw; (try dsimp only at hSw); go_simp <;> with_reducible rfl)
      try simp only [Act.put, List.setIfInBounds_toArray, List.set_cons_zero, List.set_cons_succ]
      refine hR.take (i := 10) (oi := ?ow645_10) (v := ?vw645_10) (m' := 2047) ?hw645_10 (by kernel_rfl) (by kernel_rfl) (fun _ _ _ h => h) (Or.inl ⟨?sw645_10, ?yw645_10⟩) (by assumption) ?nw645_10
      case hw645_10 => simp only [List.getElem?_toArray, List.getElem?_cons_succ, List.getElem?_cons_zero]; rfl
      case sw645_10 => rfl
      case yw645_10 => (intro w hSw; (try dsimp only at hSw); go_simp <;> with_reducible rfl)
      try simp only [Act.put, List.setIfInBounds_toArray, List.set_cons_zero, List.set_cons_succ]
      refine hR.take (i := 11) (oi := ?ow646_11) (v := ?vw646_11) (m' := 4095) ?hw646_11 (by kernel_rfl) (by kernel_rfl) (fun _ _ _ h => h) (Or.inl ⟨?sw646_11, ?yw646_11⟩) (by assumption) ?nw646_11
      case hw646_11 => simp only [List.getElem?_toArray, List.getElem?_cons_succ, List.getElem?_cons_zero]; rfl
      case sw646_11 => rfl
      case yw646_11 => (intro w hSw; (try dsimp only at hSw); go_simp <;> with_reducible rfl)
      try simp only [Act.put, List.setIfInBounds_toArray, List.set_cons_zero, List.set_cons_succ]
      refine hR.take (i := 12) (oi := ?ow647_12) (v := ?vw647_12) (m' := 8191) ?hw647_12 (by kernel_rfl) (by kernel_rfl) (fun _ _ _ h => h) (Or.inl ⟨?sw647_12, ?yw647_12⟩) (by assumption) ?nw647_12
      case hw647_12 => simp only [List.getElem?_toArray, List.getElem?_cons_succ, List.getElem?_cons_zero]; rfl
      case sw647_12 => rfl
      case yw647_12 => (intro w hSw; (try dsimp only at hSw); go_simp <;> with_reducible rfl)
      try simp only [Act.put, List.setIfInBounds_toArray, List.set_cons_zero, List.set_cons_succ]
      refine hR.take (i := 13) (oi := ?ow648_13) (v := ?vw648_13) (m' := 16383) ?hw648_13 (by kernel_rfl) (by kernel_rfl) (fun _ _ _ h => h) (Or.inl ⟨?sw648_13, ?yw648_13⟩) (by assumption) ?nw648_13
      case hw648_13 => simp only [List.getElem?_toArray, List.getElem?_cons_succ, List.getElem?_cons_zero]; rfl
      case sw648_13 => rfl
      case yw648_13 => (intro w hSw; (try dsimp only at hSw); go_simp <;> with_reducible rfl)
      try simp only [Act.put, List.setIfInBounds_toArray, List.set_cons_zero, List.set_cons_succ]
      refine hR.take (i := 14) (oi := ?ow649_14) (v := ?vw649_14) (m' := 32767) ?hw649_14 (by kernel_rfl) (by kernel_rfl) (fun _ _ _ h => h) (Or.inr ⟨?sw649_14, ?yw649_14⟩) (by assumption) ?nw649_14
      case hw649_14 => simp only [List.getElem?_toArray, List.getElem?_cons_succ, List.getElem?_cons_zero]; rfl
      case sw649_14 => rfl
      case yw649_14 => rfl
      try simp only [Act.put, List.setIfInBounds_toArray, List.set_cons_zero, List.set_cons_succ]
      refine hR.take (i := 15) (oi := ?ow650_15) (v := ?vw650_15) (m' := 65535) ?hw650_15 (by kernel_rfl) (by kernel_rfl) (fun _ _ _ h => h) (Or.inr ⟨?sw650_15, ?yw650_15⟩) (by assumption) ?nw650_15
      case hw650_15 => simp only [List.getElem?_toArray, List.getElem?_cons_succ, List.getElem?_cons_zero]; rfl
      case sw650_15 => rfl
      case yw650_15 => rfl
      try simp only [Act.put, List.setIfInBounds_toArray, List.set_cons_zero, List.set_cons_succ]
      refine hR.take (i := 16) (oi := ?ow651_16) (v := ?vw651_16) (m' := 131071) ?hw651_16 (by kernel_rfl) (by kernel_rfl) (fun _ _ _ h => h) (Or.inl ⟨?sw651_16, ?yw651_16⟩) (by assumption) ?nw651_16
      case hw651_16 => simp only [List.getElem?_toArray, List.getElem?_cons_succ, List.getElem?_cons_zero]; rfl
      case sw651_16 => rfl
      case yw651_16 => (intro w hSw; (try dsimp only at hSw); go_simp <;> with_reducible rfl)
      try simp only [Act.put, List.setIfInBounds_toArray, List.set_cons_zero, List.set_cons_succ]
      refine hR.take (i := 17) (oi := ?ow652_17) (v := ?vw652_17) (m' := 262143) ?hw652_17 (by kernel_rfl) (by kernel_rfl) (fun _ _ _ h => h) (Or.inl ⟨?sw652_17, ?yw652_17⟩) (by assumption) ?nw652_17
      case hw652_17 => simp only [List.getElem?_toArray, List.getElem?_cons_succ, List.getElem?_cons_zero]; rfl
      case sw652_17 => rfl
      case yw652_17 => (intro w hSw; (try dsimp only at hSw); go_simp <;> with_reducible rfl)
      try simp only [Act.put, List.setIfInBounds_toArray, List.set_cons_zero, List.set_cons_succ]
      refine hR.take (i := 18) (oi := ?ow653_18) (v := ?vw653_18) (m' := 524287) ?hw653_18 (by kernel_rfl) (by kernel_rfl) (fun _ _ _ h => h) (Or.inr ⟨?sw653_18, ?yw653_18⟩) (by assumption) ?nw653_18
      case hw653_18 => simp only [List.getElem?_toArray, List.getElem?_cons_succ, List.getElem?_cons_zero]; rfl
      case sw653_18 => rfl
      case yw653_18 => rfl
      try simp only [Act.put, List.setIfInBounds_toArray, List.set_cons_zero, List.set_cons_succ]
      refine hR.take (i := 19) (oi := ?ow654_19) (v := ?vw654_19) (m' := 1048575) ?hw654_19 (by kernel_rfl) (by kernel_rfl) (fun _ _ _ h => h) (Or.inr ⟨?sw654_19, ?yw654_19⟩) (by assumption) ?nw654_19
      case hw654_19 => simp only [List.getElem?_toArray, List.getElem?_cons_succ, List.getElem?_cons_zero]; rfl
      case sw654_19 => rfl
      case yw654_19 => rfl
      try simp only [Act.put, List.setIfInBounds_toArray, List.set_cons_zero, List.set_cons_succ]
      refine hR.take (i := 20) (oi := ?ow655_20) (v := ?vw655_20) (m' := 2097151) ?hw655_20 (by kernel_rfl) (by kernel_rfl) (fun _ _ _ h => h) (Or.inl ⟨?sw655_20, ?yw655_20⟩) (by assumption) ?nw655_20
      case hw655_20 => simp only [List.getElem?_toArray, List.getElem?_cons_succ, List.getElem?_cons_zero]; rfl
      case sw655_20 => rfl
      case yw655_20 => (intro w hSw; (try dsimp only at hSw); go_simp <;> with_reducible rfl)
      try simp only [Act.put, List.setIfInBounds_toArray, List.set_cons_zero, List.set_cons_succ]
      refine hR.take (i := 21) (oi := ?ow656_21) (v := ?vw656_21) (m' := 4194303) ?hw656_21 (by kernel_rfl) (by kernel_rfl) (fun _ _ _ h => h) (Or.inl ⟨?sw656_21, ?yw656_21⟩) (by assumption) ?nw656_21
      case hw656_21 => simp only [List.getElem?_toArray, List.getElem?_cons_succ, List.getElem?_cons_zero]; rfl
      case sw656_21 => rfl
      case yw656_21 => (intro w hSw; (try dsimp only at hSw); go_simp <;> with_reducible rfl)
      try simp only [Act.put, List.setIfInBounds_toArray, List.set_cons_zero, List.set_cons_succ]
      refine hR.all (by kernel_rfl) ?_ _
      refine NoPanic.normal ?_
      go_wp2_with fail
      go_meet
      exact ⟨rfl, rfl, by rw [E6.out, e6]; rfl, by assumption⟩
    · have hk1 : (0 : Int) < (k : Int) := by omega
      rw [E6.out, e6]
      simp only [Bool.false_eq_true, if_false]
      go_upto_region 6 with fail
      refine wp_region_noPanic ?_
      refine wp_region_held_drew (S := fun X => Below w6.heap.size w6 X) (by kernel_rfl) ?_ (fun hHeld => ?_)
      · (first | with_reducible assumption | (with_reducible refine Below.drew ?_; with_reducible assumption) | (with_reducible refine ba _ _ ?_; with_reducible assumption) | (with_reducible refine Below.drew ?_; with_reducible refine ba _ _ ?_; with_reducible assumption) | exact Below.refl _ _ | exact (Below.refl _ _).drew | exact (Below.refl _ _).alloc (Nat.le_refl _) _ | (refine bc _ _ (by assumption) (by assumption)))
      refine RegOk.begin_ (n := 22) (T := qL3T) ⟨by kernel_rfl, by kernel_rfl, by kernel_rfl, by kernel_rfl⟩ fun hR => ?_
      refine hR.take (i := 0) (oi := ?ow657_0) (v := ?vw657_0) (m' := 1) ?hw657_0 (by kernel_rfl) (by kernel_rfl) (fun _ _ _ h => h) (Or.inl ⟨?sw657_0, ?yw657_0⟩) (by assumption) ?nw657_0
      case hw657_0 => simp only [List.getElem?_toArray, List.getElem?_cons_succ, List.getElem?_cons_zero]; rfl
      case sw657_0 => rfl
      case yw657_0 => (intro w hSw; (try dsimp only at hSw); go_simp <;> with_reducible rfl)
      try simp only [Act.put, List.setIfInBounds_toArray, List.set_cons_zero, List.set_cons_succ]
      refine hR.take (i := 1) (oi := ?ow658_1) (v := ?vw658_1) (m' := 3) ?hw658_1 (by kernel_rfl) (by kernel_rfl) (fun _ _ _ h => h) (Or.inl ⟨?sw658_1, ?yw658_1⟩) (by assumption) ?nw658_1
      case hw658_1 => simp only [List.getElem?_toArray, List.getElem?_cons_succ, List.getElem?_cons_zero]; rfl
      case sw658_1 => rfl
      case yw658_1 => (intro w hSw; (try dsimp only at hSw); go_simp <;> with_reducible rfl)
      try simp only [Act.put, List.setIfInBounds_toArray, List.set_cons_zero, List.set_cons_succ]
      refine hR.take (i := 2) (oi := ?ow659_2) (v := ?vw659_2) (m' := 7) ?hw659_2 (by kernel_rfl) (by kernel_rfl) (fun _ _ _ h => h) (Or.inl ⟨?sw659_2, ?yw659_2⟩) (by assumption) ?nw659_2
      case hw659_2 => simp only [List.getElem?_toArray, List.getElem?_cons_succ, List.getElem?_cons_zero]; rfl
      case sw659_2 => rfl
      case yw659_2 => (intro w hSw; (try dsimp only at hSw); go_simp <;> with_reducible rfl)
      try simp only [Act.put, List.setIfInBounds_toArray, List.set_cons_zero, List.set_cons_succ]
      refine hR.take (i := 3) (oi := ?ow660_3) (v := ?vw660_3) (m' := 15) ?hw660_3 (by kernel_rfl) (by kernel_rfl) (fun _ _ _ h => h) (Or.inl ⟨?sw660_3, ?yw660_3⟩) (by assumption) ?nw660_3
      case hw660_3 => simp only [List.getElem?_toArray, List.getElem?_cons_succ, List.getElem?_cons_zero]; rfl
      case sw660_3 => rfl
      case yw660_3 => (intro w hSw; (try dsimp only at hSw); go_simp <;> with_reducible rfl)
      try simp only [Act.put, List.setIfInBounds_toArray, List.set_cons_zero, List.set_cons_succ]
      refine hR.take (i := 4) (oi := ?ow661_4) (v := ?vw661_4) (m' := 31) ?hw661_4 (by kernel_rfl) (by kernel_rfl) (fun _ _ _ h => h) (Or.inl ⟨?sw661_4, ?yw661_4⟩) (by assumption) ?nw661_4
      case hw661_4 => simp only [List.getElem?_toArray, List.getElem?_cons_succ, List.getElem?_cons_zero]; rfl
      case sw661_4 => rfl
      case yw661_4 => (intro w hSw; (try dsimp only at hSw); go_simp <;> with_reducible rfl)
      try simp only [Act.put, List.setIfInBounds_toArray, List.set_cons_zero, List.set_cons_succ]
      refine hR.take (i := 5) (oi := ?ow662_5) (v := ?vw662_5) (m' := 63) ?hw662_5 (by kernel_rfl) (by kernel_rfl) (fun _ _ _ h => h) (Or.inl ⟨?sw662_5, ?yw662_5⟩) (by assumption) ?nw662_5
      case hw662_5 => simp only [List.getElem?_toArray, List.getElem?_cons_succ, List.getElem?_cons_zero]; rfl
      case sw662_5 => rfl
      case yw662_5 => (intro w hSw; (try dsimp only at hSw); go_simp <;> with_reducible rfl)
      try simp only [Act.put, List.setIfInBounds_toArray, List.set_cons_zero, List.set_cons_succ]
      refine hR.take (i := 6) (oi := ?ow663_6) (v := ?vw663_6) (m' := 127) ?hw663_6 (by kernel_rfl) (by kernel_rfl) (fun _ _ _ h => h) (Or.inl ⟨?sw663_6, ?yw663_6⟩) (by assumption) ?nw663_6
      case hw663_6 => simp only [List.getElem?_toArray, List.getElem?_cons_succ, List.getElem?_cons_zero]; rfl
      case sw663_6 => rfl
      case yw663_6 => (intro w hSw; (try dsimp only at hSw); go_simp <;> with_reducible rfl)
      try simp only [Act.put, List.setIfInBounds_toArray, List.set_cons_zero, List.set_cons_succ]
      refine hR.come (rs := [7]) (by kernel_rfl) (by simp) ?_
      refine AllReadyH.cons (o := ?o664_7) ?h664_7 (fun K hK => ?kw664_7) AllReadyH.nil
      case h664_7 => simp only [List.getElem?_toArray, List.getElem?_cons_succ, List.getElem?_cons_zero]; rfl
      go_simp
      go_at_call 15; refine (sumsP (q := x) _).mono ?_; rintro e wA ⟨rfl, hA⟩; have hk := bc _ _ (by (first | with_reducible assumption | (with_reducible refine Below.drew ?_; with_reducible assumption) | (with_reducible refine ba _ _ ?_; with_reducible assumption) | (with_reducible refine Below.drew ?_; with_reducible refine ba _ _ ?_; with_reducible assumption) | exact Below.refl _ _ | exact (Below.refl _ _).drew | exact (Below.refl _ _).alloc (Nat.le_refl _) _ | (refine bc _ _ (by assumption) (by assumption)))) hA; clear hA
      refine hK.out _ _ ?_ (fun hHeld => ?_)
      · (first | with_reducible assumption | (with_reducible refine Below.drew ?_; with_reducible assumption) | (with_reducible refine ba _ _ ?_; with_reducible assumption) | (with_reducible refine Below.drew ?_; with_reducible refine ba _ _ ?_; with_reducible assumption) | exact Below.refl _ _ | exact (Below.refl _ _).drew | exact (Below.refl _ _).alloc (Nat.le_refl _) _ | (refine bc _ _ (by assumption) (by assumption)))
      clear hK K
      refine RegOk.put_ (m' := 255) (by kernel_rfl) ?_
      try simp only [Act.put, List.setIfInBounds_toArray, List.set_cons_zero, List.set_cons_succ]
      refine hR.take (i := 8) (oi := ?ow665_8) (v := ?vw665_8) (m' := 511) ?hw665_8 (by kernel_rfl) (by kernel_rfl) (fun _ _ _ h => h) (Or.inl ⟨?sw665_8, ?yw665_8⟩) (by assumption) ?nw665_8
      case hw665_8 => simp only [List.getElem?_toArray, List.getElem?_cons_succ, List.getElem?_cons_zero]; rfl
      case sw665_8 => rfl
      case yw665_8 => (intro w hSw; (try dsimp only at hSw); go_simp <;> with_reducible rfl)
      try simp only [Act.put, List.setIfInBounds_toArray, List.set_cons_zero, List.set_cons_succ]
      refine hR.take (i := 9) (oi := ?ow666_9) (v := ?vw666_9) (m' := 1023) ?hw666_9 (by kernel_rfl) (by kernel_rfl) (fun _ _ _ h => h) (Or.inl ⟨?sw666_9, ?yw666_9⟩) (by assumption) ?nw666_9
      case hw666_9 => simp only [List.getElem?_toArray, List.getElem?_cons_succ, List.getElem?_cons_zero]; rfl
      case sw666_9 => rfl
      case yw666_9 => (intro w hSw; (try dsimp only at hSw); go_simp <;> with_reducible rfl)
      try simp only [Act.put, List.setIfInBounds_toArray, List.set_cons_zero, List.set_cons_succ]
      refine hR.take (i := 10) (oi := ?ow667_10) (v := ?vw667_10) (m' := 2047) ?hw667_10 (by kernel_rfl) (by kernel_rfl) (fun _ _ _ h => h) (Or.inl ⟨?sw667_10, ?yw667_10⟩) (by assumption) ?nw667_10
      case hw667_10 => simp only [List.getElem?_toArray, List.getElem?_cons_succ, List.getElem?_cons_zero]; rfl
      case sw667_10 => rfl
      case yw667_10 => (intro w hSw; (try dsimp only at hSw); go_simp <;> with_reducible rfl)
      try simp only [Act.put, List.setIfInBounds_toArray, List.set_cons_zero, List.set_cons_succ]
      refine hR.take (i := 11) (oi := ?ow668_11) (v := ?vw668_11) (m' := 4095) ?hw668_11 (by kernel_rfl) (by kernel_rfl) (fun _ _ _ h => h) (Or.inl ⟨?sw668_11, ?yw668_11⟩) (by assumption) ?nw668_11
      case hw668_11 => simp only [List.getElem?_toArray, List.getElem?_cons_succ, List.getElem?_cons_zero]; rfl
      case sw668_11 => rfl
      case yw668_11 => (intro w hSw; (try dsimp only at hSw); go_simp <;> with_reducible rfl)
      try simp only [Act.put, List.setIfInBounds_toArray, List.set_cons_zero, List.set_cons_succ]
      refine hR.take (i := 12) (oi := ?ow669_12) (v := ?vw669_12) (m' := 8191) ?hw669_12 (by kernel_rfl) (by kernel_rfl) (fun _ _ _ h => h) (Or.inl ⟨?sw669_12, ?yw669_12⟩) (by assumption) ?nw669_12
      case hw669_12 => simp only [List.getElem?_toArray, List.getElem?_cons_succ, List.getElem?_cons_zero]; rfl
      case sw669_12 => rfl
      case yw669_12 => (intro w hSw; (try dsimp only at hSw); go_simp <;> with_reducible rfl)
      try simp only [Act.put, List.setIfInBounds_toArray, List.set_cons_zero, List.set_cons_succ]
      refine hR.take (i := 13) (oi := ?ow670_13) (v := ?vw670_13) (m' := 16383) ?hw670_13 (by kernel_rfl) (by kernel_rfl) (fun _ _ _ h => h) (Or.inl ⟨?sw670_13, ?yw670_13⟩) (by assumption) ?nw670_13
      case hw670_13 => simp only [List.getElem?_toArray, List.getElem?_cons_succ, List.getElem?_cons_zero]; rfl
      case sw670_13 => rfl
      case yw670_13 => (intro w hSw; (try dsimp only at hSw); go_simp <;> with_reducible rfl)
      try simp only [Act.put, List.setIfInBounds_toArray, List.set_cons_zero, List.set_cons_succ]
      refine hR.take (i := 14) (oi := ?ow671_14) (v := ?vw671_14) (m' := 32767) ?hw671_14 (by kernel_rfl) (by kernel_rfl) (fun _ _ _ h => h) (Or.inl ⟨?sw671_14, ?yw671_14⟩) (by assumption) ?nw671_14
      case hw671_14 => simp only [List.getElem?_toArray, List.getElem?_cons_succ, List.getElem?_cons_zero]; rfl
      case sw671_14 => rfl
      case yw671_14 => (intro w hSw; (try dsimp only at hSw); go_simp <;> with_reducible rfl)
      try simp only [Act.put, List.setIfInBounds_toArray, List.set_cons_zero, List.set_cons_succ]
      refine hR.take (i := 15) (oi := ?ow672_15) (v := ?vw672_15) (m' := 65535) ?hw672_15 (by kernel_rfl) (by kernel_rfl) (fun _ _ _ h => h) (Or.inl ⟨?sw672_15, ?yw672_15⟩) (by assumption) ?nw672_15
      case hw672_15 => simp only [List.getElem?_toArray, List.getElem?_cons_succ, List.getElem?_cons_zero]; rfl
      case sw672_15 => rfl
      case yw672_15 => (intro w hSw; (try dsimp only at hSw); go_simp <;> with_reducible rfl)
      try simp only [Act.put, List.setIfInBounds_toArray, List.set_cons_zero, List.set_cons_succ]
      refine hR.take (i := 16) (oi := ?ow673_16) (v := ?vw673_16) (m' := 131071) ?hw673_16 (by kernel_rfl) (by kernel_rfl) (fun _ _ _ h => h) (Or.inl ⟨?sw673_16, ?yw673_16⟩) (by assumption) ?nw673_16
      case hw673_16 => simp only [List.getElem?_toArray, List.getElem?_cons_succ, List.getElem?_cons_zero]; rfl
      case sw673_16 => rfl
      case yw673_16 => (intro w hSw; (try dsimp only at hSw); go_simp <;> with_reducible rfl)
      try simp only [Act.put, List.setIfInBounds_toArray, List.set_cons_zero, List.set_cons_succ]
      refine hR.take (i := 17) (oi := ?ow674_17) (v := ?vw674_17) (m' := 262143) ?hw674_17 (by kernel_rfl) (by kernel_rfl) (fun _ _ _ h => h) (Or.inl ⟨?sw674_17, ?yw674_17⟩) (by assumption) ?nw674_17
      case hw674_17 => simp only [List.getElem?_toArray, List.getElem?_cons_succ, List.getElem?_cons_zero]; rfl
      case sw674_17 => rfl
      case yw674_17 => (intro w hSw; (try dsimp only at hSw); go_simp <;> with_reducible rfl)
      try simp only [Act.put, List.setIfInBounds_toArray, List.set_cons_zero, List.set_cons_succ]
      refine hR.take (i := 18) (oi := ?ow675_18) (v := ?vw675_18) (m' := 524287) ?hw675_18 (by kernel_rfl) (by kernel_rfl) (fun _ _ _ h => h) (Or.inr ⟨?sw675_18, ?yw675_18⟩) (by assumption) ?nw675_18
      case hw675_18 => simp only [List.getElem?_toArray, List.getElem?_cons_succ, List.getElem?_cons_zero]; rfl
      case sw675_18 => rfl
      case yw675_18 => rfl
      try simp only [Act.put, List.setIfInBounds_toArray, List.set_cons_zero, List.set_cons_succ]
      refine hR.take (i := 19) (oi := ?ow676_19) (v := ?vw676_19) (m' := 1048575) ?hw676_19 (by kernel_rfl) (by kernel_rfl) (fun _ _ _ h => h) (Or.inr ⟨?sw676_19, ?yw676_19⟩) (by assumption) ?nw676_19
      case hw676_19 => simp only [List.getElem?_toArray, List.getElem?_cons_succ, List.getElem?_cons_zero]; rfl
      case sw676_19 => rfl
      case yw676_19 => rfl
      try simp only [Act.put, List.setIfInBounds_toArray, List.set_cons_zero, List.set_cons_succ]
      refine hR.take (i := 20) (oi := ?ow677_20) (v := ?vw677_20) (m' := 2097151) ?hw677_20 (by kernel_rfl) (by kernel_rfl) (fun _ _ _ h => h) (Or.inl ⟨?sw677_20, ?yw677_20⟩) (by assumption) ?nw677_20
      case hw677_20 => simp only [List.getElem?_toArray, List.getElem?_cons_succ, List.getElem?_cons_zero]; rfl
      case sw677_20 => rfl
      case yw677_20 => (intro w hSw; (try dsimp only at hSw); go_simp <;> with_reducible rfl)
      try simp only [Act.put, List.setIfInBounds_toArray, List.set_cons_zero, List.set_cons_succ]
      refine hR.take (i := 21) (oi := ?ow678_21) (v := ?vw678_21) (m' := 4194303) ?hw678_21 (by kernel_rfl) (by kernel_rfl) (fun _ _ _ h => h) (Or.inl ⟨?sw678_21, ?yw678_21⟩) (by assumption) ?nw678_21
      case hw678_21 => simp only [List.getElem?_toArray, List.getElem?_cons_succ, List.getElem?_cons_zero]; rfl
      case sw678_21 => rfl
      case yw678_21 => (intro w hSw; (try dsimp only at hSw); go_simp <;> with_reducible rfl)
      try simp only [Act.put, List.setIfInBounds_toArray, List.set_cons_zero, List.set_cons_succ]
      refine hR.all (by kernel_rfl) ?_ _
      refine NoPanic.normal ?_
      go_wp2_with fail
      go_meet
      exact ⟨rfl, rfl, by rw [E6.out, e6]; rfl, by assumption⟩
    · have hk1 : (0 : Int) < (k : Int) := by omega
      rw [E5.out, E6.out, e6, e5]
      simp only [if_true]
      go_upto_region 6 with fail
      refine wp_region_noPanic ?_
      refine wp_region_held_drew (S := fun X => Below w6.heap.size w6 X) (by kernel_rfl) ?_ (fun hHeld => ?_)
      · (first | with_reducible assumption | (with_reducible refine Below.drew ?_; with_reducible assumption) | (with_reducible refine ba _ _ ?_; with_reducible assumption) | (with_reducible refine Below.drew ?_; with_reducible refine ba _ _ ?_; with_reducible assumption) | exact Below.refl _ _ | exact (Below.refl _ _).drew | exact (Below.refl _ _).alloc (Nat.le_refl _) _ | (refine bc _ _ (by assumption) (by assumption)))
      refine RegOk.begin_ (n := 22) (T := qL3T) ⟨by kernel_rfl, by kernel_rfl, by kernel_rfl, by kernel_rfl⟩ fun hR => ?_
      refine hR.take (i := 0) (oi := ?ow679_0) (v := ?vw679_0) (m' := 1) ?hw679_0 (by kernel_rfl) (by kernel_rfl) (fun _ _ _ h => h) (Or.inl ⟨?sw679_0, ?yw679_0⟩) (by assumption) ?nw679_0
      case hw679_0 => simp only [List.getElem?_toArray, List.getElem?_cons_succ, List.getElem?_cons_zero]; rfl
      case sw679_0 => rfl
      case yw679_0 => (intro w hSw; (try dsimp only at hSw); go_simp <;> with_reducible rfl)
      try simp only [Act.put, List.setIfInBounds_toArray, List.set_cons_zero, List.set_cons_succ]
      refine hR.take (i := 1) (oi := ?ow680_1) (v := ?vw680_1) (m' := 3) ?hw680_1 (by kernel_rfl) (by kernel_rfl) (fun _ _ _ h => h) (Or.inl ⟨?sw680_1, ?yw680_1⟩) (by assumption) ?nw680_1
      case hw680_1 => simp only [List.getElem?_toArray, List.getElem?_cons_succ, List.getElem?_cons_zero]; rfl
      case sw680_1 => rfl
      case yw680_1 => (intro w hSw; (try dsimp only at hSw); go_simp <;> with_reducible rfl)
      try simp only [Act.put, List.setIfInBounds_toArray, List.set_cons_zero, List.set_cons_succ]
      refine hR.take (i := 2) (oi := ?ow681_2) (v := ?vw681_2) (m' := 7) ?hw681_2 (by kernel_rfl) (by kernel_rfl) (fun _ _ _ h => h) (Or.inl ⟨?sw681_2, ?yw681_2⟩) (by assumption) ?nw681_2
      case hw681_2 => simp only [List.getElem?_toArray, List.getElem?_cons_succ, List.getElem?_cons_zero]; rfl
      case sw681_2 => rfl
      case yw681_2 => (intro w hSw; (try dsimp only at hSw); go_simp <;> with_reducible rfl)
      try simp only [Act.put, List.setIfInBounds_toArray, List.set_cons_zero, List.set_cons_succ]
      refine hR.take (i := 3) (oi := ?ow682_3) (v := ?vw682_3) (m' := 15) ?hw682_3 (by kernel_rfl) (by kernel_rfl) (fun _ _ _ h => h) (Or.inl ⟨?sw682_3, ?yw682_3⟩) (by assumption) ?nw682_3
      case hw682_3 => simp only [List.getElem?_toArray, List.getElem?_cons_succ, List.getElem?_cons_zero]; rfl
      case sw682_3 => rfl
      case yw682_3 => (intro w hSw; (try dsimp only at hSw); go_simp <;> with_reducible rfl)
      try simp only [Act.put, List.setIfInBounds_toArray, List.set_cons_zero, List.set_cons_succ]
      refine hR.take (i := 4) (oi := ?ow683_4) (v := ?vw683_4) (m' := 31) ?hw683_4 (by kernel_rfl) (by kernel_rfl) (fun _ _ _ h => h) (Or.inl ⟨?sw683_4, ?yw683_4⟩) (by assumption) ?nw683_4
      case hw683_4 => simp only [List.getElem?_toArray, List.getElem?_cons_succ, List.getElem?_cons_zero]; rfl
      case sw683_4 => rfl
      case yw683_4 => (intro w hSw; (try dsimp only at hSw); go_simp <;> with_reducible rfl)
      try simp only [Act.put, List.setIfInBounds_toArray, List.set_cons_zero, List.set_cons_succ]
      refine hR.take (i := 5) (oi := ?ow684_5) (v := ?vw684_5) (m' := 63) ?hw684_5 (by kernel_rfl) (by kernel_rfl) (fun _ _ _ h => h) (Or.inl ⟨?sw684_5, ?yw684_5⟩) (by assumption) ?nw684_5
      case hw684_5 => simp only [List.getElem?_toArray, List.getElem?_cons_succ, List.getElem?_cons_zero]; rfl
      case sw684_5 => rfl
      case yw684_5 => (intro w hSw; (try dsimp only at hSw); go_simp <;> with_reducible rfl)
      try simp only [Act.put, List.setIfInBounds_toArray, List.set_cons_zero, List.set_cons_succ]
      refine hR.take (i := 6) (oi := ?ow685_6) (v := ?vw685_6) (m' := 127) ?hw685_6 (by kernel_rfl) (by kernel_rfl) (fun _ _ _ h => h) (Or.inl ⟨?sw685_6, ?yw685_6⟩) (by assumption) ?nw685_6
      case hw685_6 => simp only [List.getElem?_toArray, List.getElem?_cons_succ, List.getElem?_cons_zero]; rfl
      case sw685_6 => rfl
      case yw685_6 => (intro w hSw; (try dsimp only at hSw); go_simp <;> with_reducible rfl)
      try simp only [Act.put, List.setIfInBounds_toArray, List.set_cons_zero, List.set_cons_succ]
      refine hR.come (rs := [7]) (by kernel_rfl) (by simp) ?_
      refine AllReadyH.cons (o := ?o686_7) ?h686_7 (fun K hK => ?kw686_7) AllReadyH.nil
      case h686_7 => simp only [List.getElem?_toArray, List.getElem?_cons_succ, List.getElem?_cons_zero]; rfl
      go_simp
      go_at_call 15; refine (sumsP (q := x) _).mono ?_; rintro e wA ⟨rfl, hA⟩; have hk := bc _ _ (by (first | with_reducible assumption | (with_reducible refine Below.drew ?_; with_reducible assumption) | (with_reducible refine ba _ _ ?_; with_reducible assumption) | (with_reducible refine Below.drew ?_; with_reducible refine ba _ _ ?_; with_reducible assumption) | exact Below.refl _ _ | exact (Below.refl _ _).drew | exact (Below.refl _ _).alloc (Nat.le_refl _) _ | (refine bc _ _ (by assumption) (by assumption)))) hA; clear hA
      refine hK.out _ _ ?_ (fun hHeld => ?_)
      · (first | with_reducible assumption | (with_reducible refine Below.drew ?_; with_reducible assumption) | (with_reducible refine ba _ _ ?_; with_reducible assumption) | (with_reducible refine Below.drew ?_; with_reducible refine ba _ _ ?_; with_reducible assumption) | exact Below.refl _ _ | exact (Below.refl _ _).drew | exact (Below.refl _ _).alloc (Nat.le_refl _) _ | (refine bc _ _ (by assumption) (by assumption)))
      clear hK K
      refine RegOk.put_ (m' := 255) (by kernel_rfl) ?_
      try simp only [Act.put, List.setIfInBounds_toArray, List.set_cons_zero, List.set_cons_succ]
      refine hR.take (i := 8) (oi := ?ow687_8) (v := ?vw687_8) (m' := 511) ?hw687_8 (by kernel_rfl) (by kernel_rfl) (fun _ _ _ h => h) (Or.inl ⟨?sw687_8, ?yw687_8⟩) (by assumption) ?nw687_8
      case hw687_8 => simp only [List.getElem?_toArray, List.getElem?_cons_succ, List.getElem?_cons_zero]; rfl
      case sw687_8 => rfl
      case yw687_8 => (intro w hSw; (try dsimp only at hSw); go_simp <;> with_reducible rfl)
      try simp only [Act.put, List.setIfInBounds_toArray, List.set_cons_zero, List.set_cons_succ]
      refine hR.take (i := 9) (oi := ?ow688_9) (v := ?vw688_9) (m' := 1023) ?hw688_9 (by kernel_rfl) (by kernel_rfl) (fun _ _ _ h => h) (Or.inl ⟨?sw688_9, ?yw688_9⟩) (by assumption) ?nw688_9
      case hw688_9 => simp only [List.getElem?_toArray, List.getElem?_cons_succ, List.getElem?_cons_zero]; rfl
      case sw688_9 => rfl
      case yw688_9 => (intro w hSw; (try dsimp only at hSw); go_simp <;> with_reducible rfl)
      try simp only [Act.put, List.setIfInBounds_toArray, List.set_cons_zero, List.set_cons_succ]
      refine hR.take (i := 10) (oi := ?ow689_10) (v := ?vw689_10) (m' := 2047) ?hw689_10 (by kernel_rfl) (by kernel_rfl) (fun _ _ _ h => h) (Or.inl ⟨?sw689_10, ?yw689_10⟩) (by assumption) ?nw689_10
      case hw689_10 => simp only [List.getElem?_toArray, List.getElem?_cons_succ, List.getElem?_cons_zero]; rfl
      case sw689_10 => rfl
      case yw689_10 => (intro w hSw; (try dsimp only at hSw); go_simp <;> with_reducible rfl)
      try simp only [Act.put, List.setIfInBounds_toArray, List.set_cons_zero, List.set_cons_succ]
      refine hR.take (i := 11) (oi := ?ow690_11) (v := ?vw690_11) (m' := 4095) ?hw690_11 (by kernel_rfl) (by kernel_rfl) (fun _ _ _ h => h) (Or.inl ⟨?sw690_11, ?yw690_11⟩) (by assumption) ?nw690_11
      case hw690_11 => simp only [List.getElem?_toArray, List.getElem?_cons_succ, List.getElem?_cons_zero]; rfl
      case sw690_11 => rfl
      case yw690_11 => (intro w hSw; (try dsimp only at hSw); go_simp <;> with_reducible rfl)
      try simp only [Act.put, List.setIfInBounds_toArray, List.set_cons_zero, List.set_cons_succ]
      refine hR.take (i := 12) (oi := ?ow691_12) (v := ?vw691_12) (m' := 8191) ?hw691_12 (by kernel_rfl) (by kernel_rfl) (fun _ _ _ h => h) (Or.inl ⟨?sw691_12, ?yw691_12⟩) (by assumption) ?nw691_12
      case hw691_12 => simp only [List.getElem?_toArray, List.getElem?_cons_succ, List.getElem?_cons_zero]; rfl
      case sw691_12 => rfl
      case yw691_12 => (intro w hSw; (try dsimp only at hSw); go_simp <;> with_reducible rfl)
      try simp only [Act.put, List.setIfInBounds_toArray, List.set_cons_zero, List.set_cons_succ]
      refine hR.take (i := 13) (oi := ?ow692_13) (v := ?vw692_13) (m' := 16383) ?hw692_13 (by kernel_rfl) (by kernel_rfl) (fun _ _ _ h => h) (Or.inl ⟨?sw692_13, ?yw692_13⟩) (by assumption) ?nw692_13
      case hw692_13 => simp only [List.getElem?_toArray, List.getElem?_cons_succ, List.getElem?_cons_zero]; rfl
      case sw692_13 => rfl
      case yw692_13 => (intro w hSw; (try dsimp only at hSw); go_simp <;> with_reducible rfl)
      try simp only [Act.put, List.setIfInBounds_toArray, List.set_cons_zero, List.set_cons_succ]
      refine hR.take (i := 14) (oi := ?ow693_14) (v := ?vw693_14) (m' := 32767) ?hw693_14 (by kernel_rfl) (by kernel_rfl) (fun _ _ _ h => h) (Or.inl ⟨?sw693_14, ?yw693_14⟩) (by assumption) ?nw693_14
      case hw693_14 => simp only [List.getElem?_toArray, List.getElem?_cons_succ, List.getElem?_cons_zero]; rfl
      case sw693_14 => rfl
      case yw693_14 => (intro w hSw; (try dsimp only at hSw); go_simp <;> with_reducible rfl)
      try simp only [Act.put, List.setIfInBounds_toArray, List.set_cons_zero, List.set_cons_succ]
      refine hR.take (i := 15) (oi := ?ow694_15) (v := ?vw694_15) (m' := 65535) ?hw694_15 (by kernel_rfl) (by kernel_rfl) (fun _ _ _ h => h) (Or.inl ⟨?sw694_15, ?yw694_15⟩) (by assumption) ?nw694_15
      case hw694_15 => simp only [List.getElem?_toArray, List.getElem?_cons_succ, List.getElem?_cons_zero]; rfl
      case sw694_15 => rfl
      case yw694_15 => (intro w hSw; (try dsimp only at hSw); go_simp <;> with_reducible rfl)
      try simp only [Act.put, List.setIfInBounds_toArray, List.set_cons_zero, List.set_cons_succ]
      refine hR.take (i := 16) (oi := ?ow695_16) (v := ?vw695_16) (m' := 131071) ?hw695_16 (by kernel_rfl) (by kernel_rfl) (fun _ _ _ h => h) (Or.inl ⟨?sw695_16, ?yw695_16⟩) (by assumption) ?nw695_16
      case hw695_16 => simp only [List.getElem?_toArray, List.getElem?_cons_succ, List.getElem?_cons_zero]; rfl
      case sw695_16 => rfl
      case yw695_16 => (intro w hSw; (try dsimp only at hSw); go_simp <;> with_reducible rfl)
      try simp only [Act.put, List.setIfInBounds_toArray, List.set_cons_zero, List.set_cons_succ]
      refine hR.take (i := 17) (oi := ?ow696_17) (v := ?vw696_17) (m' := 262143) ?hw696_17 (by kernel_rfl) (by kernel_rfl) (fun _ _ _ h => h) (Or.inl ⟨?sw696_17, ?yw696_17⟩) (by assumption) ?nw696_17
      case hw696_17 => simp only [List.getElem?_toArray, List.getElem?_cons_succ, List.getElem?_cons_zero]; rfl
      case sw696_17 => rfl
      case yw696_17 => (intro w hSw; (try dsimp only at hSw); go_simp <;> with_reducible rfl)
      try simp only [Act.put, List.setIfInBounds_toArray, List.set_cons_zero, List.set_cons_succ]
      refine hR.take (i := 18) (oi := ?ow697_18) (v := ?vw697_18) (m' := 524287) ?hw697_18 (by kernel_rfl) (by kernel_rfl) (fun _ _ _ h => h) (Or.inl ⟨?sw697_18, ?yw697_18⟩) (by assumption) ?nw697_18
      case hw697_18 => simp only [List.getElem?_toArray, List.getElem?_cons_succ, List.getElem?_cons_zero]; rfl
      case sw697_18 => rfl
      case yw697_18 => (intro w hSw; (try dsimp only at hSw); go_simp <;> with_reducible rfl)
      try simp only [Act.put, List.setIfInBounds_toArray, List.set_cons_zero, List.set_cons_succ]
      refine hR.take (i := 19) (oi := ?ow698_19) (v := ?vw698_19) (m' := 1048575) ?hw698_19 (by kernel_rfl) (by kernel_rfl) (fun _ _ _ h => h) (Or.inl ⟨?sw698_19, ?yw698_19⟩) (by assumption) ?nw698_19
      case hw698_19 => simp only [List.getElem?_toArray, List.getElem?_cons_succ, List.getElem?_cons_zero]; rfl
      case sw698_19 => rfl
      case yw698_19 => (intro w hSw; (try dsimp only at hSw); go_simp <;> with_reducible rfl)
      try simp only [Act.put, List.setIfInBounds_toArray, List.set_cons_zero, List.set_cons_succ]
      refine hR.take (i := 20) (oi := ?ow699_20) (v := ?vw699_20) (m' := 2097151) ?hw699_20 (by kernel_rfl) (by kernel_rfl) (fun _ _ _ h => h) (Or.inl ⟨?sw699_20, ?yw699_20⟩) (by assumption) ?nw699_20
      case hw699_20 => simp only [List.getElem?_toArray, List.getElem?_cons_succ, List.getElem?_cons_zero]; rfl
      case sw699_20 => rfl
      case yw699_20 => (intro w hSw; (try dsimp only at hSw); go_simp <;> with_reducible rfl)
      try simp only [Act.put, List.setIfInBounds_toArray, List.set_cons_zero, List.set_cons_succ]
      refine hR.take (i := 21) (oi := ?ow700_21) (v := ?vw700_21) (m' := 4194303) ?hw700_21 (by kernel_rfl) (by kernel_rfl) (fun _ _ _ h => h) (Or.inl ⟨?sw700_21, ?yw700_21⟩) (by assumption) ?nw700_21
      case hw700_21 => simp only [List.getElem?_toArray, List.getElem?_cons_succ, List.getElem?_cons_zero]; rfl
      case sw700_21 => rfl
      case yw700_21 => (intro w hSw; (try dsimp only at hSw); go_simp <;> with_reducible rfl)
      try simp only [Act.put, List.setIfInBounds_toArray, List.set_cons_zero, List.set_cons_succ]
      refine hR.all (by kernel_rfl) ?_ _
      refine NoPanic.normal ?_
      go_wp2_with fail
      go_meet
      exact ⟨rfl, by rw [E5.out, e5]; rfl, by rw [E6.out, e6]; rfl, by assumption⟩
  obtain ⟨rfl, rfl, rfl, hb7⟩ := hcut
  have hk7 : k ≤ 255 := by omega
  go_wp2_with fail
  go_loopw [15] (fun i wr => ∃ v : Nat, v ≤ L ∧ i = .int .i64 v ∧ Hid (Below w6.heap.size w6 wr)) (fun i _ => L - (intOf i).toNat)
  case atStart => exact ⟨0, Nat.zero_le _, rfl, Lib.hid hb7⟩
  case round =>
    clear hb7
    obtain ⟨v, hv, rfl, hbr⟩ := hrel
    have hkr := hbr.out
    have hv0 : (0 : Int) ≤ (v : Int) := by omega
    by_cases hlt : v < L
    · have hv1 : (v : Int) < (L : Int) := by omega
      obtain ⟨b8, o8, rfl, -, l8, v8⟩ := i64_at (S4.out.keep (Below.agree hkr)) (i := v) (r := 0) (by rw [bound_at HV.out.head.1.1 HV.out.head.1.2 (by rw [← HLS.out]; exact hv1), Int.zero_mul])
      go_wp2_with fail
      go_roundw
      case rel => exact ⟨v + 1, by omega, by go_num, hbr⟩
      case measure => simp [intOf]; omega
    · have hv1 : ¬ (v : Int) < (L : Int) := by omega
      go_wp2_with fail
      clear hlt hv1 hv hv0 z4 hm4
      have e5 := E5.out
      have e6 := E6.out
      cases hok5 : ok5 with
      | false =>
        rw [hok5, if_neg (by simp)] at e5
        cases hok6 : ok6 with
        | false =>
          rw [hok6, if_neg (by simp)] at e6
          (subst e5; subst e6; go_loopw [16] (fun i wx => i = .int .i64 0 ∧ Hid (wx = wr)) (fun _ _ => 0); (case atStart => exact ⟨rfl, Lib.hid rfl⟩); (case round => (obtain ⟨rfl, hwx⟩ := hrel; obtain rfl := hwx.out; go_wp2_with fail; go_ret; exact ⟨rfl, b6.out.trans (hkr.mono b6.out.size)⟩)))
        | true =>
          rw [hok6, if_pos rfl] at e6
          (subst e5; subst e6; go_loopw [16] (fun i wx => i = .int .i64 0 ∧ Hid (wx = wr)) (fun _ _ => 0); (case atStart => exact ⟨rfl, Lib.hid rfl⟩); (case round => (obtain ⟨rfl, hwx⟩ := hrel; obtain rfl := hwx.out; go_wp2_with fail; go_ret; exact ⟨rfl, b6.out.trans (hkr.mono b6.out.size)⟩)))
      | true =>
        rw [hok5, if_pos rfl] at e5
        cases hok6 : ok6 with
        | false =>
          rw [hok6, if_neg (by simp)] at e6
          (subst e5; subst e6; go_loopw [16] (fun i wx => i = .int .i64 0 ∧ Hid (wx = wr)) (fun _ _ => 0); (case atStart => exact ⟨rfl, Lib.hid rfl⟩); (case round => (obtain ⟨rfl, hwx⟩ := hrel; obtain rfl := hwx.out; go_wp2_with fail; go_ret; exact ⟨rfl, b6.out.trans (hkr.mono b6.out.size)⟩)))
        | true =>
          rw [hok6, if_pos rfl] at e6
          subst e5
          subst e6
          have OK6 := Lib.hid (O6.out.trans hok6)
          obtain ⟨B5, d5, y5, s5⟩ := X5.out
          obtain ⟨B6, d6, y6, s6⟩ := X6.out
          rw [HLN.out] at y5 y6
          have Y5 := Lib.hid y5
          have Y6 := Lib.hid y6
          have S5 := Lib.hid s5
          have S6 := Lib.hid s6
          have z5 : ∀ W, Below w6.heap.size w6 W → _ ∧ _ ∧ _ := fun W hW => one (mvQ Y5 hW)
          have z6 : ∀ W, Below w6.heap.size w6 W → _ ∧ _ ∧ _ := fun W hW => one (mvQ Y6 hW)
          have hm5 := s5.max
          rw [HLN.out] at hm5
          clear y5 y6 s5 s6 X5 X6 hok5 hok6
          go_loopw [16] (fun i wx => ∃ v : Nat, v ≤ L ∧ i = .int .i64 v ∧ Hid (Below w6.heap.size w6 wx)) (fun i _ => L - (intOf i).toNat)
          case atStart => exact ⟨0, Nat.zero_le _, rfl, hbr⟩
          case round =>
            obtain ⟨v, hv, rfl, hbx⟩ := hrel
            have hkx := hbx.out
            clear hkr
            have hv0 : (0 : Int) ≤ (v : Int) := by omega
            by_cases hlt : v < L
            · have hv1 : (v : Int) < (L : Int) := by omega
              have hv2 : ¬ (L : Int) ≤ (v : Int) := by omega
              have hvs : (v : Int) < sumsC x.kind := by rw [← HLS.out]; exact hv1
              obtain ⟨a, ha⟩ : ∃ a, (n : Int) * capF x v = a := ⟨_, rfl⟩
              obtain ⟨b, hb⟩ : ∃ b, (nk : Int) * capF x v = b := ⟨_, rfl⟩
              have hab : a * (k : Int) = b := by rw [← ha, ← hb, ← hnk1, Int.mul_assoc, Int.mul_assoc, Int.mul_comm (capF x v)]
              have hbl := bound_lt HV.out (n := nk) (by omega) (by omega) OK6.out hvs
              rw [hb] at hbl
              obtain ⟨b7, o7, rfl, -, l7, v7⟩ := i64_at S5.out (i := v) (r := a) (by rw [bound_at HV.out.head.1.1 HV.out.head.1.2 hvs, ha])
              obtain ⟨b8, o8, rfl, -, l8, v8⟩ := i64_at S6.out (i := v) (r := b) (by rw [bound_at HV.out.head.1.1 HV.out.head.1.2 hvs, hb])
              have zv : ∀ W, Below w6.heap.size w6 W → W.cell? ⟨b7, o7 + v, none⟩ = some (.int .i64 a) ∧ W.cell? ⟨b8, o8 + v, none⟩ = some (.int .i64 b) := fun W hW => ⟨(hW.cell (p := ⟨b7, _, none⟩) l7).trans v7, (hW.cell (p := ⟨b8, _, none⟩) l8).trans v8⟩
              have hwb : IntKind.i64.wrap b = b := IntWalk.i64_in _ (by omega)
              have hwk : IntKind.i64.wrap (k : Int) = k := IntWalk.i64_in _ (by omega)
              clear ha hb hnk1 hvs
              go_upto_region 16 with fail
              refine wp_region_noPanic ?_
              refine wp_region_held_drew (S := fun X => Below w6.heap.size w6 X) (by kernel_rfl) ?_ (fun hHeld => ?_)
              · (first | with_reducible assumption | (with_reducible refine Below.drew ?_; with_reducible assumption) | (with_reducible refine ba _ _ ?_; with_reducible assumption) | (with_reducible refine Below.drew ?_; with_reducible refine ba _ _ ?_; with_reducible assumption) | exact Below.refl _ _ | exact (Below.refl _ _).drew | exact (Below.refl _ _).alloc (Nat.le_refl _) _ | (refine bc _ _ (by assumption) (by assumption)))
              refine RegOk.begin_ (n := 21) (T := qL3U) ⟨by kernel_rfl, by kernel_rfl, by kernel_rfl, by kernel_rfl⟩ fun hR => ?_
              refine hR.take (i := 0) (oi := ?ow701_0) (v := ?vw701_0) (m' := 1) ?hw701_0 (by kernel_rfl) (by kernel_rfl) (fun _ _ _ h => h) (Or.inl ⟨?sw701_0, ?yw701_0⟩) (by assumption) ?nw701_0
              case hw701_0 => simp only [List.getElem?_toArray, List.getElem?_cons_succ, List.getElem?_cons_zero]; rfl
              case sw701_0 => rfl
              case yw701_0 => (intro w hSw; (try dsimp only at hSw); go_simp <;> with_reducible rfl)
              try simp only [Act.put, List.setIfInBounds_toArray, List.set_cons_zero, List.set_cons_succ]
              refine hR.take (i := 1) (oi := ?ow702_1) (v := ?vw702_1) (m' := 3) ?hw702_1 (by kernel_rfl) (by kernel_rfl) (fun _ _ _ h => h) (Or.inl ⟨?sw702_1, ?yw702_1⟩) (by assumption) ?nw702_1
              case hw702_1 => simp only [List.getElem?_toArray, List.getElem?_cons_succ, List.getElem?_cons_zero]; rfl
              case sw702_1 => rfl
              case yw702_1 => (intro w hSw; (try dsimp only at hSw); go_simp <;> with_reducible rfl)
              try simp only [Act.put, List.setIfInBounds_toArray, List.set_cons_zero, List.set_cons_succ]
              refine hR.take (i := 2) (oi := ?ow703_2) (v := ?vw703_2) (m' := 7) ?hw703_2 (by kernel_rfl) (by kernel_rfl) (fun _ _ _ h => h) (Or.inl ⟨?sw703_2, ?yw703_2⟩) (by assumption) ?nw703_2
              case hw703_2 => simp only [List.getElem?_toArray, List.getElem?_cons_succ, List.getElem?_cons_zero]; rfl
              case sw703_2 => rfl
              case yw703_2 => (intro w hSw; (try dsimp only at hSw); go_simp <;> with_reducible rfl)
              try simp only [Act.put, List.setIfInBounds_toArray, List.set_cons_zero, List.set_cons_succ]
              refine hR.take (i := 3) (oi := ?ow704_3) (v := ?vw704_3) (m' := 15) ?hw704_3 (by kernel_rfl) (by kernel_rfl) (fun _ _ _ h => h) (Or.inl ⟨?sw704_3, ?yw704_3⟩) (by assumption) ?nw704_3
              case hw704_3 => simp only [List.getElem?_toArray, List.getElem?_cons_succ, List.getElem?_cons_zero]; rfl
              case sw704_3 => rfl
              case yw704_3 => (intro w hSw; (try dsimp only at hSw); go_simp <;> with_reducible rfl)
              try simp only [Act.put, List.setIfInBounds_toArray, List.set_cons_zero, List.set_cons_succ]
              refine hR.take (i := 4) (oi := ?ow705_4) (v := ?vw705_4) (m' := 31) ?hw705_4 (by kernel_rfl) (by kernel_rfl) (fun _ _ _ h => h) (Or.inl ⟨?sw705_4, ?yw705_4⟩) (by assumption) ?nw705_4
              case hw705_4 => simp only [List.getElem?_toArray, List.getElem?_cons_succ, List.getElem?_cons_zero]; rfl
              case sw705_4 => rfl
              case yw705_4 => (intro w hSw; (try dsimp only at hSw); go_simp <;> with_reducible rfl)
              try simp only [Act.put, List.setIfInBounds_toArray, List.set_cons_zero, List.set_cons_succ]
              refine hR.take (i := 5) (oi := ?ow706_5) (v := ?vw706_5) (m' := 63) ?hw706_5 (by kernel_rfl) (by kernel_rfl) (fun _ _ _ h => h) (Or.inl ⟨?sw706_5, ?yw706_5⟩) (by assumption) ?nw706_5
              case hw706_5 => simp only [List.getElem?_toArray, List.getElem?_cons_succ, List.getElem?_cons_zero]; rfl
              case sw706_5 => rfl
              case yw706_5 => (intro w hSw; (try dsimp only at hSw); go_simp <;> with_reducible rfl)
              try simp only [Act.put, List.setIfInBounds_toArray, List.set_cons_zero, List.set_cons_succ]
              refine hR.take (i := 6) (oi := ?ow707_6) (v := ?vw707_6) (m' := 127) ?hw707_6 (by kernel_rfl) (by kernel_rfl) (fun _ _ _ h => h) (Or.inl ⟨?sw707_6, ?yw707_6⟩) (by assumption) ?nw707_6
              case hw707_6 => simp only [List.getElem?_toArray, List.getElem?_cons_succ, List.getElem?_cons_zero]; rfl
              case sw707_6 => rfl
              case yw707_6 => (intro w hSw; (try dsimp only at hSw); go_simp <;> with_reducible rfl)
              try simp only [Act.put, List.setIfInBounds_toArray, List.set_cons_zero, List.set_cons_succ]
              refine hR.take (i := 7) (oi := ?ow708_7) (v := ?vw708_7) (m' := 255) ?hw708_7 (by kernel_rfl) (by kernel_rfl) (fun _ _ _ h => h) (Or.inl ⟨?sw708_7, ?yw708_7⟩) (by assumption) ?nw708_7
              case hw708_7 => simp only [List.getElem?_toArray, List.getElem?_cons_succ, List.getElem?_cons_zero]; rfl
              case sw708_7 => rfl
              case yw708_7 => (intro w hSw; (try dsimp only at hSw); go_simp <;> with_reducible rfl)
              try simp only [Act.put, List.setIfInBounds_toArray, List.set_cons_zero, List.set_cons_succ]
              refine hR.take (i := 8) (oi := ?ow709_8) (v := ?vw709_8) (m' := 511) ?hw709_8 (by kernel_rfl) (by kernel_rfl) (fun _ _ _ h => h) (Or.inl ⟨?sw709_8, ?yw709_8⟩) (by assumption) ?nw709_8
              case hw709_8 => simp only [List.getElem?_toArray, List.getElem?_cons_succ, List.getElem?_cons_zero]; rfl
              case sw709_8 => rfl
              case yw709_8 => (intro w hSw; (try dsimp only at hSw); go_simp <;> with_reducible rfl)
              try simp only [Act.put, List.setIfInBounds_toArray, List.set_cons_zero, List.set_cons_succ]
              refine hR.take (i := 9) (oi := ?ow710_9) (v := ?vw710_9) (m' := 1023) ?hw710_9 (by kernel_rfl) (by kernel_rfl) (fun _ _ _ h => h) (Or.inl ⟨?sw710_9, ?yw710_9⟩) (by assumption) ?nw710_9
              case hw710_9 => simp only [List.getElem?_toArray, List.getElem?_cons_succ, List.getElem?_cons_zero]; rfl
              case sw710_9 => rfl
              case yw710_9 => (intro w hSw; (try dsimp only at hSw); go_simp <;> with_reducible rfl)
              try simp only [Act.put, List.setIfInBounds_toArray, List.set_cons_zero, List.set_cons_succ]
              refine hR.take (i := 10) (oi := ?ow711_10) (v := ?vw711_10) (m' := 2047) ?hw711_10 (by kernel_rfl) (by kernel_rfl) (fun _ _ _ h => h) (Or.inl ⟨?sw711_10, ?yw711_10⟩) (by assumption) ?nw711_10
              case hw711_10 => simp only [List.getElem?_toArray, List.getElem?_cons_succ, List.getElem?_cons_zero]; rfl
              case sw711_10 => rfl
              case yw711_10 => (intro w hSw; (try dsimp only at hSw); go_simp <;> with_reducible rfl)
              try simp only [Act.put, List.setIfInBounds_toArray, List.set_cons_zero, List.set_cons_succ]
              refine hR.take (i := 11) (oi := ?ow712_11) (v := ?vw712_11) (m' := 4095) ?hw712_11 (by kernel_rfl) (by kernel_rfl) (fun _ _ _ h => h) (Or.inl ⟨?sw712_11, ?yw712_11⟩) (by assumption) ?nw712_11
              case hw712_11 => simp only [List.getElem?_toArray, List.getElem?_cons_succ, List.getElem?_cons_zero]; rfl
              case sw712_11 => rfl
              case yw712_11 => (intro w hSw; (try dsimp only at hSw); go_simp <;> with_reducible rfl)
              try simp only [Act.put, List.setIfInBounds_toArray, List.set_cons_zero, List.set_cons_succ]
              refine hR.take (i := 12) (oi := ?ow713_12) (v := ?vw713_12) (m' := 8191) ?hw713_12 (by kernel_rfl) (by kernel_rfl) (fun _ _ _ h => h) (Or.inl ⟨?sw713_12, ?yw713_12⟩) (by assumption) ?nw713_12
              case hw713_12 => simp only [List.getElem?_toArray, List.getElem?_cons_succ, List.getElem?_cons_zero]; rfl
              case sw713_12 => rfl
              case yw713_12 => (intro w hSw; (try dsimp only at hSw); go_simp <;> with_reducible rfl)
              try simp only [Act.put, List.setIfInBounds_toArray, List.set_cons_zero, List.set_cons_succ]
              refine hR.take (i := 13) (oi := ?ow714_13) (v := ?vw714_13) (m' := 16383) ?hw714_13 (by kernel_rfl) (by kernel_rfl) (fun _ _ _ h => h) (Or.inl ⟨?sw714_13, ?yw714_13⟩) (by assumption) ?nw714_13
              case hw714_13 => simp only [List.getElem?_toArray, List.getElem?_cons_succ, List.getElem?_cons_zero]; rfl
              case sw714_13 => rfl
              case yw714_13 => (intro w hSw; (try dsimp only at hSw); go_simp <;> with_reducible rfl)
              try simp only [Act.put, List.setIfInBounds_toArray, List.set_cons_zero, List.set_cons_succ]
              refine hR.take (i := 14) (oi := ?ow715_14) (v := ?vw715_14) (m' := 32767) ?hw715_14 (by kernel_rfl) (by kernel_rfl) (fun _ _ _ h => h) (Or.inl ⟨?sw715_14, ?yw715_14⟩) (by assumption) ?nw715_14
              case hw715_14 => simp only [List.getElem?_toArray, List.getElem?_cons_succ, List.getElem?_cons_zero]; rfl
              case sw715_14 => rfl
              case yw715_14 => (intro w hSw; (try dsimp only at hSw); go_simp <;> with_reducible rfl)
              try simp only [Act.put, List.setIfInBounds_toArray, List.set_cons_zero, List.set_cons_succ]
              refine hR.take (i := 15) (oi := ?ow716_15) (v := ?vw716_15) (m' := 65535) ?hw716_15 (by kernel_rfl) (by kernel_rfl) (fun _ _ _ h => h) (Or.inl ⟨?sw716_15, ?yw716_15⟩) (by assumption) ?nw716_15
              case hw716_15 => simp only [List.getElem?_toArray, List.getElem?_cons_succ, List.getElem?_cons_zero]; rfl
              case sw716_15 => rfl
              case yw716_15 => (intro w hSw; (try dsimp only at hSw); go_simp <;> with_reducible rfl)
              try simp only [Act.put, List.setIfInBounds_toArray, List.set_cons_zero, List.set_cons_succ]
              refine hR.take (i := 16) (oi := ?ow717_16) (v := ?vw717_16) (m' := 131071) ?hw717_16 (by kernel_rfl) (by kernel_rfl) (fun _ _ _ h => h) (Or.inl ⟨?sw717_16, ?yw717_16⟩) (by assumption) ?nw717_16
              case hw717_16 => simp only [List.getElem?_toArray, List.getElem?_cons_succ, List.getElem?_cons_zero]; rfl
              case sw717_16 => rfl
              case yw717_16 => (intro w hSw; (try dsimp only at hSw); go_simp <;> with_reducible rfl)
              try simp only [Act.put, List.setIfInBounds_toArray, List.set_cons_zero, List.set_cons_succ]
              refine hR.take (i := 17) (oi := ?ow718_17) (v := ?vw718_17) (m' := 262143) ?hw718_17 (by kernel_rfl) (by kernel_rfl) (fun _ _ _ h => h) (Or.inl ⟨?sw718_17, ?yw718_17⟩) (by assumption) ?nw718_17
              case hw718_17 => simp only [List.getElem?_toArray, List.getElem?_cons_succ, List.getElem?_cons_zero]; rfl
              case sw718_17 => rfl
              case yw718_17 => (intro w hSw; (try dsimp only at hSw); go_simp <;> with_reducible rfl)
              try simp only [Act.put, List.setIfInBounds_toArray, List.set_cons_zero, List.set_cons_succ]
              refine hR.take (i := 18) (oi := ?ow719_18) (v := ?vw719_18) (m' := 524287) ?hw719_18 (by kernel_rfl) (by kernel_rfl) (fun _ _ _ h => h) (Or.inl ⟨?sw719_18, ?yw719_18⟩) (by assumption) ?nw719_18
              case hw719_18 => simp only [List.getElem?_toArray, List.getElem?_cons_succ, List.getElem?_cons_zero]; rfl
              case sw719_18 => rfl
              case yw719_18 => (intro w hSw; (try dsimp only at hSw); go_simp <;> with_reducible rfl)
              try simp only [Act.put, List.setIfInBounds_toArray, List.set_cons_zero, List.set_cons_succ]
              refine hR.take (i := 19) (oi := ?ow720_19) (v := ?vw720_19) (m' := 1048575) ?hw720_19 (by kernel_rfl) (by kernel_rfl) (fun _ _ _ h => h) (Or.inl ⟨?sw720_19, ?yw720_19⟩) (by assumption) ?nw720_19
              case hw720_19 => simp only [List.getElem?_toArray, List.getElem?_cons_succ, List.getElem?_cons_zero]; rfl
              case sw720_19 => rfl
              case yw720_19 => (intro w hSw; (try dsimp only at hSw); go_simp <;> with_reducible rfl)
              try simp only [Act.put, List.setIfInBounds_toArray, List.set_cons_zero, List.set_cons_succ]
              refine hR.take (i := 20) (oi := ?ow721_20) (v := ?vw721_20) (m' := 2097151) ?hw721_20 (by kernel_rfl) (by kernel_rfl) (fun _ _ _ h => h) (Or.inl ⟨?sw721_20, ?yw721_20⟩) (by assumption) ?nw721_20
              case hw721_20 => simp only [List.getElem?_toArray, List.getElem?_cons_succ, List.getElem?_cons_zero]; rfl
              case sw721_20 => rfl
              case yw721_20 => (intro w hSw; (try dsimp only at hSw); go_simp <;> with_reducible rfl)
              try simp only [Act.put, List.setIfInBounds_toArray, List.set_cons_zero, List.set_cons_succ]
              refine hR.all (by kernel_rfl) ?_ _
              refine NoPanic.normal ?_
              go_wp2_with fail
              go_roundw
              case rel => exact ⟨v + 1, by omega, by go_num, Lib.hid (by assumption)⟩
              case measure => simp [intOf]; omega
            · have hv1 : ¬ (v : Int) < (L : Int) := by omega
              go_wp2_with fail
              go_ret
              exact ⟨rfl, b6.out.trans (hkx.mono b6.out.size)⟩
end Go.Proofs.YtihcaoipemcddaaDoor
