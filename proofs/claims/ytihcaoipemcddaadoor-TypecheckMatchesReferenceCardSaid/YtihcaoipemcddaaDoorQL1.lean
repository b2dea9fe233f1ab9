/-
  The law 'TypecheckMatchesReference', walked: it returns true for every input, and nothing that existed changes. Condition: the package's map lies as its text lays it.
-/
import Derived.Test.YtihcaoipemcddaaDoorQ22
namespace Go.Proofs.YtihcaoipemcddaaDoor
open Go.RowKit

theorem same14_eq {xs : List Int} {n : Nat} {A B : Option Addr} {c d : Nat} {S T : Nat → Prop} (w : World) (hn : xs.length = n) (h : Sl .i64 S w A c xs) (k : Sl .i64 T w B d xs) :
    Calls Tryd.prog 14 #[.slice A n c, .slice B n d] w fun e w' => e = .returned (.bool true) ∧ Below w.heap.size w w' := by
  subst hn
  refine (same14 w h k).mono ?_
  rintro e w' ⟨rfl, hb⟩
  exact ⟨by simp, hb⟩
def qL1T : List FRow := [(0, ([], (53, [8]))), (1, ([0], (54, [52]))), (2, ([], (55, [10]))), (3, ([2], (56, [54]))), (4, ([1, 3], (57, [53, 55]))), (5, ([4, 4], (58, [56]))), (6, ([5], (59, [9, 57]))), (7, ([5], (60, [11, 57]))), (8, ([6, 7, 5], (61, [58, 59, 57]))), (9, ([5, 8], (62, [57, 60]))), (10, ([9, 5], (63, [61]))), (11, ([10], (64, [14, 62]))), (12, ([11, 10], (65, [63, 62]))), (13, ([10], (66, [16, 62]))), (14, ([13, 10], (67, [65, 62]))), (15, ([12, 14, 10, 10], (68, [64, 66, 62]))), (16, ([10, 15], (69, [62, 67]))), (17, ([16, 15], (70, [68]))), (18, ([17], (71, [15, 69]))), (19, ([17], (72, [17, 69]))), (20, ([18, 19, 17], (73, [70, 71, 69]))), (21, ([17, 20], (74, [69, 72]))), (22, ([21, 17], (75, [73]))), (23, ([22], (76, [3, 74]))), (24, ([23, 22, 22], (77, [75, 74]))), (25, ([22], (78, [3, 74]))), (26, ([25, 24, 22], (79, [77, 74]))), (27, ([24, 26, 22], (80, [76, 78, 74]))), (28, ([22, 27], (81, [74, 79]))), (29, ([28, 26], (82, [80]))), (30, ([29], (83, [3, 81]))), (31, ([30, 29], (84, [82, 81]))), (32, ([31, 29, 29], (85, [83, 81]))), (33, ([29], (86, [3, 81]))), (34, ([33, 29], (87, [85, 81]))), (35, ([34, 32, 29], (88, [86, 81]))), (36, ([32, 35, 29], (89, [84, 87, 81]))), (37, ([29, 36], (90, [81, 88]))), (38, ([37, 35], (91, [89]))), (39, ([38], (92, [7, 90]))), (40, ([38, 39], (93, [90, 91]))), (41, ([40, 38, 0, 1, 2, 3, 4, 5, 6, 7, 8, 9, 10, 11, 12, 13, 14, 15, 16, 17, 18, 19, 20, 21, 22, 23, 24, 25, 26, 27, 28, 29, 30, 31, 32, 33, 34, 35, 36, 37, 38, 39, 40], (7, [92])))]
set_option maxRecDepth 100000 in
set_option maxHeartbeats 8000000 in
theorem walk_TypecheckMatchesReference {q : Qy} {A : Option Addr} {c : Nat} {rows n : Int} (w : World) (hw : WidOk w) (h : Sl cdE.slice (fun _ => True) w A c q.fs) (hc : -9223372036854775808 ≤ q.col ∧ q.col ≤ 9223372036854775807) (hn : 0 ≤ n ∧ n ≤ 65535) :
    Calls Tryd.prog 3 #[(.agg #[.int .i64 q.kind, .int .i64 q.col, .int .i64 q.k, .slice A q.fs.length c]), .int .i64 rows, .int .u16 n] w fun e w' => e = .returned (.bool true) ∧ Below w.heap.size w w' := by
  have HW := Lib.hid hw
  have H := Lib.hid h
  have hm := h.max
  obtain ⟨hc0, hc1⟩ := hc
  clear hw h
  go_enter Tryd.func3, Tryd.ntmps3
  go_upto_region 1 with fail
  refine wp_world (F := fun wx => Below w.heap.size w wx ∧ Hid (wx.heap[w.heap.size]? = some (.cells #[.int .i64 q.kind, .int .i64 q.col, .int .i64 q.k, .slice A q.fs.length c] 24 (0, 0)))) ⟨(by repeat' (first | with_reducible exact Below.refl _ _ | with_reducible assumption | with_reducible refine Below.setCell ?_ ?_ _ | with_reducible refine Below.drew ?_ | with_reducible refine below_drewN ?_ _ | with_reducible refine Below.alloc ?_ ?_ _ | (rintro _ ⟨⟩; simp <;> omega) | omega | (simp <;> omega))), Lib.hid (heap_alloc_at rfl)⟩ ?_
  rintro w1 ⟨bb, gq⟩
  have b1 := Lib.hid bb
  have W1 := mvW HW bb
  clear bb HW
  go_upto_region 2 with (go_at_call 10; refine (sanityL14 _ W1.out).mono ?_; rintro e w2 ⟨rfl, hb2⟩; have b2 := Lib.hid (b1.out.trans (hb2.mono b1.out.size)); have gq2 := mvQ gq hb2; have W2 := mvW W1 hb2; clear hb2)
  obtain ⟨x0, x1, x2, x3⟩ := row4 gq2
  by_cases h4 : 4 < q.fs.length
  · have h4' : (4 : Int) < (q.fs.length : Int) := by omega
    go_wp2_with fail
    go_ret
    exact ⟨rfl, b2.out⟩
  have h4' : ¬ (4 : Int) < (q.fs.length : Int) := by omega
  have H2 := Lib.hid (H.out.keep (Below.agree b2.out))
  obtain ⟨P, hP⟩ : ∃ P, checkTF q rows = P := ⟨_, rfl⟩
  have HP := Lib.hid hP
  clear hP gq W1 b1 h4 H
  go_upto_region 4 with fail
  clear h4'
  go_cut [8, 9] (fun p e wx => ∃ g, p = .pointer (some ⟨g, 0, none⟩) ∧ e = .int .i64 P.2 ∧ Bx wx g P.1 ∧ Below w2.heap.size w2 wx)
  case first =>
    go_wp2_with (go_at_call 11; refine (checkP (q := q) rows _ W2.out H2.out HP.out).mono ?_; rintro e wC ⟨B, d, rfl, hs, hbC⟩; have HC := Lib.hid hs; have bC := Lib.hid hbC; clear hs hbC)
    go_meet
    case rel => exact ⟨_, rfl, rfl, ⟨B, d, heap_alloc_at rfl, (HC.out.sub (fun _ _ _ => trivial)).keep ((Agree.refl _ _).alloc _)⟩, bC.out.alloc bC.out.size _⟩
  obtain ⟨g3, rfl, rfl, hbx, hb⟩ := hcut
  obtain ⟨w3, hwv⟩ : ∃ x, x = wc := ⟨_, rfl⟩
  subst hwv
  have W3 := mvW W2 hb
  have b3 := Lib.hid (b2.out.trans (hb.mono b2.out.size))
  have X3 := Lib.hid hbx
  have gq3 := mvQ gq2 hb
  have H3 := Lib.hid (H2.out.keep (Below.agree hb))
  clear hbx hb W2 b2 gq2 H2 x0 x1 x2 x3
  obtain ⟨x0, x1, x2, x3⟩ := row4 gq3
  go_upto_region 5 with fail
  go_cut [10, 11] (fun p e wx => ∃ g, p = .pointer (some ⟨g, 0, none⟩) ∧ e = .int .i64 P.2 ∧ Bx wx g P.1 ∧ Below w3.heap.size w3 wx)
  case first =>
    go_wp2_with (go_at_call 12; refine (checkRef (q := q) rows _ H3.out HP.out).mono ?_; rintro e wC ⟨B, d, rfl, hs, hbC⟩; have HC := Lib.hid hs; have bC := Lib.hid hbC; clear hs hbC)
    go_meet
    case rel => exact ⟨_, rfl, rfl, ⟨B, d, heap_alloc_at rfl, (HC.out.sub (fun _ _ _ => trivial)).keep ((Agree.refl _ _).alloc _)⟩, bC.out.alloc bC.out.size _⟩
  obtain ⟨g4, rfl, rfl, hbx, hb⟩ := hcut
  obtain ⟨w4, hwv⟩ : ∃ x, x = wc := ⟨_, rfl⟩
  subst hwv
  have W4 := mvW W3 hb
  have b4 := Lib.hid (b3.out.trans (hb.mono b3.out.size))
  have X4 := Lib.hid hbx
  have gq4 := mvQ gq3 hb
  have H4 := Lib.hid (H3.out.keep (Below.agree hb))
  replace X3 := mvBx X3 hb
  clear hbx hb W3 b3 gq3 H3 x0 x1 x2 x3
  obtain ⟨x0, x1, x2, x3⟩ := row4 gq4
  go_upto_region 6 with fail
  go_cut [12, 13] (fun p e wx => ∃ (g : Nat) (x : Qy) (B : Option Addr) (d : Nat), p = .pointer (some ⟨g, 0, none⟩) ∧ e = .int .i64 n ∧ Hid (wx.heap[g]? = some (.cells #[.int .i64 x.kind, .int .i64 x.col, .int .i64 x.k, .slice B x.fs.length d] 24 (0, 0))) ∧ Sl cdE.slice (fun _ => True) wx B d x.fs ∧ Below w4.heap.size w4 wx)
  case first =>
    go_wp2_with (go_at_call 13; refine (made13P (q := q) _ H4.out).mono ?_; rintro e wC ⟨x, -, -, B, d, rfl, hs, hbC⟩; have HC := Lib.hid hs; have bC := Lib.hid hbC; clear hs hbC)
    go_meet
    case rel => exact ⟨_, x, B, d, rfl, rfl, Lib.hid (heap_alloc_at rfl), (HC.out.sub (fun _ _ _ => trivial)).keep ((Agree.refl _ _).alloc _), bC.out.alloc bC.out.size _⟩
  obtain ⟨g5, x, B5, d5, rfl, rfl, gx, hs, hb⟩ := hcut
  obtain ⟨w5, hwv⟩ : ∃ x, x = wc := ⟨_, rfl⟩
  subst hwv
  have W5 := mvW W4 hb
  have b5 := Lib.hid (b4.out.trans (hb.mono b4.out.size))
  have gq5 := mvQ gq4 hb
  have H5 := Lib.hid (H4.out.keep (Below.agree hb))
  have K5 := Lib.hid hs
  replace X3 := mvBx X3 hb
  replace X4 := mvBx X4 hb
  clear hs hb W4 b4 gq4 H4 x0 x1 x2 x3
  obtain ⟨R, hR⟩ : ∃ R, checkTF x n = R := ⟨_, rfl⟩
  have HR := Lib.hid hR
  clear hR
  obtain ⟨y0, y1, y2, y3⟩ := row4 gx
  go_upto_region 7 with fail
  go_cut [14, 15] (fun p e wx => ∃ g, p = .pointer (some ⟨g, 0, none⟩) ∧ e = .int .i64 R.2 ∧ Bx wx g R.1 ∧ Below w5.heap.size w5 wx)
  case first =>
    go_wp2_with (go_at_call 11; refine (checkP (q := x) n _ W5.out K5.out HR.out).mono ?_; rintro e wC ⟨B, d, rfl, hs, hbC⟩; have HC := Lib.hid hs; have bC := Lib.hid hbC; clear hs hbC)
    go_meet
    case rel => exact ⟨_, rfl, rfl, ⟨B, d, heap_alloc_at rfl, (HC.out.sub (fun _ _ _ => trivial)).keep ((Agree.refl _ _).alloc _)⟩, bC.out.alloc bC.out.size _⟩
  obtain ⟨g6, rfl, rfl, hbx, hb⟩ := hcut
  obtain ⟨w6, hwv⟩ : ∃ x, x = wc := ⟨_, rfl⟩
  subst hwv
  have W6 := mvW W5 hb
  have b6 := Lib.hid (b5.out.trans (hb.mono b5.out.size))
  have X6 := Lib.hid hbx
  have gq6 := mvQ gq5 hb
  have gx6 := mvQ gx hb
  have K6 := Lib.hid (K5.out.keep (Below.agree hb))
  replace X3 := mvBx X3 hb
  replace X4 := mvBx X4 hb
  clear hbx hb W5 b5 gq5 gx K5 H5 y0 y1 y2 y3
  obtain ⟨y0, y1, y2, y3⟩ := row4 gx6
  go_upto_region 8 with fail
  go_cut [16, 17] (fun p e wx => ∃ g, p = .pointer (some ⟨g, 0, none⟩) ∧ e = .int .i64 R.2 ∧ Bx wx g R.1 ∧ Below w6.heap.size w6 wx)
  case first =>
    go_wp2_with (go_at_call 12; refine (checkRef (q := x) n _ K6.out HR.out).mono ?_; rintro e wC ⟨B, d, rfl, hs, hbC⟩; have HC := Lib.hid hs; have bC := Lib.hid hbC; clear hs hbC)
    go_meet
    case rel => exact ⟨_, rfl, rfl, ⟨B, d, heap_alloc_at rfl, (HC.out.sub (fun _ _ _ => trivial)).keep ((Agree.refl _ _).alloc _)⟩, bC.out.alloc bC.out.size _⟩
  obtain ⟨g7, rfl, rfl, hbx, hb⟩ := hcut
  obtain ⟨w7, hwv⟩ : ∃ x, x = wc := ⟨_, rfl⟩
  subst hwv
  have W7 := mvW W6 hb
  have b7 := Lib.hid (b6.out.trans (hb.mono b6.out.size))
  have X7 := Lib.hid hbx
  have gq7 := mvQ gq6 hb
  replace X3 := mvBx X3 hb
  replace X4 := mvBx X4 hb
  replace X6 := mvBx X6 hb
  clear hbx hb W6 b6 gq6 gx6 K6 y0 y1 y2 y3 HR HP
  obtain ⟨xs, e1⟩ := P
  obtain ⟨ys, e2⟩ := R
  dsimp only at X3 X4 X6 X7 ⊢
  obtain ⟨B1, d1, y1, s1⟩ := X3.out
  obtain ⟨B2, d2, y2, s2⟩ := X4.out
  obtain ⟨B3, d3, y3, s3⟩ := X6.out
  obtain ⟨B4, d4, y4, s4⟩ := X7.out
  have Y1 := Lib.hid y1
  have Y2 := Lib.hid y2
  have Y3 := Lib.hid y3
  have Y4 := Lib.hid y4
  have S1 := Lib.hid s1
  have S2 := Lib.hid s2
  have S3 := Lib.hid s3
  have S4 := Lib.hid s4
  have z1 : ∀ W, Below w7.heap.size w7 W → _ ∧ _ ∧ _ := fun W hW => one (mvQ Y1 hW)
  have z2 : ∀ W, Below w7.heap.size w7 W → _ ∧ _ ∧ _ := fun W hW => one (mvQ Y2 hW)
  have z3 : ∀ W, Below w7.heap.size w7 W → _ ∧ _ ∧ _ := fun W hW => one (mvQ Y3 hW)
  have z4 : ∀ W, Below w7.heap.size w7 W → _ ∧ _ ∧ _ := fun W hW => one (mvQ Y4 hW)
  have zq : ∀ W, Below w7.heap.size w7 W → _ ∧ _ ∧ _ ∧ _ := fun W hW => row4 (mvQ gq7 hW)
  have br : Below w7.heap.size w7 w7 := Below.refl _ _
  have ba : ∀ W o, Below w7.heap.size w7 W → Below w7.heap.size w7 (W.alloc o) := fun W o h => h.alloc h.size o
  have bc : ∀ W W', Below w7.heap.size w7 W → Below W.heap.size W W' → Below w7.heap.size w7 W' := fun W W' h k => h.trans (k.mono h.size)
  clear X3 X4 X6 X7 y1 y2 y3 y4 s1 s2 s3 s4
  go_upto_region 9 with fail
  refine wp_region_noPanic ?_
  refine wp_region_held_drew (S := fun X => Below w7.heap.size w7 X) (by kernel_rfl) ?_ (fun hHeld => ?_)
  · (first | with_reducible assumption | (with_reducible refine Below.drew ?_; with_reducible assumption) | (with_reducible refine ba _ _ ?_; with_reducible assumption) | (with_reducible refine Below.drew ?_; with_reducible refine ba _ _ ?_; with_reducible assumption) | exact Below.refl _ _ | exact (Below.refl _ _).drew | exact (Below.refl _ _).alloc (Nat.le_refl _) _ | (refine bc _ _ (by assumption) (by assumption)))
  refine RegOk.begin_ (n := 42) (T := qL1T) ⟨by kernel_rfl, by kernel_rfl, by kernel_rfl, by kernel_rfl⟩ fun hR => ?_
  refine hR.take (i := 0) (oi := ?ow1_0) (v := ?vw1_0) (m' := 1) ?hw1_0 (by kernel_rfl) (by kernel_rfl) (fun _ _ _ h => h) (Or.inl ⟨?sw1_0, ?yw1_0⟩) (by assumption) ?nw1_0
  case hw1_0 => simp only [List.getElem?_toArray, List.getElem?_cons_succ, List.getElem?_cons_zero]; rfl
  case sw1_0 => rfl
  case yw1_0 => (intro w hSw; (try dsimp only at hSw); go_simp <;> with_reducible rfl)
  try simp only [Act.put, List.setIfInBounds_toArray, List.set_cons_zero, List.set_cons_succ]
  refine hR.take (i := 1) (oi := ?ow2_1) (v := ?vw2_1) (m' := 3) ?hw2_1 (by kernel_rfl) (by kernel_rfl) (fun _ _ _ h => h) (Or.inl ⟨?sw2_1, ?yw2_1⟩) (by assumption) ?nw2_1
  case hw2_1 => simp only [List.getElem?_toArray, List.getElem?_cons_succ, List.getElem?_cons_zero]; rfl
  case sw2_1 => rfl
  case yw2_1 => (intro w hSw; (try dsimp only at hSw); go_simp <;> with_reducible rfl)
  try simp only [Act.put, List.setIfInBounds_toArray, List.set_cons_zero, List.set_cons_succ]
  refine hR.take (i := 2) (oi := ?ow3_2) (v := ?vw3_2) (m' := 7) ?hw3_2 (by kernel_rfl) (by kernel_rfl) (fun _ _ _ h => h) (Or.inl ⟨?sw3_2, ?yw3_2⟩) (by assumption) ?nw3_2
  case hw3_2 => simp only [List.getElem?_toArray, List.getElem?_cons_succ, List.getElem?_cons_zero]; rfl
  case sw3_2 => rfl
  case yw3_2 => (intro w hSw; (try dsimp only at hSw); go_simp <;> with_reducible rfl)
  try simp only [Act.put, List.setIfInBounds_toArray, List.set_cons_zero, List.set_cons_succ]
  refine hR.take (i := 3) (oi := ?ow4_3) (v := ?vw4_3) (m' := 15) ?hw4_3 (by kernel_rfl) (by kernel_rfl) (fun _ _ _ h => h) (Or.inl ⟨?sw4_3, ?yw4_3⟩) (by assumption) ?nw4_3
  case hw4_3 => simp only [List.getElem?_toArray, List.getElem?_cons_succ, List.getElem?_cons_zero]; rfl
  case sw4_3 => rfl
  case yw4_3 => (intro w hSw; (try dsimp only at hSw); go_simp <;> with_reducible rfl)
  try simp only [Act.put, List.setIfInBounds_toArray, List.set_cons_zero, List.set_cons_succ]
  refine hR.come (rs := [4]) (by kernel_rfl) (by simp) ?_
  refine AllReadyH.cons (o := ?o5_4) ?h5_4 (fun K hK => ?kw5_4) AllReadyH.nil
  case h5_4 => simp only [List.getElem?_toArray, List.getElem?_cons_succ, List.getElem?_cons_zero]; rfl
  go_simp
  go_at_call 14; refine (same14_eq _ rfl (S1.out.keep (Below.agree (by (first | with_reducible assumption | (with_reducible refine Below.drew ?_; with_reducible assumption) | (with_reducible refine ba _ _ ?_; with_reducible assumption) | (with_reducible refine Below.drew ?_; with_reducible refine ba _ _ ?_; with_reducible assumption) | exact Below.refl _ _ | exact (Below.refl _ _).drew | exact (Below.refl _ _).alloc (Nat.le_refl _) _ | (refine bc _ _ (by assumption) (by assumption)))))) (S2.out.keep (Below.agree (by (first | with_reducible assumption | (with_reducible refine Below.drew ?_; with_reducible assumption) | (with_reducible refine ba _ _ ?_; with_reducible assumption) | (with_reducible refine Below.drew ?_; with_reducible refine ba _ _ ?_; with_reducible assumption) | exact Below.refl _ _ | exact (Below.refl _ _).drew | exact (Below.refl _ _).alloc (Nat.le_refl _) _ | (refine bc _ _ (by assumption) (by assumption))))))).mono ?_; rintro e wA ⟨rfl, hA⟩; have hk := bc _ _ (by (first | with_reducible assumption | (with_reducible refine Below.drew ?_; with_reducible assumption) | (with_reducible refine ba _ _ ?_; with_reducible assumption) | (with_reducible refine Below.drew ?_; with_reducible refine ba _ _ ?_; with_reducible assumption) | exact Below.refl _ _ | exact (Below.refl _ _).drew | exact (Below.refl _ _).alloc (Nat.le_refl _) _ | (refine bc _ _ (by assumption) (by assumption)))) hA; clear hA
  refine hK.out _ _ ?_ (fun hHeld => ?_)
  · (first | with_reducible assumption | (with_reducible refine Below.drew ?_; with_reducible assumption) | (with_reducible refine ba _ _ ?_; with_reducible assumption) | (with_reducible refine Below.drew ?_; with_reducible refine ba _ _ ?_; with_reducible assumption) | exact Below.refl _ _ | exact (Below.refl _ _).drew | exact (Below.refl _ _).alloc (Nat.le_refl _) _ | (refine bc _ _ (by assumption) (by assumption)))
  clear hK K
  refine RegOk.put_ (m' := 31) (by kernel_rfl) ?_
  try simp only [Act.put, List.setIfInBounds_toArray, List.set_cons_zero, List.set_cons_succ]
  refine hR.take (i := 5) (oi := ?ow6_5) (v := ?vw6_5) (m' := 63) ?hw6_5 (by kernel_rfl) (by kernel_rfl) (fun _ _ _ h => h) (Or.inl ⟨?sw6_5, ?yw6_5⟩) (by assumption) ?nw6_5
  case hw6_5 => simp only [List.getElem?_toArray, List.getElem?_cons_succ, List.getElem?_cons_zero]; rfl
  case sw6_5 => rfl
  case yw6_5 => (intro w hSw; (try dsimp only at hSw); go_simp <;> with_reducible rfl)
  try simp only [Act.put, List.setIfInBounds_toArray, List.set_cons_zero, List.set_cons_succ]
  refine hR.take (i := 6) (oi := ?ow7_6) (v := ?vw7_6) (m' := 127) ?hw7_6 (by kernel_rfl) (by kernel_rfl) (fun _ _ _ h => h) (Or.inl ⟨?sw7_6, ?yw7_6⟩) (by assumption) ?nw7_6
  case hw7_6 => simp only [List.getElem?_toArray, List.getElem?_cons_succ, List.getElem?_cons_zero]; rfl
  case sw7_6 => rfl
  case yw7_6 => (intro w hSw; (try dsimp only at hSw); go_simp <;> with_reducible rfl)
  try simp only [Act.put, List.setIfInBounds_toArray, List.set_cons_zero, List.set_cons_succ]
  refine hR.take (i := 7) (oi := ?ow8_7) (v := ?vw8_7) (m' := 255) ?hw8_7 (by kernel_rfl) (by kernel_rfl) (fun _ _ _ h => h) (Or.inl ⟨?sw8_7, ?yw8_7⟩) (by assumption) ?nw8_7
  case hw8_7 => simp only [List.getElem?_toArray, List.getElem?_cons_succ, List.getElem?_cons_zero]; rfl
  case sw8_7 => rfl
  case yw8_7 => (intro w hSw; (try dsimp only at hSw); go_simp <;> with_reducible rfl)
  try simp only [Act.put, List.setIfInBounds_toArray, List.set_cons_zero, List.set_cons_succ]
  refine hR.take (i := 8) (oi := ?ow9_8) (v := ?vw9_8) (m' := 511) ?hw9_8 (by kernel_rfl) (by kernel_rfl) (fun _ _ _ h => h) (Or.inl ⟨?sw9_8, ?yw9_8⟩) (by assumption) ?nw9_8
  case hw9_8 => simp only [List.getElem?_toArray, List.getElem?_cons_succ, List.getElem?_cons_zero]; rfl
  case sw9_8 => rfl
  case yw9_8 => (intro w hSw; (try dsimp only at hSw); go_simp <;> with_reducible rfl)
  try simp only [Act.put, List.setIfInBounds_toArray, List.set_cons_zero, List.set_cons_succ]
  refine hR.take (i := 9) (oi := ?ow10_9) (v := ?vw10_9) (m' := 1023) ?hw10_9 (by kernel_rfl) (by kernel_rfl) (fun _ _ _ h => h) (Or.inl ⟨?sw10_9, ?yw10_9⟩) (by assumption) ?nw10_9
  case hw10_9 => simp only [List.getElem?_toArray, List.getElem?_cons_succ, List.getElem?_cons_zero]; rfl
  case sw10_9 => rfl
  case yw10_9 => (intro w hSw; (try dsimp only at hSw); go_simp <;> with_reducible rfl)
  try simp only [Act.put, List.setIfInBounds_toArray, List.set_cons_zero, List.set_cons_succ]
  refine hR.take (i := 10) (oi := ?ow11_10) (v := ?vw11_10) (m' := 2047) ?hw11_10 (by kernel_rfl) (by kernel_rfl) (fun _ _ _ h => h) (Or.inl ⟨?sw11_10, ?yw11_10⟩) (by assumption) ?nw11_10
  case hw11_10 => simp only [List.getElem?_toArray, List.getElem?_cons_succ, List.getElem?_cons_zero]; rfl
  case sw11_10 => rfl
  case yw11_10 => (intro w hSw; (try dsimp only at hSw); go_simp <;> with_reducible rfl)
  try simp only [Act.put, List.setIfInBounds_toArray, List.set_cons_zero, List.set_cons_succ]
  refine hR.take (i := 11) (oi := ?ow12_11) (v := ?vw12_11) (m' := 4095) ?hw12_11 (by kernel_rfl) (by kernel_rfl) (fun _ _ _ h => h) (Or.inl ⟨?sw12_11, ?yw12_11⟩) (by assumption) ?nw12_11
  case hw12_11 => simp only [List.getElem?_toArray, List.getElem?_cons_succ, List.getElem?_cons_zero]; rfl
  case sw12_11 => rfl
  case yw12_11 => (intro w hSw; (try dsimp only at hSw); go_simp <;> with_reducible rfl)
  try simp only [Act.put, List.setIfInBounds_toArray, List.set_cons_zero, List.set_cons_succ]
  refine hR.take (i := 12) (oi := ?ow13_12) (v := ?vw13_12) (m' := 8191) ?hw13_12 (by kernel_rfl) (by kernel_rfl) (fun _ _ _ h => h) (Or.inl ⟨?sw13_12, ?yw13_12⟩) (by assumption) ?nw13_12
  case hw13_12 => simp only [List.getElem?_toArray, List.getElem?_cons_succ, List.getElem?_cons_zero]; rfl
  case sw13_12 => rfl
  case yw13_12 => (intro w hSw; (try dsimp only at hSw); go_simp <;> with_reducible rfl)
  try simp only [Act.put, List.setIfInBounds_toArray, List.set_cons_zero, List.set_cons_succ]
  refine hR.take (i := 13) (oi := ?ow14_13) (v := ?vw14_13) (m' := 16383) ?hw14_13 (by kernel_rfl) (by kernel_rfl) (fun _ _ _ h => h) (Or.inl ⟨?sw14_13, ?yw14_13⟩) (by assumption) ?nw14_13
  case hw14_13 => simp only [List.getElem?_toArray, List.getElem?_cons_succ, List.getElem?_cons_zero]; rfl
  case sw14_13 => rfl
  case yw14_13 => (intro w hSw; (try dsimp only at hSw); go_simp <;> with_reducible rfl)
  try simp only [Act.put, List.setIfInBounds_toArray, List.set_cons_zero, List.set_cons_succ]
  refine hR.take (i := 14) (oi := ?ow15_14) (v := ?vw15_14) (m' := 32767) ?hw15_14 (by kernel_rfl) (by kernel_rfl) (fun _ _ _ h => h) (Or.inl ⟨?sw15_14, ?yw15_14⟩) (by assumption) ?nw15_14
  case hw15_14 => simp only [List.getElem?_toArray, List.getElem?_cons_succ, List.getElem?_cons_zero]; rfl
  case sw15_14 => rfl
  case yw15_14 => (intro w hSw; (try dsimp only at hSw); go_simp <;> with_reducible rfl)
  try simp only [Act.put, List.setIfInBounds_toArray, List.set_cons_zero, List.set_cons_succ]
  refine hR.come (rs := [15]) (by kernel_rfl) (by simp) ?_
  refine AllReadyH.cons (o := ?o16_15) ?h16_15 (fun K hK => ?kw16_15) AllReadyH.nil
  case h16_15 => simp only [List.getElem?_toArray, List.getElem?_cons_succ, List.getElem?_cons_zero]; rfl
  go_simp
  go_at_call 14; refine (same14_eq _ rfl (S3.out.keep (Below.agree (by (first | with_reducible assumption | (with_reducible refine Below.drew ?_; with_reducible assumption) | (with_reducible refine ba _ _ ?_; with_reducible assumption) | (with_reducible refine Below.drew ?_; with_reducible refine ba _ _ ?_; with_reducible assumption) | exact Below.refl _ _ | exact (Below.refl _ _).drew | exact (Below.refl _ _).alloc (Nat.le_refl _) _ | (refine bc _ _ (by assumption) (by assumption)))))) (S4.out.keep (Below.agree (by (first | with_reducible assumption | (with_reducible refine Below.drew ?_; with_reducible assumption) | (with_reducible refine ba _ _ ?_; with_reducible assumption) | (with_reducible refine Below.drew ?_; with_reducible refine ba _ _ ?_; with_reducible assumption) | exact Below.refl _ _ | exact (Below.refl _ _).drew | exact (Below.refl _ _).alloc (Nat.le_refl _) _ | (refine bc _ _ (by assumption) (by assumption))))))).mono ?_; rintro e wA ⟨rfl, hA⟩; have hk := bc _ _ (by (first | with_reducible assumption | (with_reducible refine Below.drew ?_; with_reducible assumption) | (with_reducible refine ba _ _ ?_; with_reducible assumption) | (with_reducible refine Below.drew ?_; with_reducible refine ba _ _ ?_; with_reducible assumption) | exact Below.refl _ _ | exact (Below.refl _ _).drew | exact (Below.refl _ _).alloc (Nat.le_refl _) _ | (refine bc _ _ (by assumption) (by assumption)))) hA; clear hA
  refine hK.out _ _ ?_ (fun hHeld => ?_)
  · (first | with_reducible assumption | (with_reducible refine Below.drew ?_; with_reducible assumption) | (with_reducible refine ba _ _ ?_; with_reducible assumption) | (with_reducible refine Below.drew ?_; with_reducible refine ba _ _ ?_; with_reducible assumption) | exact Below.refl _ _ | exact (Below.refl _ _).drew | exact (Below.refl _ _).alloc (Nat.le_refl _) _ | (refine bc _ _ (by assumption) (by assumption)))
  clear hK K
  refine RegOk.put_ (m' := 65535) (by kernel_rfl) ?_
  try simp only [Act.put, List.setIfInBounds_toArray, List.set_cons_zero, List.set_cons_succ]
  refine hR.take (i := 16) (oi := ?ow17_16) (v := ?vw17_16) (m' := 131071) ?hw17_16 (by kernel_rfl) (by kernel_rfl) (fun _ _ _ h => h) (Or.inl ⟨?sw17_16, ?yw17_16⟩) (by assumption) ?nw17_16
  case hw17_16 => simp only [List.getElem?_toArray, List.getElem?_cons_succ, List.getElem?_cons_zero]; rfl
  case sw17_16 => rfl
  case yw17_16 => (intro w hSw; (try dsimp only at hSw); go_simp <;> with_reducible rfl)
  try simp only [Act.put, List.setIfInBounds_toArray, List.set_cons_zero, List.set_cons_succ]
  refine hR.take (i := 17) (oi := ?ow18_17) (v := ?vw18_17) (m' := 262143) ?hw18_17 (by kernel_rfl) (by kernel_rfl) (fun _ _ _ h => h) (Or.inl ⟨?sw18_17, ?yw18_17⟩) (by assumption) ?nw18_17
  case hw18_17 => simp only [List.getElem?_toArray, List.getElem?_cons_succ, List.getElem?_cons_zero]; rfl
  case sw18_17 => rfl
  case yw18_17 => (intro w hSw; (try dsimp only at hSw); go_simp <;> with_reducible rfl)
  try simp only [Act.put, List.setIfInBounds_toArray, List.set_cons_zero, List.set_cons_succ]
  refine hR.take (i := 18) (oi := ?ow19_18) (v := ?vw19_18) (m' := 524287) ?hw19_18 (by kernel_rfl) (by kernel_rfl) (fun _ _ _ h => h) (Or.inl ⟨?sw19_18, ?yw19_18⟩) (by assumption) ?nw19_18
  case hw19_18 => simp only [List.getElem?_toArray, List.getElem?_cons_succ, List.getElem?_cons_zero]; rfl
  case sw19_18 => rfl
  case yw19_18 => (intro w hSw; (try dsimp only at hSw); go_simp <;> with_reducible rfl)
  try simp only [Act.put, List.setIfInBounds_toArray, List.set_cons_zero, List.set_cons_succ]
  refine hR.take (i := 19) (oi := ?ow20_19) (v := ?vw20_19) (m' := 1048575) ?hw20_19 (by kernel_rfl) (by kernel_rfl) (fun _ _ _ h => h) (Or.inl ⟨?sw20_19, ?yw20_19⟩) (by assumption) ?nw20_19
  case hw20_19 => simp only [List.getElem?_toArray, List.getElem?_cons_succ, List.getElem?_cons_zero]; rfl
  case sw20_19 => rfl
  case yw20_19 => (intro w hSw; (try dsimp only at hSw); go_simp <;> with_reducible rfl)
  try simp only [Act.put, List.setIfInBounds_toArray, List.set_cons_zero, List.set_cons_succ]
  refine hR.take (i := 20) (oi := ?ow21_20) (v := ?vw21_20) (m' := 2097151) ?hw21_20 (by kernel_rfl) (by kernel_rfl) (fun _ _ _ h => h) (Or.inl ⟨?sw21_20, ?yw21_20⟩) (by assumption) ?nw21_20
  case hw21_20 => simp only [List.getElem?_toArray, List.getElem?_cons_succ, List.getElem?_cons_zero]; rfl
  case sw21_20 => rfl
  case yw21_20 => (intro w hSw; (try dsimp only at hSw); go_simp <;> with_reducible rfl)
  try simp only [Act.put, List.setIfInBounds_toArray, List.set_cons_zero, List.set_cons_succ]
  refine hR.take (i := 21) (oi := ?ow22_21) (v := ?vw22_21) (m' := 4194303) ?hw22_21 (by kernel_rfl) (by kernel_rfl) (fun _ _ _ h => h) (Or.inl ⟨?sw22_21, ?yw22_21⟩) (by assumption) ?nw22_21
  case hw22_21 => simp only [List.getElem?_toArray, List.getElem?_cons_succ, List.getElem?_cons_zero]; rfl
  case sw22_21 => rfl
  case yw22_21 => (intro w hSw; (try dsimp only at hSw); go_simp <;> with_reducible rfl)
  try simp only [Act.put, List.setIfInBounds_toArray, List.set_cons_zero, List.set_cons_succ]
  refine hR.take (i := 22) (oi := ?ow23_22) (v := ?vw23_22) (m' := 8388607) ?hw23_22 (by kernel_rfl) (by kernel_rfl) (fun _ _ _ h => h) (Or.inl ⟨?sw23_22, ?yw23_22⟩) (by assumption) ?nw23_22
  case hw23_22 => simp only [List.getElem?_toArray, List.getElem?_cons_succ, List.getElem?_cons_zero]; rfl
  case sw23_22 => rfl
  case yw23_22 => (intro w hSw; (try dsimp only at hSw); go_simp <;> with_reducible rfl)
  try simp only [Act.put, List.setIfInBounds_toArray, List.set_cons_zero, List.set_cons_succ]
  refine hR.take (i := 23) (oi := ?ow24_23) (v := ?vw24_23) (m' := 16777215) ?hw24_23 (by kernel_rfl) (by kernel_rfl) (fun _ _ _ h => h) (Or.inl ⟨?sw24_23, ?yw24_23⟩) (by assumption) ?nw24_23
  case hw24_23 => simp only [List.getElem?_toArray, List.getElem?_cons_succ, List.getElem?_cons_zero]; rfl
  case sw24_23 => rfl
  case yw24_23 => (intro w hSw; (try dsimp only at hSw); go_simp <;> with_reducible rfl)
  try simp only [Act.put, List.setIfInBounds_toArray, List.set_cons_zero, List.set_cons_succ]
  refine hR.take (i := 25) (oi := ?ow25_25) (v := ?vw25_25) (m' := 50331647) ?hw25_25 (by kernel_rfl) (by kernel_rfl) (fun _ _ _ h => h) (Or.inl ⟨?sw25_25, ?yw25_25⟩) (by assumption) ?nw25_25
  case hw25_25 => simp only [List.getElem?_toArray, List.getElem?_cons_succ, List.getElem?_cons_zero]; rfl
  case sw25_25 => rfl
  case yw25_25 => (intro w hSw; (try dsimp only at hSw); go_simp <;> with_reducible rfl)
  try simp only [Act.put, List.setIfInBounds_toArray, List.set_cons_zero, List.set_cons_succ]
  refine hR.come (rs := [24]) (by kernel_rfl) (by simp) ?_
  refine AllReadyH.cons (o := ?o26_24) ?h26_24 (fun K hK => ?kw26_24) AllReadyH.nil
  case h26_24 => simp only [List.getElem?_toArray, List.getElem?_cons_succ, List.getElem?_cons_zero]; rfl
  go_simp
  go_at_call 15; refine (sumsP (q := q) _).mono ?_; rintro e wA ⟨rfl, hA⟩; have hk := bc _ _ (by (first | with_reducible assumption | (with_reducible refine Below.drew ?_; with_reducible assumption) | (with_reducible refine ba _ _ ?_; with_reducible assumption) | (with_reducible refine Below.drew ?_; with_reducible refine ba _ _ ?_; with_reducible assumption) | exact Below.refl _ _ | exact (Below.refl _ _).drew | exact (Below.refl _ _).alloc (Nat.le_refl _) _ | (refine bc _ _ (by assumption) (by assumption)))) hA; clear hA
  refine hK.out _ _ ?_ (fun hHeld => ?_)
  · (first | with_reducible assumption | (with_reducible refine Below.drew ?_; with_reducible assumption) | (with_reducible refine ba _ _ ?_; with_reducible assumption) | (with_reducible refine Below.drew ?_; with_reducible refine ba _ _ ?_; with_reducible assumption) | exact Below.refl _ _ | exact (Below.refl _ _).drew | exact (Below.refl _ _).alloc (Nat.le_refl _) _ | (refine bc _ _ (by assumption) (by assumption)))
  clear hK K
  refine RegOk.put_ (m' := 67108863) (by kernel_rfl) ?_
  try simp only [Act.put, List.setIfInBounds_toArray, List.set_cons_zero, List.set_cons_succ]
  refine hR.come (rs := [26]) (by kernel_rfl) (by simp) ?_
  refine AllReadyH.cons (o := ?o27_26) ?h27_26 (fun K hK => ?kw27_26) AllReadyH.nil
  case h27_26 => simp only [List.getElem?_toArray, List.getElem?_cons_succ, List.getElem?_cons_zero]; rfl
  go_simp
  go_at_call 16; refine (sumsRef (q := q) _).mono ?_; rintro e wA ⟨rfl, hA⟩; have hk := bc _ _ (by (first | with_reducible assumption | (with_reducible refine Below.drew ?_; with_reducible assumption) | (with_reducible refine ba _ _ ?_; with_reducible assumption) | (with_reducible refine Below.drew ?_; with_reducible refine ba _ _ ?_; with_reducible assumption) | exact Below.refl _ _ | exact (Below.refl _ _).drew | exact (Below.refl _ _).alloc (Nat.le_refl _) _ | (refine bc _ _ (by assumption) (by assumption)))) hA; clear hA
  refine hK.out _ _ ?_ (fun hHeld => ?_)
  · (first | with_reducible assumption | (with_reducible refine Below.drew ?_; with_reducible assumption) | (with_reducible refine ba _ _ ?_; with_reducible assumption) | (with_reducible refine Below.drew ?_; with_reducible refine ba _ _ ?_; with_reducible assumption) | exact Below.refl _ _ | exact (Below.refl _ _).drew | exact (Below.refl _ _).alloc (Nat.le_refl _) _ | (refine bc _ _ (by assumption) (by assumption)))
  clear hK K
  refine RegOk.put_ (m' := 134217727) (by kernel_rfl) ?_
  try simp only [Act.put, List.setIfInBounds_toArray, List.set_cons_zero, List.set_cons_succ]
  refine hR.take (i := 27) (oi := ?ow28_27) (v := ?vw28_27) (m' := 268435455) ?hw28_27 (by kernel_rfl) (by kernel_rfl) (fun _ _ _ h => h) (Or.inl ⟨?sw28_27, ?yw28_27⟩) (by assumption) ?nw28_27
  case hw28_27 => simp only [List.getElem?_toArray, List.getElem?_cons_succ, List.getElem?_cons_zero]; rfl
  case sw28_27 => rfl
  case yw28_27 => (intro w hSw; (try dsimp only at hSw); go_simp <;> with_reducible rfl)
  try simp only [Act.put, List.setIfInBounds_toArray, List.set_cons_zero, List.set_cons_succ]
  refine hR.take (i := 28) (oi := ?ow29_28) (v := ?vw29_28) (m' := 536870911) ?hw29_28 (by kernel_rfl) (by kernel_rfl) (fun _ _ _ h => h) (Or.inl ⟨?sw29_28, ?yw29_28⟩) (by assumption) ?nw29_28
  case hw29_28 => simp only [List.getElem?_toArray, List.getElem?_cons_succ, List.getElem?_cons_zero]; rfl
  case sw29_28 => rfl
  case yw29_28 => (intro w hSw; (try dsimp only at hSw); go_simp <;> with_reducible rfl)
  try simp only [Act.put, List.setIfInBounds_toArray, List.set_cons_zero, List.set_cons_succ]
  refine hR.take (i := 29) (oi := ?ow30_29) (v := ?vw30_29) (m' := 1073741823) ?hw30_29 (by kernel_rfl) (by kernel_rfl) (fun _ _ _ h => h) (Or.inl ⟨?sw30_29, ?yw30_29⟩) (by assumption) ?nw30_29
  case hw30_29 => simp only [List.getElem?_toArray, List.getElem?_cons_succ, List.getElem?_cons_zero]; rfl
  case sw30_29 => rfl
  case yw30_29 => (intro w hSw; (try dsimp only at hSw); go_simp <;> with_reducible rfl)
  try simp only [Act.put, List.setIfInBounds_toArray, List.set_cons_zero, List.set_cons_succ]
  refine hR.take (i := 30) (oi := ?ow31_30) (v := ?vw31_30) (m' := 2147483647) ?hw31_30 (by kernel_rfl) (by kernel_rfl) (fun _ _ _ h => h) (Or.inl ⟨?sw31_30, ?yw31_30⟩) (by assumption) ?nw31_30
  case hw31_30 => simp only [List.getElem?_toArray, List.getElem?_cons_succ, List.getElem?_cons_zero]; rfl
  case sw31_30 => rfl
  case yw31_30 => (intro w hSw; (try dsimp only at hSw); go_simp <;> with_reducible rfl)
  try simp only [Act.put, List.setIfInBounds_toArray, List.set_cons_zero, List.set_cons_succ]
  refine hR.take (i := 31) (oi := ?ow32_31) (v := ?vw32_31) (m' := 4294967295) ?hw32_31 (by kernel_rfl) (by kernel_rfl) (fun _ _ _ h => h) (Or.inl ⟨?sw32_31, ?yw32_31⟩) (by assumption) ?nw32_31
  case hw32_31 => simp only [List.getElem?_toArray, List.getElem?_cons_succ, List.getElem?_cons_zero]; rfl
  case sw32_31 => rfl
  case yw32_31 => (intro w hSw; (try dsimp only at hSw); go_simp <;> with_reducible rfl)
  try simp only [Act.put, List.setIfInBounds_toArray, List.set_cons_zero, List.set_cons_succ]
  refine hR.take (i := 33) (oi := ?ow33_33) (v := ?vw33_33) (m' := 12884901887) ?hw33_33 (by kernel_rfl) (by kernel_rfl) (fun _ _ _ h => h) (Or.inl ⟨?sw33_33, ?yw33_33⟩) (by assumption) ?nw33_33
  case hw33_33 => simp only [List.getElem?_toArray, List.getElem?_cons_succ, List.getElem?_cons_zero]; rfl
  case sw33_33 => rfl
  case yw33_33 => (intro w hSw; (try dsimp only at hSw); go_simp <;> with_reducible rfl)
  try simp only [Act.put, List.setIfInBounds_toArray, List.set_cons_zero, List.set_cons_succ]
  refine hR.take (i := 34) (oi := ?ow34_34) (v := ?vw34_34) (m' := 30064771071) ?hw34_34 (by kernel_rfl) (by kernel_rfl) (fun _ _ _ h => h) (Or.inl ⟨?sw34_34, ?yw34_34⟩) (by assumption) ?nw34_34
  case hw34_34 => simp only [List.getElem?_toArray, List.getElem?_cons_succ, List.getElem?_cons_zero]; rfl
  case sw34_34 => rfl
  case yw34_34 => (intro w hSw; (try dsimp only at hSw); go_simp <;> with_reducible rfl)
  try simp only [Act.put, List.setIfInBounds_toArray, List.set_cons_zero, List.set_cons_succ]
  refine hR.come (rs := [32]) (by kernel_rfl) (by simp) ?_
  refine AllReadyH.cons (o := ?o35_32) ?h35_32 (fun K hK => ?kw35_32) AllReadyH.nil
  case h35_32 => simp only [List.getElem?_toArray, List.getElem?_cons_succ, List.getElem?_cons_zero]; rfl
  go_simp
  go_at_call 17; refine (bitsP _ (W7.out.keep (by (first | with_reducible assumption | (with_reducible refine Below.drew ?_; with_reducible assumption) | (with_reducible refine ba _ _ ?_; with_reducible assumption) | (with_reducible refine Below.drew ?_; with_reducible refine ba _ _ ?_; with_reducible assumption) | exact Below.refl _ _ | exact (Below.refl _ _).drew | exact (Below.refl _ _).alloc (Nat.le_refl _) _ | (refine bc _ _ (by assumption) (by assumption))))) hc0 hc1).mono ?_; rintro e wA ⟨rfl, rfl⟩
  refine hK.out _ _ ?_ (fun hHeld => ?_)
  · (first | with_reducible assumption | (with_reducible refine Below.drew ?_; with_reducible assumption) | (with_reducible refine ba _ _ ?_; with_reducible assumption) | (with_reducible refine Below.drew ?_; with_reducible refine ba _ _ ?_; with_reducible assumption) | exact Below.refl _ _ | exact (Below.refl _ _).drew | exact (Below.refl _ _).alloc (Nat.le_refl _) _ | (refine bc _ _ (by assumption) (by assumption)))
  clear hK K
  refine RegOk.put_ (m' := 34359738367) (by kernel_rfl) ?_
  try simp only [Act.put, List.setIfInBounds_toArray, List.set_cons_zero, List.set_cons_succ]
  refine hR.come (rs := [35]) (by kernel_rfl) (by simp) ?_
  refine AllReadyH.cons (o := ?o36_35) ?h36_35 (fun K hK => ?kw36_35) AllReadyH.nil
  case h36_35 => simp only [List.getElem?_toArray, List.getElem?_cons_succ, List.getElem?_cons_zero]; rfl
  go_simp
  go_at_call 18; refine (bitsRef _ _).mono ?_; rintro e wA ⟨rfl, rfl⟩
  refine hK.out _ _ ?_ (fun hHeld => ?_)
  · (first | with_reducible assumption | (with_reducible refine Below.drew ?_; with_reducible assumption) | (with_reducible refine ba _ _ ?_; with_reducible assumption) | (with_reducible refine Below.drew ?_; with_reducible refine ba _ _ ?_; with_reducible assumption) | exact Below.refl _ _ | exact (Below.refl _ _).drew | exact (Below.refl _ _).alloc (Nat.le_refl _) _ | (refine bc _ _ (by assumption) (by assumption)))
  clear hK K
  refine RegOk.put_ (m' := 68719476735) (by kernel_rfl) ?_
  try simp only [Act.put, List.setIfInBounds_toArray, List.set_cons_zero, List.set_cons_succ]
  refine hR.take (i := 36) (oi := ?ow37_36) (v := ?vw37_36) (m' := 137438953471) ?hw37_36 (by kernel_rfl) (by kernel_rfl) (fun _ _ _ h => h) (Or.inl ⟨?sw37_36, ?yw37_36⟩) (by assumption) ?nw37_36
  case hw37_36 => simp only [List.getElem?_toArray, List.getElem?_cons_succ, List.getElem?_cons_zero]; rfl
  case sw37_36 => rfl
  case yw37_36 => (intro w hSw; (try dsimp only at hSw); go_simp <;> with_reducible rfl)
  try simp only [Act.put, List.setIfInBounds_toArray, List.set_cons_zero, List.set_cons_succ]
  refine hR.take (i := 37) (oi := ?ow38_37) (v := ?vw38_37) (m' := 274877906943) ?hw38_37 (by kernel_rfl) (by kernel_rfl) (fun _ _ _ h => h) (Or.inl ⟨?sw38_37, ?yw38_37⟩) (by assumption) ?nw38_37
  case hw38_37 => simp only [List.getElem?_toArray, List.getElem?_cons_succ, List.getElem?_cons_zero]; rfl
  case sw38_37 => rfl
  case yw38_37 => (intro w hSw; (try dsimp only at hSw); go_simp <;> with_reducible rfl)
  try simp only [Act.put, List.setIfInBounds_toArray, List.set_cons_zero, List.set_cons_succ]
  refine hR.take (i := 38) (oi := ?ow39_38) (v := ?vw39_38) (m' := 549755813887) ?hw39_38 (by kernel_rfl) (by kernel_rfl) (fun _ _ _ h => h) (Or.inl ⟨?sw39_38, ?yw39_38⟩) (by assumption) ?nw39_38
  case hw39_38 => simp only [List.getElem?_toArray, List.getElem?_cons_succ, List.getElem?_cons_zero]; rfl
  case sw39_38 => rfl
  case yw39_38 => (intro w hSw; (try dsimp only at hSw); go_simp <;> with_reducible rfl)
  try simp only [Act.put, List.setIfInBounds_toArray, List.set_cons_zero, List.set_cons_succ]
  refine hR.take (i := 39) (oi := ?ow40_39) (v := ?vw40_39) (m' := 1099511627775) ?hw40_39 (by kernel_rfl) (by kernel_rfl) (fun _ _ _ h => h) (Or.inl ⟨?sw40_39, ?yw40_39⟩) (by assumption) ?nw40_39
  case hw40_39 => simp only [List.getElem?_toArray, List.getElem?_cons_succ, List.getElem?_cons_zero]; rfl
  case sw40_39 => rfl
  case yw40_39 => (intro w hSw; (try dsimp only at hSw); go_simp <;> with_reducible rfl)
  try simp only [Act.put, List.setIfInBounds_toArray, List.set_cons_zero, List.set_cons_succ]
  refine hR.take (i := 40) (oi := ?ow41_40) (v := ?vw41_40) (m' := 2199023255551) ?hw41_40 (by kernel_rfl) (by kernel_rfl) (fun _ _ _ h => h) (Or.inl ⟨?sw41_40, ?yw41_40⟩) (by assumption) ?nw41_40
  case hw41_40 => simp only [List.getElem?_toArray, List.getElem?_cons_succ, List.getElem?_cons_zero]; rfl
  case sw41_40 => rfl
  case yw41_40 => (intro w hSw; (try dsimp only at hSw); go_simp <;> with_reducible rfl)
  try simp only [Act.put, List.setIfInBounds_toArray, List.set_cons_zero, List.set_cons_succ]
  refine hR.take (i := 41) (oi := ?ow42_41) (v := ?vw42_41) (m' := 4398046511103) ?hw42_41 (by kernel_rfl) (by kernel_rfl) (fun _ _ _ h => h) (Or.inl ⟨?sw42_41, ?yw42_41⟩) (by assumption) ?nw42_41
  case hw42_41 => simp only [List.getElem?_toArray, List.getElem?_cons_succ, List.getElem?_cons_zero]; rfl
  case sw42_41 => rfl
  case yw42_41 => (intro w hSw; (try dsimp only at hSw); go_simp <;> with_reducible rfl)
  try simp only [Act.put, List.setIfInBounds_toArray, List.set_cons_zero, List.set_cons_succ]
  refine hR.all (by kernel_rfl) ?_ _
  refine NoPanic.normal ?_
  go_wp2_with fail
  go_ret
  exact ⟨rfl, b7.out.trans (Below.mono (by assumption) b7.out.size)⟩
end Go.Proofs.YtihcaoipemcddaaDoor
