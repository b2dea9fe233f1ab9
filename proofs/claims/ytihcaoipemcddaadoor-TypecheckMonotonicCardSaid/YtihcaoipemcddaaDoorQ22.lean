/-
  The type checker's law: its sanity (XQ22).
-/
import Derived.Test.YtihcaoipemcddaaDoorQ21
import Derived.Test.YtihcaoipemcddaaDoorQ18
namespace Go.Proofs.YtihcaoipemcddaaDoor
open Go.RowKit

/-- A box of bounds. -/
def Bx (w : World) (g : Nat) (xs : List Int) : Prop := ∃ B d, w.heap[g]? = some (.cells #[.slice B xs.length d] 29 (0, 0)) ∧ Sl .i64 (fun _ => True) w B d xs
theorem Bx.keep {w w' : World} {g : Nat} {xs : List Int} (h : Bx w g xs) (hb : Below w.heap.size w w') : Bx w' g xs := by
  obtain ⟨B, d, h1, h2⟩ := h
  exact ⟨B, d, (hb.block g (heap_lt h1)).trans h1, h2.keep (Below.agree hb)⟩
theorem mvBx {w w' : World} {g : Nat} {xs : List Int} (h : Hid (Bx w g xs)) (hb : Below w.heap.size w w') : Hid (Bx w' g xs) := Lib.hid (h.out.keep hb)
theorem firstN {l : List Int} {A : Option Addr} {c n : Nat} {S : Nat → Prop} {x : Int} (hn : l.length = n) (hx : l.headD (-1) = x) (w : World) (h : Sl .i64 S w A c l) : Calls Tryd.prog 29 #[.agg #[.slice A n c]] w fun e w' => e = .returned (.int .i64 x) ∧ Below w.heap.size w w' := by
  subst hn; subst hx; exact firstL14 w h
theorem first25500 {A : Option Addr} {c : Nat} {S : Nat → Prop} (w : World) (h : Sl .i64 S w A c [25500]) : Calls Tryd.prog 29 #[.agg #[.slice A 1 c]] w fun e w' => e = .returned (.int .i64 25500) ∧ Below w.heap.size w w' := firstN rfl rfl w h
theorem first900 {A : Option Addr} {c : Nat} {S : Nat → Prop} (w : World) (h : Sl .i64 S w A c [900]) : Calls Tryd.prog 29 #[.agg #[.slice A 1 c]] w fun e w' => e = .returned (.int .i64 900) ∧ Below w.heap.size w w' := firstN rfl rfl w h
theorem first27494199689062500 {A : Option Addr} {c : Nat} {S : Nat → Prop} (w : World) (h : Sl .i64 S w A c [27494199689062500]) : Calls Tryd.prog 29 #[.agg #[.slice A 1 c]] w fun e w' => e = .returned (.int .i64 27494199689062500) ∧ Below w.heap.size w w' := firstN rfl rfl w h
theorem sums0 (kd : Int) (w : World) : Calls Tryd.prog 15 #[.agg #[.int .i64 kd, .int .i64 0, .int .i64 0, .slice none 0 0]] w fun e w' => e = .returned (.int .i64 (sumsC kd)) ∧ Below w.heap.size w w' :=
  sumsP (q := ⟨kd, 0, 0, []⟩) (A := none) (c := 0) w
def q22T : List FRow := [(0, ([], (76, [2]))), (1, ([0], (77, [75]))), (2, ([1], (78, [76]))), (3, ([2], (79, [1, 77]))), (4, ([3, 2, 2], (80, [78, 77]))), (5, ([4, 2], (81, [79, 77]))), (6, ([2, 5], (82, [77, 80]))), (7, ([6, 4], (83, [81]))), (8, ([7], (84, [5, 82]))), (9, ([8, 7], (85, [83, 82]))), (10, ([7, 9], (86, [82, 84]))), (11, ([10, 7], (87, [85]))), (12, ([11], (88, [4, 86]))), (13, ([12, 11, 11], (89, [87, 86]))), (14, ([13, 11], (90, [88, 86]))), (15, ([11, 14], (91, [86, 89]))), (16, ([15, 13], (92, [90]))), (17, ([16], (93, [7, 91]))), (18, ([17, 16], (94, [92, 91]))), (19, ([16, 18], (95, [91, 93]))), (20, ([19, 16], (96, [94]))), (21, ([20], (97, [6, 95]))), (22, ([21, 20, 20], (98, [96, 95]))), (23, ([22, 20], (99, [97, 95]))), (24, ([20, 23], (100, [95, 98]))), (25, ([24, 22], (101, [99]))), (26, ([25], (102, [9, 100]))), (27, ([26, 25], (103, [101, 100]))), (28, ([25, 27], (104, [100, 102]))), (29, ([28, 25], (105, [103]))), (30, ([29], (106, [11, 104]))), (31, ([30, 29], (107, [105, 104]))), (32, ([29, 31], (108, [104, 106]))), (33, ([32, 29], (109, [107]))), (34, ([33], (110, [13, 108]))), (35, ([34, 33], (111, [109, 108]))), (36, ([33, 35], (112, [108, 110]))), (37, ([36, 33], (113, [111]))), (38, ([37], (114, [15, 112]))), (39, ([38, 37], (115, [113, 112]))), (40, ([37, 39], (116, [112, 114]))), (41, ([40, 37], (117, [115]))), (42, ([41], (118, [18, 116]))), (43, ([42, 41], (119, [117, 116]))), (44, ([41, 43], (120, [116, 118]))), (45, ([44, 41], (121, [119]))), (46, ([45], (122, [17, 120]))), (47, ([46, 45], (123, [121, 120]))), (48, ([47, 45], (124, [122, 120]))), (49, ([48, 45], (125, [123, 120]))), (50, ([49, 45], (126, [124, 120]))), (51, ([45, 50], (127, [120, 125]))), (52, ([51, 45], (128, [126]))), (53, ([52], (129, [17, 127]))), (54, ([53, 52], (130, [128, 127]))), (55, ([54, 52], (131, [129, 127]))), (56, ([55, 52], (132, [130, 127]))), (57, ([56, 52], (133, [131, 127]))), (58, ([52, 57], (134, [127, 132]))), (59, ([58, 52], (135, [133]))), (60, ([59], (136, [17, 134]))), (61, ([60, 59], (137, [135, 134]))), (62, ([61, 59], (138, [136, 134]))), (63, ([62, 59], (139, [137, 134]))), (64, ([63, 59], (140, [138, 134]))), (65, ([59, 64], (141, [134, 139]))), (66, ([65, 59], (142, [140]))), (67, ([66], (143, [17, 141]))), (68, ([67, 66], (144, [142, 141]))), (69, ([68, 66], (145, [143, 141]))), (70, ([69, 66], (146, [144, 141]))), (71, ([70, 66], (147, [145, 141]))), (72, ([66, 71], (148, [141, 146]))), (73, ([72, 66], (149, [147]))), (74, ([73], (150, [148]))), (75, ([74, 73, 73], (151, [149, 148]))), (76, ([75, 73], (152, [150, 148]))), (77, ([73, 76], (153, [148, 151]))), (78, ([77, 75], (154, [152]))), (79, ([78], (155, [153]))), (80, ([79, 78, 78], (156, [154, 153]))), (81, ([80, 78], (157, [155, 153]))), (82, ([78, 81], (158, [153, 156]))), (83, ([82, 80], (159, [157]))), (84, ([83, 83], (160, [158]))), (85, ([84, 83], (161, [159, 158]))), (86, ([83, 85], (162, [158, 160]))), (87, ([86, 84], (163, [161]))), (88, ([87, 87], (164, [162]))), (89, ([88, 87], (165, [163, 162]))), (90, ([87, 89], (166, [162, 164]))), (91, ([90, 88], (167, [165]))), (92, ([91, 91], (168, [166]))), (93, ([92, 91], (169, [167, 166]))), (94, ([91, 93], (170, [166, 168]))), (95, ([94, 92, 0, 1, 2, 3, 4, 5, 6, 7, 8, 9, 10, 11, 12, 13, 14, 15, 16, 17, 18, 19, 20, 21, 22, 23, 24, 25, 26, 27, 28, 29, 30, 31, 32, 33, 34, 35, 36, 37, 38, 39, 40, 41, 42, 43, 44, 45, 46, 47, 48, 49, 50, 51, 52, 53, 54, 55, 56, 57, 58, 59, 60, 61, 62, 63, 64, 65, 66, 67, 68, 69, 70, 71, 72, 73, 74, 75, 76, 77, 78, 79, 80, 81, 82, 83, 84, 85, 86, 87, 88, 89, 90, 91, 92, 93, 94], (1, [169])))]
def only16 : List Int := [0, 0, 5, 5, 0, 0, 0, 0, 0, 0, 0, 0, 0, 0, 0, 0]
theorem ex1 : checkTF ⟨2, 3, 0, [[]]⟩ 100 = ([25500], 0) := by kernel_rfl
theorem ex2 : checkTF ⟨2, 3, 0, [[⟨3, 3, 9⟩]]⟩ 100 = ([900], 0) := by kernel_rfl
theorem ex3 : checkTF ⟨3, 3, 6, [[]]⟩ 100 = ([27494199689062500], 0) := by kernel_rfl
theorem ex4 : checkTF ⟨3, 3, 6, [[]]⟩ 65536 = ([], 141) := by kernel_rfl
theorem ex5 : checkTF ⟨4, 1, 0, [[]]⟩ 1 = ([], 140) := by kernel_rfl
theorem ex6 : checkTF ⟨1, 0, 0, [[]]⟩ 65537 = ([], 1) := by kernel_rfl
theorem ex7 : checkTF ⟨9, 0, 0, [[]]⟩ 1 = ([], 1) := by kernel_rfl
theorem ex8 : checkTF ⟨4, 0, 0, [[⟨0, 2, 3⟩]]⟩ 5 = (only16, 0) := by kernel_rfl
set_option maxRecDepth 100000 in
set_option maxHeartbeats 8000000 in
theorem sanityL14 (w0 : World) (hw : WidOk w0) : Calls Tryd.prog 10 #[] w0 fun e w' => e = .returned (.bool true) ∧ Below w0.heap.size w0 w' := by
  have W0 := Lib.hid hw
  clear hw
  go_enter Tryd.func10, Tryd.ntmps10
  have bs0 := Lib.hid (Below.refl w0.heap.size w0)
  go_upto_region 1 with fail
  go_cut [1, 2] (fun p e wx => ∃ g, p = .pointer (some ⟨g, 0, none⟩) ∧ e = .int .i64 0 ∧ Bx wx g [25500] ∧ Below w0.heap.size w0 wx)
  case first =>
    have WW := W0
    go_wp2_with (first
      | (go_at_call 28; refine (simpleL14 _ _ _ _).mono ?_; rintro e wI ⟨g, bI, hg, rfl, gI, hbI⟩; have HS := Lib.hid (sl_fs1 (S := fun _ => True) (l := []) gI (Sl.nil_ _ _ _ _ (Nat.zero_le _)) trivial); have HWI := mvW WW hbI; have bI1 := Lib.hid hbI; clear gI hbI)
      | (go_at_call 11; refine (checkP (q := ⟨2, 3, 0, [[]]⟩) 100 _ HWI.out HS.out ex1).mono ?_; rintro e wC ⟨B, d, rfl, hs, hbC⟩; have HC := Lib.hid hs; have bC := Lib.hid (bI1.out.trans (hbC.mono bI1.out.size)); clear hs hbC))
    go_meet
    case rel => exact ⟨_, rfl, rfl, ⟨B, d, heap_alloc_at rfl, (HC.out.sub (fun _ _ _ => trivial)).keep ((Agree.refl _ _).alloc _)⟩, bC.out.alloc bC.out.size _⟩
  obtain ⟨g1, rfl, rfl, hbx, hb⟩ := hcut
  obtain ⟨w1, hwv⟩ : ∃ x, x = wc := ⟨_, rfl⟩
  subst hwv
  have W1 := mvW W0 hb
  have bs1 := Lib.hid (bs0.out.trans (hb.mono bs0.out.size))
  have X1 := Lib.hid hbx
  clear hbx hb W0 bs0
  go_upto_region 2 with fail
  go_cut [3] (fun p wx => ∃ g b f, p = .pointer (some ⟨g, 0, none⟩) ∧ g ≠ f ∧ w1.heap.size ≤ g ∧ w1.heap.size ≤ f ∧ Hid (wx.heap[g]? = some (.cells #[.int .i64 2, .int .i64 3, .int .i64 0, .slice (some ⟨f, 0, none⟩) 1 1] 24 (0, 0))) ∧ Hid (wx.heap[f]? = some (.cells #[.slice (some ⟨b, 0, none⟩) 0 0] 44 (0, 0))) ∧ Below w1.heap.size w1 wx)
  case first =>
    go_wp2_with (go_at_call 28; refine (simpleL14 _ _ _ _).mono ?_; rintro e wI ⟨g, bI, hg, rfl, gI, hbI⟩; have GI := Lib.hid gI; have hlt := heap_lt gI; have bI1 := Lib.hid hbI; clear gI hbI)
    go_meet
    case rel => exact ⟨_, _, _, rfl, by omega, bI1.out.size, hg, Lib.hid (heap_alloc_at rfl), Lib.hid ((Below.heap_alloc _ _ _ hlt).trans GI.out), bI1.out.alloc bI1.out.size _⟩
  obtain ⟨g2, c2, f2, rfl, hne2, hg2, hf2, G2, F2, hb⟩ := hcut
  obtain ⟨w2, hwv⟩ : ∃ x, x = wc := ⟨_, rfl⟩
  subst hwv
  have bb2 := Lib.hid hb
  clear hb
  go_upto_region 3 with fail
  obtain ⟨x0, x1, x2, x3⟩ := row4 G2
  have ff := frz F2.out
  have fg := frz G2.out
  have lf := heap_lt F2.out
  have lg := heap_lt G2.out
  have y0 := cell_of_row w2 f2 0 _ _ _ F2.out
  simp only [List.getElem?_toArray, List.getElem?_cons_zero] at y0
  go_cut [3] (fun p wx => p = .pointer (some ⟨g2, 0, none⟩) ∧ Hid (wx.heap[g2]? = some (.cells #[.int .i64 2, .int .i64 3, .int .i64 0, .slice (some ⟨f2, 0, none⟩) 1 1] 24 (0, 0))) ∧ Hid (Sl cdE.slice (fun _ => True) wx (some ⟨f2, 0, none⟩) 1 [[⟨3, 3, 9⟩]]) ∧ Below w1.heap.size w1 wx)
  case first =>
    go_wp2_with fail
    go_meet
    case rel => exact ⟨rfl, Lib.hid ((Below.heap_alloc _ _ _ (by simpa [World.setCell] using lg)).trans ((Below.heap_setCell _ _ _ _ hne2).trans G2.out)), Lib.hid (sl_fs1 (l := [⟨3, 3, 9⟩]) ((Below.heap_alloc _ _ _ (by simpa [World.setCell] using lf)).trans (heap_set (i := 0) F2.out)) (sl_cd1 (x := ⟨3, 3, 9⟩) (heap_alloc_at (by simp [World.setCell])) trivial) trivial), (bb2.out.setCell hf2 _).alloc (by have := bb2.out.size; simpa [World.setCell] using this) _⟩
  obtain ⟨rfl, G3, S3, hb⟩ := hcut
  obtain ⟨w3, hwv⟩ : ∃ x, x = wc := ⟨_, rfl⟩
  subst hwv
  have W3 := mvW W1 hb
  have bs3 := Lib.hid (bs1.out.trans (hb.mono bs1.out.size))
  replace X1 := mvBx X1 hb
  clear hb x0 x1 x2 x3 ff fg lf lg y0 W1 bs1 G2 F2 bb2 hg2 hf2 hne2
  go_upto_region 4 with fail
  obtain ⟨x0, x1, x2, x3⟩ := row4 G3
  go_cut [4, 5] (fun p e wx => ∃ g, p = .pointer (some ⟨g, 0, none⟩) ∧ e = .int .i64 0 ∧ Bx wx g [900] ∧ Below w3.heap.size w3 wx)
  case first =>
    go_wp2_with (go_at_call 11; refine (checkP (q := ⟨2, 3, 0, [[⟨3, 3, 9⟩]]⟩) 100 _ W3.out S3.out ex2).mono ?_; rintro e wC ⟨B, d, rfl, hs, hbC⟩; have HC := Lib.hid hs; have bC := Lib.hid hbC; clear hs hbC)
    go_meet
    case rel => exact ⟨_, rfl, rfl, ⟨B, d, heap_alloc_at rfl, (HC.out.sub (fun _ _ _ => trivial)).keep ((Agree.refl _ _).alloc _)⟩, bC.out.alloc bC.out.size _⟩
  clear x0 x1 x2 x3 G3 S3
  obtain ⟨g4, rfl, rfl, hbx, hb⟩ := hcut
  obtain ⟨w4, hwv⟩ : ∃ x, x = wc := ⟨_, rfl⟩
  subst hwv
  have W4 := mvW W3 hb
  have bs4 := Lib.hid (bs3.out.trans (hb.mono bs3.out.size))
  have X4 := Lib.hid hbx
  replace X1 := mvBx X1 hb
  clear hbx hb W3 bs3
  go_upto_region 5 with fail
  go_cut [6, 7] (fun p e wx => ∃ g, p = .pointer (some ⟨g, 0, none⟩) ∧ e = .int .i64 0 ∧ Bx wx g [27494199689062500] ∧ Below w4.heap.size w4 wx)
  case first =>
    have WW := W4
    go_wp2_with (first
      | (go_at_call 28; refine (simpleL14 _ _ _ _).mono ?_; rintro e wI ⟨g, bI, hg, rfl, gI, hbI⟩; have HS := Lib.hid (sl_fs1 (S := fun _ => True) (l := []) gI (Sl.nil_ _ _ _ _ (Nat.zero_le _)) trivial); have HWI := mvW WW hbI; have bI1 := Lib.hid hbI; clear gI hbI)
      | (go_at_call 11; refine (checkP (q := ⟨3, 3, 6, [[]]⟩) 100 _ HWI.out HS.out ex3).mono ?_; rintro e wC ⟨B, d, rfl, hs, hbC⟩; have HC := Lib.hid hs; have bC := Lib.hid (bI1.out.trans (hbC.mono bI1.out.size)); clear hs hbC))
    go_meet
    case rel => exact ⟨_, rfl, rfl, ⟨B, d, heap_alloc_at rfl, (HC.out.sub (fun _ _ _ => trivial)).keep ((Agree.refl _ _).alloc _)⟩, bC.out.alloc bC.out.size _⟩
  obtain ⟨g5, rfl, rfl, hbx, hb⟩ := hcut
  obtain ⟨w5, hwv⟩ : ∃ x, x = wc := ⟨_, rfl⟩
  subst hwv
  have W5 := mvW W4 hb
  have bs5 := Lib.hid (bs4.out.trans (hb.mono bs4.out.size))
  have X5 := Lib.hid hbx
  replace X1 := mvBx X1 hb
  replace X4 := mvBx X4 hb
  clear hbx hb W4 bs4
  go_upto_region 6 with fail
  go_cut [8, 9] (fun p e wx => ∃ g, p = .pointer (some ⟨g, 0, none⟩) ∧ e = .int .i64 141 ∧ Bx wx g [] ∧ Below w5.heap.size w5 wx)
  case first =>
    have WW := W5
    go_wp2_with (first
      | (go_at_call 28; refine (simpleL14 _ _ _ _).mono ?_; rintro e wI ⟨g, bI, hg, rfl, gI, hbI⟩; have HS := Lib.hid (sl_fs1 (S := fun _ => True) (l := []) gI (Sl.nil_ _ _ _ _ (Nat.zero_le _)) trivial); have HWI := mvW WW hbI; have bI1 := Lib.hid hbI; clear gI hbI)
      | (go_at_call 11; refine (checkP (q := ⟨3, 3, 6, [[]]⟩) 65536 _ HWI.out HS.out ex4).mono ?_; rintro e wC ⟨B, d, rfl, hs, hbC⟩; have HC := Lib.hid hs; have bC := Lib.hid (bI1.out.trans (hbC.mono bI1.out.size)); clear hs hbC))
    go_meet
    case rel => exact ⟨_, rfl, rfl, ⟨B, d, heap_alloc_at rfl, (HC.out.sub (fun _ _ _ => trivial)).keep ((Agree.refl _ _).alloc _)⟩, bC.out.alloc bC.out.size _⟩
  obtain ⟨g6, rfl, rfl, hbx, hb⟩ := hcut
  obtain ⟨w6, hwv⟩ : ∃ x, x = wc := ⟨_, rfl⟩
  subst hwv
  have W6 := mvW W5 hb
  have bs6 := Lib.hid (bs5.out.trans (hb.mono bs5.out.size))
  replace X1 := mvBx X1 hb
  replace X4 := mvBx X4 hb
  replace X5 := mvBx X5 hb
  clear hbx hb W5 bs5
  go_upto_region 7 with fail
  go_cut [10, 11] (fun p e wx => ∃ g, p = .pointer (some ⟨g, 0, none⟩) ∧ e = .int .i64 140 ∧ Bx wx g [] ∧ Below w6.heap.size w6 wx)
  case first =>
    have WW := W6
    go_wp2_with (first
      | (go_at_call 28; refine (simpleL14 _ _ _ _).mono ?_; rintro e wI ⟨g, bI, hg, rfl, gI, hbI⟩; have HS := Lib.hid (sl_fs1 (S := fun _ => True) (l := []) gI (Sl.nil_ _ _ _ _ (Nat.zero_le _)) trivial); have HWI := mvW WW hbI; have bI1 := Lib.hid hbI; clear gI hbI)
      | (go_at_call 11; refine (checkP (q := ⟨4, 1, 0, [[]]⟩) 1 _ HWI.out HS.out ex5).mono ?_; rintro e wC ⟨B, d, rfl, hs, hbC⟩; have HC := Lib.hid hs; have bC := Lib.hid (bI1.out.trans (hbC.mono bI1.out.size)); clear hs hbC))
    go_meet
    case rel => exact ⟨_, rfl, rfl, ⟨B, d, heap_alloc_at rfl, (HC.out.sub (fun _ _ _ => trivial)).keep ((Agree.refl _ _).alloc _)⟩, bC.out.alloc bC.out.size _⟩
  obtain ⟨g7, rfl, rfl, hbx, hb⟩ := hcut
  obtain ⟨w7, hwv⟩ : ∃ x, x = wc := ⟨_, rfl⟩
  subst hwv
  have W7 := mvW W6 hb
  have bs7 := Lib.hid (bs6.out.trans (hb.mono bs6.out.size))
  replace X1 := mvBx X1 hb
  replace X4 := mvBx X4 hb
  replace X5 := mvBx X5 hb
  clear hbx hb W6 bs6
  go_upto_region 8 with fail
  go_cut [12, 13] (fun p e wx => ∃ g, p = .pointer (some ⟨g, 0, none⟩) ∧ e = .int .i64 1 ∧ Bx wx g [] ∧ Below w7.heap.size w7 wx)
  case first =>
    have WW := W7
    go_wp2_with (first
      | (go_at_call 28; refine (simpleL14 _ _ _ _).mono ?_; rintro e wI ⟨g, bI, hg, rfl, gI, hbI⟩; have HS := Lib.hid (sl_fs1 (S := fun _ => True) (l := []) gI (Sl.nil_ _ _ _ _ (Nat.zero_le _)) trivial); have HWI := mvW WW hbI; have bI1 := Lib.hid hbI; clear gI hbI)
      | (go_at_call 11; refine (checkP (q := ⟨1, 0, 0, [[]]⟩) 65537 _ HWI.out HS.out ex6).mono ?_; rintro e wC ⟨B, d, rfl, hs, hbC⟩; have HC := Lib.hid hs; have bC := Lib.hid (bI1.out.trans (hbC.mono bI1.out.size)); clear hs hbC))
    go_meet
    case rel => exact ⟨_, rfl, rfl, ⟨B, d, heap_alloc_at rfl, (HC.out.sub (fun _ _ _ => trivial)).keep ((Agree.refl _ _).alloc _)⟩, bC.out.alloc bC.out.size _⟩
  obtain ⟨g8, rfl, rfl, hbx, hb⟩ := hcut
  obtain ⟨w8, hwv⟩ : ∃ x, x = wc := ⟨_, rfl⟩
  subst hwv
  have W8 := mvW W7 hb
  have bs8 := Lib.hid (bs7.out.trans (hb.mono bs7.out.size))
  replace X1 := mvBx X1 hb
  replace X4 := mvBx X4 hb
  replace X5 := mvBx X5 hb
  clear hbx hb W7 bs7
  go_upto_region 9 with fail
  go_cut [14, 15] (fun p e wx => ∃ g, p = .pointer (some ⟨g, 0, none⟩) ∧ e = .int .i64 1 ∧ Bx wx g [] ∧ Below w8.heap.size w8 wx)
  case first =>
    have WW := W8
    go_wp2_with (first
      | (go_at_call 28; refine (simpleL14 _ _ _ _).mono ?_; rintro e wI ⟨g, bI, hg, rfl, gI, hbI⟩; have HS := Lib.hid (sl_fs1 (S := fun _ => True) (l := []) gI (Sl.nil_ _ _ _ _ (Nat.zero_le _)) trivial); have HWI := mvW WW hbI; have bI1 := Lib.hid hbI; clear gI hbI)
      | (go_at_call 11; refine (checkP (q := ⟨9, 0, 0, [[]]⟩) 1 _ HWI.out HS.out ex7).mono ?_; rintro e wC ⟨B, d, rfl, hs, hbC⟩; have HC := Lib.hid hs; have bC := Lib.hid (bI1.out.trans (hbC.mono bI1.out.size)); clear hs hbC))
    go_meet
    case rel => exact ⟨_, rfl, rfl, ⟨B, d, heap_alloc_at rfl, (HC.out.sub (fun _ _ _ => trivial)).keep ((Agree.refl _ _).alloc _)⟩, bC.out.alloc bC.out.size _⟩
  obtain ⟨g9, rfl, rfl, hbx, hb⟩ := hcut
  obtain ⟨w9, hwv⟩ : ∃ x, x = wc := ⟨_, rfl⟩
  subst hwv
  have W9 := mvW W8 hb
  have bs9 := Lib.hid (bs8.out.trans (hb.mono bs8.out.size))
  replace X1 := mvBx X1 hb
  replace X4 := mvBx X4 hb
  replace X5 := mvBx X5 hb
  clear hbx hb W8 bs8
  go_upto_region 10 with fail
  go_cut [16] (fun p wx => ∃ g b f, p = .pointer (some ⟨g, 0, none⟩) ∧ g ≠ f ∧ w9.heap.size ≤ g ∧ w9.heap.size ≤ f ∧ Hid (wx.heap[g]? = some (.cells #[.int .i64 4, .int .i64 0, .int .i64 0, .slice (some ⟨f, 0, none⟩) 1 1] 24 (0, 0))) ∧ Hid (wx.heap[f]? = some (.cells #[.slice (some ⟨b, 0, none⟩) 0 0] 44 (0, 0))) ∧ Below w9.heap.size w9 wx)
  case first =>
    go_wp2_with (go_at_call 28; refine (simpleL14 _ _ _ _).mono ?_; rintro e wI ⟨g, bI, hg, rfl, gI, hbI⟩; have GI := Lib.hid gI; have hlt := heap_lt gI; have bI1 := Lib.hid hbI; clear gI hbI)
    go_meet
    case rel => exact ⟨_, _, _, rfl, by omega, bI1.out.size, hg, Lib.hid (heap_alloc_at rfl), Lib.hid ((Below.heap_alloc _ _ _ hlt).trans GI.out), bI1.out.alloc bI1.out.size _⟩
  obtain ⟨g10, c10, f10, rfl, hne10, hg10, hf10, G10, F10, hb⟩ := hcut
  obtain ⟨w10, hwv⟩ : ∃ x, x = wc := ⟨_, rfl⟩
  subst hwv
  have bb10 := Lib.hid hb
  clear hb
  go_upto_region 11 with fail
  obtain ⟨x0, x1, x2, x3⟩ := row4 G10
  have ff := frz F10.out
  have fg := frz G10.out
  have lf := heap_lt F10.out
  have lg := heap_lt G10.out
  have y0 := cell_of_row w10 f10 0 _ _ _ F10.out
  simp only [List.getElem?_toArray, List.getElem?_cons_zero] at y0
  go_cut [16] (fun p wx => p = .pointer (some ⟨g10, 0, none⟩) ∧ Hid (wx.heap[g10]? = some (.cells #[.int .i64 4, .int .i64 0, .int .i64 0, .slice (some ⟨f10, 0, none⟩) 1 1] 24 (0, 0))) ∧ Hid (Sl cdE.slice (fun _ => True) wx (some ⟨f10, 0, none⟩) 1 [[⟨0, 2, 3⟩]]) ∧ Below w9.heap.size w9 wx)
  case first =>
    go_wp2_with fail
    go_meet
    case rel => exact ⟨rfl, Lib.hid ((Below.heap_alloc _ _ _ (by simpa [World.setCell] using lg)).trans ((Below.heap_setCell _ _ _ _ hne10).trans G10.out)), Lib.hid (sl_fs1 (l := [⟨0, 2, 3⟩]) ((Below.heap_alloc _ _ _ (by simpa [World.setCell] using lf)).trans (heap_set (i := 0) F10.out)) (sl_cd1 (x := ⟨0, 2, 3⟩) (heap_alloc_at (by simp [World.setCell])) trivial) trivial), (bb10.out.setCell hf10 _).alloc (by have := bb10.out.size; simpa [World.setCell] using this) _⟩
  obtain ⟨rfl, G11, S11, hb⟩ := hcut
  obtain ⟨w11, hwv⟩ : ∃ x, x = wc := ⟨_, rfl⟩
  subst hwv
  have W11 := mvW W9 hb
  have bs11 := Lib.hid (bs9.out.trans (hb.mono bs9.out.size))
  replace X1 := mvBx X1 hb
  replace X4 := mvBx X4 hb
  replace X5 := mvBx X5 hb
  clear hb x0 x1 x2 x3 ff fg lf lg y0 W9 bs9 G10 F10 bb10 hg10 hf10 hne10
  go_upto_region 12 with fail
  obtain ⟨x0, x1, x2, x3⟩ := row4 G11
  go_cut [17, 18] (fun p e wx => ∃ g, p = .pointer (some ⟨g, 0, none⟩) ∧ e = .int .i64 0 ∧ Bx wx g only16 ∧ Below w11.heap.size w11 wx)
  case first =>
    go_wp2_with (go_at_call 11; refine (checkP (q := ⟨4, 0, 0, [[⟨0, 2, 3⟩]]⟩) 5 _ W11.out S11.out ex8).mono ?_; rintro e wC ⟨B, d, rfl, hs, hbC⟩; have HC := Lib.hid hs; have bC := Lib.hid hbC; clear hs hbC)
    go_meet
    case rel => exact ⟨_, rfl, rfl, ⟨B, d, heap_alloc_at rfl, (HC.out.sub (fun _ _ _ => trivial)).keep ((Agree.refl _ _).alloc _)⟩, bC.out.alloc bC.out.size _⟩
  clear x0 x1 x2 x3 G11 S11
  obtain ⟨g12, rfl, rfl, hbx, hb⟩ := hcut
  obtain ⟨w12, hwv⟩ : ∃ x, x = wc := ⟨_, rfl⟩
  subst hwv
  have W12 := mvW W11 hb
  have bs12 := Lib.hid (bs11.out.trans (hb.mono bs11.out.size))
  have X12 := Lib.hid hbx
  replace X1 := mvBx X1 hb
  replace X4 := mvBx X4 hb
  replace X5 := mvBx X5 hb
  clear hbx hb W11 bs11
  obtain ⟨B1, d1, y1, s1⟩ := X1.out
  obtain ⟨B4, d4, y4, s4⟩ := X4.out
  obtain ⟨B5, d5, y5, s5⟩ := X5.out
  obtain ⟨B6, d6, y6, s6⟩ := X12.out
  have Y1 := Lib.hid y1
  have Y4 := Lib.hid y4
  have Y5 := Lib.hid y5
  have Y6 := Lib.hid y6
  have S1 := Lib.hid s1
  have S4 := Lib.hid s4
  have S5 := Lib.hid s5
  have z1 : ∀ W, Below w12.heap.size w12 W → _ ∧ _ ∧ _ := fun W hW => one (mvQ Y1 hW)
  have z4 : ∀ W, Below w12.heap.size w12 W → _ ∧ _ ∧ _ := fun W hW => one (mvQ Y4 hW)
  have z5 : ∀ W, Below w12.heap.size w12 W → _ ∧ _ ∧ _ := fun W hW => one (mvQ Y5 hW)
  have z6 : ∀ W, Below w12.heap.size w12 W → _ ∧ _ ∧ _ := fun W hW => one (mvQ Y6 hW)
  obtain ⟨b, o, rfl, -, lb, v1⟩ := i64_at s6 (i := 1) rfl
  obtain ⟨b', o', e', -, -, v2⟩ := i64_at s6 (i := 2) rfl
  obtain ⟨b'', o'', e'', -, -, v3⟩ := i64_at s6 (i := 3) rfl
  obtain ⟨b4, o4, e4, -, -, v4⟩ := i64_at s6 (i := 4) rfl
  obtain ⟨rfl, rfl⟩ : b = b' ∧ o = o' := by injection e' with e'; injection e' with h1 h2; exact ⟨h1, h2⟩
  obtain ⟨rfl, rfl⟩ : b = b'' ∧ o = o'' := by injection e'' with e''; injection e'' with h1 h2; exact ⟨h1, h2⟩
  obtain ⟨rfl, rfl⟩ : b = b4 ∧ o = o4 := by injection e4 with e4; injection e4 with h1 h2; exact ⟨h1, h2⟩
  have zb : ∀ W, Below w12.heap.size w12 W → W.cell? ⟨b, o + 1, none⟩ = some (.int .i64 0) ∧ W.cell? ⟨b, o + 2, none⟩ = some (.int .i64 5) ∧ W.cell? ⟨b, o + 3, none⟩ = some (.int .i64 5) ∧ W.cell? ⟨b, o + 4, none⟩ = some (.int .i64 0) := fun W hW => ⟨(hW.cell (p := ⟨b, o + 1, none⟩) lb).trans v1, (hW.cell (p := ⟨b, o + 2, none⟩) lb).trans v2, (hW.cell (p := ⟨b, o + 3, none⟩) lb).trans v3, (hW.cell (p := ⟨b, o + 4, none⟩) lb).trans v4⟩
  have br : Below w12.heap.size w12 w12 := Below.refl _ _
  have bc : ∀ W W', Below w12.heap.size w12 W → Below W.heap.size W W' → Below w12.heap.size w12 W' := fun W W' h k => h.trans (k.mono h.size)
  clear X1 X4 X5 X12 y1 y4 y5 y6 s1 s4 s5 s6 e' e'' e4
  have ba : ∀ W o, Below w12.heap.size w12 W → Below w12.heap.size w12 (W.alloc o) := fun W o h => h.alloc h.size o
  have hx12 := z6 _ br
  go_upto_region 15 with fail
  simp only [List.append]
  have hb5 : bitsC 5 = 0 := rfl
  go_wp2_with (first
    | (go_at_call 29; ((with_reducible refine (first25500 _ (S1.out.keep (Below.agree (by (first | with_reducible assumption | (with_reducible refine Below.drew ?_; with_reducible assumption) | (with_reducible refine ba _ _ ?_; with_reducible assumption) | (with_reducible refine Below.drew ?_; with_reducible refine ba _ _ ?_; with_reducible assumption) | exact Below.refl _ _ | exact (Below.refl _ _).drew | exact (Below.refl _ _).alloc (Nat.le_refl _) _ | (refine bc _ _ (by assumption) (by assumption))))))).mono ?_)); rintro e wA ⟨rfl, hA⟩; have hk := bc _ _ (by (first | with_reducible assumption | (with_reducible refine Below.drew ?_; with_reducible assumption) | (with_reducible refine ba _ _ ?_; with_reducible assumption) | (with_reducible refine Below.drew ?_; with_reducible refine ba _ _ ?_; with_reducible assumption) | exact Below.refl _ _ | exact (Below.refl _ _).drew | exact (Below.refl _ _).alloc (Nat.le_refl _) _ | (refine bc _ _ (by assumption) (by assumption)))) hA; clear hA)
    | (go_at_call 29; ((with_reducible refine (first900 _ (S4.out.keep (Below.agree (by (first | with_reducible assumption | (with_reducible refine Below.drew ?_; with_reducible assumption) | (with_reducible refine ba _ _ ?_; with_reducible assumption) | (with_reducible refine Below.drew ?_; with_reducible refine ba _ _ ?_; with_reducible assumption) | exact Below.refl _ _ | exact (Below.refl _ _).drew | exact (Below.refl _ _).alloc (Nat.le_refl _) _ | (refine bc _ _ (by assumption) (by assumption))))))).mono ?_)); rintro e wA ⟨rfl, hA⟩; have hk := bc _ _ (by (first | with_reducible assumption | (with_reducible refine Below.drew ?_; with_reducible assumption) | (with_reducible refine ba _ _ ?_; with_reducible assumption) | (with_reducible refine Below.drew ?_; with_reducible refine ba _ _ ?_; with_reducible assumption) | exact Below.refl _ _ | exact (Below.refl _ _).drew | exact (Below.refl _ _).alloc (Nat.le_refl _) _ | (refine bc _ _ (by assumption) (by assumption)))) hA; clear hA)
    | (go_at_call 29; ((with_reducible refine (first27494199689062500 _ (S5.out.keep (Below.agree (by (first | with_reducible assumption | (with_reducible refine Below.drew ?_; with_reducible assumption) | (with_reducible refine ba _ _ ?_; with_reducible assumption) | (with_reducible refine Below.drew ?_; with_reducible refine ba _ _ ?_; with_reducible assumption) | exact Below.refl _ _ | exact (Below.refl _ _).drew | exact (Below.refl _ _).alloc (Nat.le_refl _) _ | (refine bc _ _ (by assumption) (by assumption))))))).mono ?_)); rintro e wA ⟨rfl, hA⟩; have hk := bc _ _ (by (first | with_reducible assumption | (with_reducible refine Below.drew ?_; with_reducible assumption) | (with_reducible refine ba _ _ ?_; with_reducible assumption) | (with_reducible refine Below.drew ?_; with_reducible refine ba _ _ ?_; with_reducible assumption) | exact Below.refl _ _ | exact (Below.refl _ _).drew | exact (Below.refl _ _).alloc (Nat.le_refl _) _ | (refine bc _ _ (by assumption) (by assumption)))) hA; clear hA)
    | (go_at_call 15; ((with_reducible refine (sums0 _ _).mono ?_)); rintro e wA ⟨rfl, hA⟩; have hk := bc _ _ (by (first | with_reducible assumption | (with_reducible refine Below.drew ?_; with_reducible assumption) | (with_reducible refine ba _ _ ?_; with_reducible assumption) | (with_reducible refine Below.drew ?_; with_reducible refine ba _ _ ?_; with_reducible assumption) | exact Below.refl _ _ | exact (Below.refl _ _).drew | exact (Below.refl _ _).alloc (Nat.le_refl _) _ | (refine bc _ _ (by assumption) (by assumption)))) hA; clear hA)
    | (go_at_call 17; refine (bitsP _ (W12.out.keep (by (first | with_reducible assumption | (with_reducible refine Below.drew ?_; with_reducible assumption) | (with_reducible refine ba _ _ ?_; with_reducible assumption) | (with_reducible refine Below.drew ?_; with_reducible refine ba _ _ ?_; with_reducible assumption) | exact Below.refl _ _ | exact (Below.refl _ _).drew | exact (Below.refl _ _).alloc (Nat.le_refl _) _ | (refine bc _ _ (by assumption) (by assumption))))) (by omega) (by omega)).mono ?_; rintro e w5 ⟨rfl, rfl⟩))
  go_ret
  exact ⟨rfl, bs12.out.trans (Below.mono (by assumption) bs12.out.size)⟩
end Go.Proofs.YtihcaoipemcddaaDoor
