/-
  Texts of this claim, merged: RdS. Conditions: as each theorem says.
-/
import Derived.Test.YtpdblgchfkcgpaaV1
import Derived.Test.YtpdblgchfkcgpaaV2
import Derived.Test.YtpdblgchfkcgpaaV3
import Derived.Test.YtpdblgchfkcgpaaV4
import Derived.Test.YtpdblgchfkcgpaaV5
import Derived.Test.YtpdblgchfkcgpaaV6
import Derived.Test.YtpdblgchfkcgpaaV7
import Derived.Test.YtpdblgchfkcgpaaV8
set_option linter.unusedSimpArgs false
set_option linter.unusedVariables false
namespace Go.Proofs.Ytpdblgchfkcgpaa
open Go.RowKit

def rA : Rd := ⟨1, 2, 3, 4⟩
def rB : Rd := ⟨15, 255, 0, 129⟩
def sA : Str := ⟨[rA], [false]⟩
def sB : Str := ⟨[rA, rB], [false, false]⟩
def sC : Str := ⟨[rA, rB], [true, false]⟩
theorem okA : OkStr sA := ⟨rfl, by simp [sA, rA, ValidR]⟩
theorem okB' : OkStr sB := ⟨rfl, by simp [sB, rA, rB, ValidR]⟩
theorem okC : OkStr sC := ⟨rfl, by simp [sC, rA, rB, ValidR]⟩
theorem t1 : takeF emptyStr rA = (sA, 0) := rfl
theorem t2 : takeF sA rB = (sB, 0) := rfl
theorem t3 : retractF sB 0 = (sC, 0) := rfl
theorem t4 : retractF sC 0 = (emptyStr, 120) := rfl
theorem t5 : retractF sC 2 = (emptyStr, 4) := rfl
theorem t6 : takeF sB ⟨16, 0, 0, 0⟩ = (emptyStr, 1) := rfl
theorem t7 : liveF sC = [rB] := rfl
theorem t8 : columnsF sC 2 = [[1, 15, 0, 0], [2, 255, 0, 0], [3, 0, 0, 0], [4, 129, 0, 0], [0, 1, 0, 0]] := rfl
def bitsW : List (List Int) := [[1, 1], [0, 1], [0, 1], [0, 1], [0, 1], [1, 1], [0, 1], [0, 1], [0, 1], [0, 1], [0, 1], [0, 1], [1, 0], [1, 0], [0, 0], [0, 0], [0, 1], [0, 0], [1, 0], [0, 0], [0, 0], [0, 0], [0, 0], [0, 1]]
theorem t9 : bitsF sC 1 = bitsW := rfl
theorem t10 : checkF 2 0 = 2 := rfl
theorem t11 : checkF 2 17 = 1 := rfl
theorem t12 : tableF [[1, 2], [3, 4], [5, 6]] = ([1, 3, 5, 0, 2, 4, 6, 0], 0) := rfl
theorem t13 : tableF [] = ([], 1) := rfl
theorem t14 : tableF [[1, 2], [3]] = ([], 1) := rfl
theorem mv {W wk : World} {g : Nat} {o : Obj} (h : Hid (W.heap[g]? = some o)) (hb : Below W.heap.size W wk) : Hid (wk.heap[g]? = some o) := Lib.hid ((hb.block g (heap_lt h.out)).trans h.out)
theorem rd4 {W : World} {g : Nat} {r : Rd} {t : TypeId} (h : Hid (W.heap[g]? = some (.cells #[.int .i64 r.who, .int .i64 r.whn, .int .i64 r.knd, .int .i64 r.val] t (0, 0)))) :
    W.cell? ⟨g, 0, none⟩ = some (.int .i64 r.who) ∧ W.cell? ⟨g, 1, none⟩ = some (.int .i64 r.whn) ∧ W.cell? ⟨g, 2, none⟩ = some (.int .i64 r.knd) ∧ W.cell? ⟨g, 3, none⟩ = some (.int .i64 r.val) :=
  ⟨cell_of_row _ _ 0 _ _ _ h.out, cell_of_row _ _ 1 _ _ _ h.out, cell_of_row _ _ 2 _ _ _ h.out, cell_of_row _ _ 3 _ _ _ h.out⟩
theorem two {W : World} {g : Nat} {u v : Value} {t : TypeId} (h : Hid (W.heap[g]? = some (.cells #[u, v] t (0, 0)))) :
    W.cell? ⟨g, 0, none⟩ = some u ∧ W.cell? ⟨g, 1, none⟩ = some v ∧ W.frozen? ⟨g, 0, none⟩ = false ∧ W.frozen? ⟨g, 1, none⟩ = false ∧ g < W.heap.size :=
  ⟨cell_of_row _ _ 0 _ _ _ h.out, cell_of_row _ _ 1 _ _ _ h.out, by simp [World.frozen?, h.out], by simp [World.frozen?, h.out], heap_lt h.out⟩
theorem Sl.any {α : Type} {E : Enc α} {S : Nat → Prop} {w : World} {A : Option Addr} {c : Nat} {xs : List α} (h : Sl E S w A c xs) : Hid (Sl E (fun _ => True) w A c xs) := Lib.hid (h.sub fun _ _ _ => trivial)
theorem mvS {α : Type} {E : Enc α} {w wk : World} {A : Option Addr} {c : Nat} {xs : List α} (h : Hid (Sl E (fun _ => True) w A c xs)) (hb : Below w.heap.size w wk) : Hid (Sl E (fun _ => True) wk A c xs) := Lib.hid (h.out.keep (Below.agree hb))

theorem sameColsN {l : List (List Int)} {n : Nat} (hn : l.length = n) {A A' : Option Addr} {c c' : Nat} {S T : Nat → Prop} (w : World) (h : Sl Enc.u64.slice S w A c l) (h' : Sl Enc.u64.slice T w A' c' l) :
    Calls Try.prog 20 #[.slice A n c, .slice A' n c'] w fun e w' => e = .returned (.bool true) ∧ Below w.heap.size w w' := by
  subst hn
  exact sameCols_eq w h h'
theorem one15 {w : World} {A : Option Addr} {c : Nat} {l : List Int} (h : Sl .u64 (fun _ => True) w A c l) : Sl Enc.u64.slice (fun _ => True) (w.alloc (.cells #[.slice A l.length c] 34)) (some ⟨w.heap.size, 0, none⟩) 1 [l] :=
  Sl.lit (S := fun _ => True) (cs := [.slice A l.length c]) (xs := [l]) ⟨_, [], rfl, ⟨A, c, rfl, h⟩, rfl⟩ (by unfold maxLen; simp) (fun _ _ _ => trivial) trivial

theorem convB12 {S : Nat → Prop} {A : Option Addr} {c : Nat} {l : List UInt8} {w : World} (h : Sl .u8 S w A c l) (W : World) (k : Agree S w W) :
    (convert 48 9 (.slice A l.length c)).run Try.prog W = .ok (.string ⟨l.toArray⟩) W :=
  conv_bytes Try.underlying48 Try.underlying5 Try.underlying9 (h.keep k)

theorem lit2_run (x y : Int) (d : Option Nat) (t : TypeId) (pos : String) (af : Array Edge) (gd : Option (Nat × Bool)) (a : Act) (w : World) :
    (execOp a.eval { dst := d, op := .buildSlice 34 2 #[(0, .const (.int .u64 x)), (1, .const (.int .u64 y))], type := t, pos := pos, after := af, guard := gd }).run Try.prog w
      = .ok (.value (.slice (some ⟨w.heap.size, 0, none⟩) 2 2)) (w.alloc (.cells #[.int .u64 x, .int .u64 y] 38)) := by
  go_simp

def rdT24 : List FRow := [(0, ([], (141, [3]))), (1, ([0], (142, [140]))), (2, ([], (143, []))), (3, ([2], (144, [142]))), (4, ([1, 3], (145, [141, 143]))), (5, ([4], (146, [144]))), (6, ([5], (147, [4, 145]))), (7, ([5], (148, [1, 145]))), (8, ([6, 7, 5], (149, [146, 147, 145]))), (9, ([5, 8], (150, [145, 148]))), (10, ([9, 5], (151, [149]))), (11, ([10], (152, [5, 150]))), (12, ([11, 10], (153, [151, 150]))), (13, ([10, 12], (154, [150, 152]))), (14, ([13, 10], (155, [153]))), (15, ([14], (156, [7, 154]))), (16, ([15, 14], (157, [155, 154]))), (17, ([14, 16], (158, [154, 156]))), (18, ([17, 14], (159, [157]))), (19, ([18], (160, [9, 158]))), (20, ([19, 18], (161, [159, 158]))), (21, ([18, 20], (162, [158, 160]))), (22, ([21, 18], (163, [161]))), (23, ([22], (164, [10, 162]))), (24, ([23, 22], (165, [163, 162]))), (25, ([22, 24], (166, [162, 164]))), (26, ([25, 22], (167, [165]))), (27, ([26], (168, [12, 166]))), (28, ([27, 26], (169, [167, 166]))), (29, ([26, 28], (170, [166, 168]))), (30, ([29, 26], (171, [169]))), (31, ([30], (172, [14, 170]))), (32, ([31, 30], (173, [171, 170]))), (33, ([30, 32], (174, [170, 172]))), (34, ([33, 30], (175, [173]))), (35, ([34], (176, [16, 174]))), (36, ([35, 34], (177, [175, 174]))), (37, ([34, 36], (178, [174, 176]))), (38, ([37, 34], (179, [177]))), (39, ([38], (180, [18, 178]))), (40, ([39, 38], (181, [179, 178]))), (41, ([38, 40], (182, [178, 180]))), (42, ([41, 38], (183, [181]))), (43, ([42], (184, [19, 182]))), (44, ([43, 42], (185, [183, 182]))), (45, ([44, 42], (186, [184, 182]))), (46, ([42], (187, [2, 182]))), (47, ([45, 46, 42], (188, [185, 186, 182]))), (48, ([42, 47], (189, [182, 187]))), (49, ([48, 42], (190, [188]))), (50, ([49], (191, [20, 189]))), (51, ([49], (192, [34, 189]))), (52, ([50, 51, 49, 49], (193, [190, 191, 189]))), (53, ([49, 52], (194, [189, 192]))), (54, ([53, 52], (195, [193]))), (55, ([54], (196, [21, 194]))), (56, ([55, 54], (197, [195, 194]))), (57, ([54, 56], (198, [194, 196]))), (58, ([57, 54], (199, [197]))), (59, ([58], (200, [22, 198]))), (60, ([59, 58], (201, [199, 198]))), (61, ([58], (202, [198]))), (62, ([58], (203, [198]))), (63, ([58], (204, [198]))), (64, ([58], (205, [198]))), (65, ([58], (206, [198]))), (66, ([58], (207, [198]))), (67, ([58], (208, [198]))), (68, ([58], (209, [198]))), (69, ([61, 62, 63, 64, 65, 66, 67, 68, 58], (210, [201, 202, 203, 204, 205, 206, 207, 208, 198]))), (70, ([60, 69, 58, 58], (211, [200, 209, 198]))), (71, ([58, 70], (212, [198, 210]))), (72, ([71, 70], (213, [211]))), (73, ([72], (214, [23, 212]))), (74, ([73, 72], (215, [213, 212]))), (75, ([72, 74], (216, [212, 214]))), (76, ([75, 72], (217, [215]))), (77, ([76], (218, [25, 216]))), (78, ([77, 76], (219, [217, 216]))), (79, ([76, 78], (220, [216, 218]))), (80, ([79, 76], (221, [219]))), (81, ([80], (222, [27, 220]))), (82, ([81, 80], (223, [221, 220]))), (83, ([80, 82], (224, [220, 222]))), (84, ([83, 80], (225, [223]))), (85, ([84], (226, [28, 224]))), (86, ([85, 84], (227, [225, 224]))), (87, ([84], (228, [35, 224]))), (88, ([86, 87, 84, 84], (229, [226, 227, 224]))), (89, ([84, 88], (230, [224, 228]))), (90, ([89, 88], (231, [229]))), (91, ([90], (232, [29, 230]))), (92, ([91, 90], (233, [231, 230]))), (93, ([90, 92], (234, [230, 232]))), (94, ([93, 90], (235, [233]))), (95, ([94], (236, [31, 234]))), (96, ([95, 94], (237, [235, 234]))), (97, ([94, 96], (238, [234, 236]))), (98, ([97, 94], (239, [237]))), (99, ([98], (240, [33, 238]))), (100, ([99, 98], (241, [239, 238]))), (101, ([98, 100], (242, [238, 240]))), (102, ([101, 98], (243, [241]))), (103, ([102], (244, [2, 242]))), (104, ([103, 102, 102], (245, [243, 242]))), (105, ([102, 104], (246, [242, 244]))), (106, ([105, 104], (247, [245]))), (107, ([106], (248, [246]))), (108, ([107, 106, 106], (249, [247, 246]))), (109, ([108, 106], (250, [248, 246]))), (110, ([106, 109], (251, [246, 249]))), (111, ([110, 108, 0, 1, 2, 3, 4, 5, 6, 7, 8, 9, 10, 11, 12, 13, 14, 15, 16, 17, 18, 19, 20, 21, 22, 23, 24, 25, 26, 27, 28, 29, 30, 31, 32, 33, 34, 35, 36, 37, 38, 39, 40, 41, 42, 43, 44, 45, 46, 47, 48, 49, 50, 51, 52, 53, 54, 55, 56, 57, 58, 59, 60, 61, 62, 63, 64, 65, 66, 67, 68, 69, 70, 71, 72, 73, 74, 75, 76, 77, 78, 79, 80, 81, 82, 83, 84, 85, 86, 87, 88, 89, 90, 91, 92, 93, 94, 95, 96, 97, 98, 99, 100, 101, 102, 103, 104, 105, 106, 107, 108, 109, 110], (1, [250])))]
set_option maxRecDepth 100000 in
set_option maxHeartbeats 4000000 in
theorem lit8_run (g0 g1 g2 g3 g4 g5 g6 g7 : Nat) (d : Option Nat) (t : TypeId) (pos : String) (af : Array Edge) (gd : Option (Nat × Bool)) (a : Act) (w : World)
   (t0 t1 t2 t3 t4 t5 t6 t7 : Nat)
   (h0 : a.tmps[t0]? = some (.slice (some ⟨g0, 0, none⟩) 2 2)) (h1 : a.tmps[t1]? = some (.slice (some ⟨g1, 0, none⟩) 2 2)) (h2 : a.tmps[t2]? = some (.slice (some ⟨g2, 0, none⟩) 2 2)) (h3 : a.tmps[t3]? = some (.slice (some ⟨g3, 0, none⟩) 2 2))
   (h4 : a.tmps[t4]? = some (.slice (some ⟨g4, 0, none⟩) 2 2)) (h5 : a.tmps[t5]? = some (.slice (some ⟨g5, 0, none⟩) 2 2)) (h6 : a.tmps[t6]? = some (.slice (some ⟨g6, 0, none⟩) 2 2)) (h7 : a.tmps[t7]? = some (.slice (some ⟨g7, 0, none⟩) 2 2)) :
    (execOp a.eval { dst := d, op := .buildSlice 30 8 #[(0, .tmp t0), (1, .tmp t1), (2, .tmp t2), (3, .tmp t3), (4, .tmp t4), (5, .tmp t5), (6, .tmp t6), (7, .tmp t7)], type := t, pos := pos, after := af, guard := gd }).run Try.prog w
      = .ok (.value (.slice (some ⟨w.heap.size, 0, none⟩) 8 8)) (w.alloc (.cells #[.slice (some ⟨g0, 0, none⟩) 2 2, .slice (some ⟨g1, 0, none⟩) 2 2, .slice (some ⟨g2, 0, none⟩) 2 2, .slice (some ⟨g3, 0, none⟩) 2 2, .slice (some ⟨g4, 0, none⟩) 2 2, .slice (some ⟨g5, 0, none⟩) 2 2, .slice (some ⟨g6, 0, none⟩) 2 2, .slice (some ⟨g7, 0, none⟩) 2 2] 34)) := by
  go_simp
set_option maxRecDepth 100000 in
set_option maxHeartbeats 40000000 in
theorem sanityR (w : World) : Calls Try.prog 4 #[] w fun e w' => e = .returned (.bool true) ∧ Below w.heap.size w w' := by
  go_enter Try.func4, Try.ntmps4
  go_wp2_with fail
  refine (encodeP rA _ (by simp [ValidR, rA])).mono ?_
  rintro e w1 ⟨A1, c1, rfl, hs1, hb⟩
  have g1 : Hid (w1.heap[w.heap.size]? = some (.cells #[.int .i64 rA.who, .int .i64 rA.whn, .int .i64 rA.knd, .int .i64 rA.val] 47 (0, 0))) := Lib.hid ((hb.block _ (by first | omega | (simp <;> omega) | (simp [World.setCell] <;> omega))).trans ((Below.heap_alloc _ _ _ (by first | omega | (simp <;> omega) | (simp [World.setCell] <;> omega))).trans (heap_alloc_at rfl)))
  have g2 : Hid (w1.heap[w.heap.size + 1]? = some (.cells #[.int .i64 rB.who, .int .i64 rB.whn, .int .i64 rB.knd, .int .i64 rB.val] 47 (0, 0))) := Lib.hid ((hb.block _ (by simp)).trans (heap_alloc_at (by simp)))
  have b1 : Hid (Below w.heap.size w w1) := Lib.hid ((((Below.refl _ _).alloc (Nat.le_refl _) _).alloc (by simp) _).trans (hb.mono (by simp; omega)))
  have e1 := hs1.any
  clear hs1 hb
  go_wp2_with fail
  refine (decodeP 0x31 2 4 _ (lit3 0x31 2 4 _ rfl)).mono ?_
  rintro e w2 ⟨rfl, hb⟩
  have bb : Below w1.heap.size w1 w2 := (by repeat' (first | with_reducible exact Below.refl _ _ | with_reducible assumption | with_reducible refine Below.trans ?_ (Below.mono hb ?_) | with_reducible refine Below.setCell ?_ ?_ _ | with_reducible refine Below.drew ?_ | with_reducible refine below_drewN ?_ _ | with_reducible refine Below.alloc ?_ ?_ _ | (rintro _ ⟨⟩; simp <;> omega) | omega | (simp <;> omega)))
  have b2 := Lib.hid (b1.out.trans (bb.mono b1.out.size))
  replace g1 := mv g1 bb
  replace g2 := mv g2 bb
  have e2 := mvS e1 bb
  clear hb bb b1 e1
  go_wp2_with fail
  refine (decodeP_bad (l := [1, 2]) _ (by decide)).mono ?_
  rintro e w3 ⟨rfl, hb⟩
  have bb : Below w2.heap.size w2 w3 := (((Below.refl _ _).alloc (Nat.le_refl _) _).alloc (by simp) _).trans (hb.mono (by simp; omega))
  have b3 := Lib.hid (b2.out.trans (bb.mono b2.out.size))
  have g4 : Hid (w3.heap[w2.heap.size]? = some (.cells #[.int .i64 rA.who, .int .i64 rA.whn, .int .i64 rA.knd, .int .i64 rA.val] 47 (0, 0))) := Lib.hid ((hb.block _ (by simp; omega)).trans ((Below.heap_alloc _ _ _ (by simp)).trans (heap_alloc_at rfl)))
  replace g1 := mv g1 bb
  replace g2 := mv g2 bb
  have e3 := mvS e2 bb
  clear hb bb b2 e2
  obtain ⟨x0, x1, x2, x3⟩ := rd4 g1
  have l1 := heap_lt g1.out
  go_wp2_with fail
  refine (takeP_eq (s := emptyStr) (A := none) (B := none) (c := 0) (d := 0) (S := fun _ => True) rA _ (Sl.nil_ _ _ _ _ (Nat.zero_le _)) (Sl.nil_ _ _ _ _ (Nat.zero_le _)) okEmpty (by decide) t1).mono ?_
  rintro e w4 ⟨A4, c4, B4, d4, rfl, hs4, hg4, hb⟩
  have bb : Below w3.heap.size w3 w4 := ((Below.refl _ _).alloc (Nat.le_refl _) _).trans (hb.mono (by simp))
  have b4 := Lib.hid (b3.out.trans (bb.mono b3.out.size))
  replace g1 := mv g1 bb
  replace g2 := mv g2 bb
  replace g4 := mv g4 bb
  have e4 : Hid (Sl .u8 (fun b => b < w4.heap.size) w4 A1 c1 [0x31, 2, 4]) := Lib.hid ((mvS e3 bb).out.old.sub fun b hb _ => hb.2)
  have s4 : Hid (Sl rdE (fun b => b < w4.heap.size) w4 A4 c4 sA.l) := Lib.hid (hs4.old.sub fun b hb _ => hb.2)
  have k4 : Hid (Sl .bool (fun b => b < w4.heap.size) w4 B4 d4 sA.g) := Lib.hid (hg4.old.sub fun b hb _ => hb.2)
  have n4 : w2.heap.size ≠ w4.heap.size := Nat.ne_of_lt (heap_lt g4.out)
  have z4 : w.heap.size ≤ w4.heap.size := b4.out.size
  clear hb bb b3 e3 x0 x1 x2 x3 l1 hs4 hg4
  obtain ⟨x0, x1, x2, x3⟩ := rd4 g2
  have l2 := heap_lt g2.out
  go_wp2_with fail
  refine (takeP_eq (s := sA) (S := fun b => b < w4.heap.size) rB _ (s4.out.keep ((Agree.refl _ _).alloc _)) (k4.out.keep ((Agree.refl _ _).alloc _)) okA (by decide) t2).mono ?_
  rintro e w5 ⟨A5, c5, B5, d5, rfl, hs5, hg5, hb⟩
  have bb : Below w4.heap.size w4 w5 := ((Below.refl _ _).alloc (Nat.le_refl _) _).trans (hb.mono (by simp))
  have b5 := Lib.hid (b4.out.trans (bb.mono b4.out.size))
  have g8 : Hid (w5.heap[w4.heap.size]? = some (.cells #[.slice A4 sA.l.length c4, .slice B4 sA.g.length d4] 28 (0, 0))) := Lib.hid ((hb.block _ (by first | omega | (simp <;> omega) | (simp [World.setCell] <;> omega))).trans (heap_alloc_at rfl))
  replace g1 := mv g1 bb
  replace g2 := mv g2 bb
  replace g4 := mv g4 bb
  have n1 : w.heap.size ≠ w4.heap.size := by have := b4.out.size; have := heap_lt g1.out; omega
  have n2 : w.heap.size + 1 ≠ w4.heap.size := by have := b4.out.size; omega
  have e5 : Hid (Sl .u8 (fun b => b ≠ w4.heap.size) w5 A1 c1 [0x31, 2, 4]) := Lib.hid ((e4.out.keep (Below.agree bb)).sub fun b hb _ => by omega)
  have s5 : Hid (Sl rdE (fun b => b ≠ w4.heap.size) w5 A5 c5 sB.l) := Lib.hid (hs5.sub fun b hb _ => by rcases hb with hb | hb; omega; simp at hb; omega)
  have k5 : Hid (Sl .bool (fun b => b ≠ w4.heap.size) w5 B5 d5 sB.g) := Lib.hid (hg5.sub fun b hb _ => by rcases hb with hb | hb; omega; simp at hb; omega)
  clear hb bb b4 e4 s4 k4 hs5 hg5 x0 x1 x2 x3 l2
  obtain ⟨x0, x1, f0, f1, l8⟩ := two g8
  go_wp2_with fail
  have ag : Agree (fun b => b ≠ w4.heap.size) w5 ((w5.setCell ⟨w4.heap.size, 0, none⟩ (.slice A5 sB.l.length c5)).setCell ⟨w4.heap.size, 1, none⟩ (.slice B5 sB.g.length d5)) := ((Agree.refl _ _).set (fun h => h rfl) _).set (fun h => h rfl) _
  have b6 : Below w.heap.size w ((w5.setCell ⟨w4.heap.size, 0, none⟩ (.slice A5 sB.l.length c5)).setCell ⟨w4.heap.size, 1, none⟩ (.slice B5 sB.g.length d5)) := (b5.out.setCell z4 _).setCell z4 _
  have g8' := heap_set (i := 1) (u := .slice B5 sB.g.length d5) (heap_set (i := 0) (u := .slice A5 sB.l.length c5) g8.out)
  obtain ⟨W, hW⟩ : ∃ W, (w5.setCell ⟨w4.heap.size, 0, none⟩ (.slice A5 sB.l.length c5)).setCell ⟨w4.heap.size, 1, none⟩ (.slice B5 sB.g.length d5) = W := ⟨_, rfl⟩
  rw [hW] at ag b6 g8' ⊢
  replace g8 : Hid (W.heap[w4.heap.size]? = some (.cells #[.slice A5 sB.l.length c5, .slice B5 sB.g.length d5] 28 (0, 0))) := Lib.hid g8'
  replace g1 := Lib.hid ((ag.2 _ n1 (heap_lt g1.out)).trans g1.out)
  replace g2 := Lib.hid ((ag.2 _ n2 (heap_lt g2.out)).trans g2.out)
  replace g4 := Lib.hid ((ag.2 _ n4 (heap_lt g4.out)).trans g4.out)
  replace e5 := (e5.out.keep ag).any
  replace s5 := (s5.out.keep ag).any
  replace k5 := (k5.out.keep ag).any
  replace b5 := Lib.hid b6
  clear ag b6 g8' hW n1 n2 n4 z4 x0 x1 f0 f1 l8
  refine (retractP_eq (s := sB) (i := 0) W s5.out k5.out okB' (by decide) t3).mono ?_
  rintro e w6 ⟨A6, c6, B6, d6, rfl, hs6, hg6, bb⟩
  have b7 := Lib.hid (b5.out.trans (bb.mono b5.out.size))
  replace g1 := mv g1 bb
  replace g2 := mv g2 bb
  replace g4 := mv g4 bb
  replace g8 := mv g8 bb
  replace e5 := mvS e5 bb
  replace s5 := mvS s5 bb
  replace k5 := mvS k5 bb
  have s6 := hs6.any
  have k6 := hg6.any
  clear bb b5 hs6 hg6
  go_wp2_with fail
  refine (retractP_eq (s := sC) (i := 0) _ (s6.out.keep ((Agree.refl _ _).alloc _)) (k6.out.keep ((Agree.refl _ _).alloc _)) okC (by decide) t4).mono ?_
  rintro e w7 ⟨A0, c0, B0, d0, rfl, -, -, hb⟩
  have bb : Below w6.heap.size w6 w7 := ((Below.refl _ _).alloc (Nat.le_refl _) _).trans (hb.mono (by simp))
  have b8 := Lib.hid (b7.out.trans (bb.mono b7.out.size))
  have g11 : Hid (w7.heap[w6.heap.size]? = some (.cells #[.slice A6 sC.l.length c6, .slice B6 sC.g.length d6] 28 (0, 0))) := Lib.hid ((hb.block _ (by first | omega | (simp <;> omega) | (simp [World.setCell] <;> omega))).trans (heap_alloc_at rfl))
  replace g1 := mv g1 bb
  replace g2 := mv g2 bb
  replace g4 := mv g4 bb
  replace g8 := mv g8 bb
  replace e5 := mvS e5 bb
  replace s5 := mvS s5 bb
  replace k5 := mvS k5 bb
  replace s6 := mvS s6 bb
  replace k6 := mvS k6 bb
  clear hb bb b7
  obtain ⟨x0, x1, -, -, l0⟩ := two g11
  go_wp2_with fail
  clear x0 x1 l0
  refine (retractP_eq (s := sC) (i := 2) _ (s6.out.keep ((Agree.refl _ _).alloc _)) (k6.out.keep ((Agree.refl _ _).alloc _)) okC (by decide) t5).mono ?_
  rintro e w8 ⟨A0, c0, B0, d0, rfl, -, -, hb⟩
  have bb : Below w7.heap.size w7 w8 := ((Below.refl _ _).alloc (Nat.le_refl _) _).trans (hb.mono (by simp))
  have b9 := Lib.hid (b8.out.trans (bb.mono b8.out.size))
  replace g1 := mv g1 bb
  replace g2 := mv g2 bb
  replace g4 := mv g4 bb
  replace g8 := mv g8 bb
  replace g11 := mv g11 bb
  replace e5 := mvS e5 bb
  replace s5 := mvS s5 bb
  replace k5 := mvS k5 bb
  replace s6 := mvS s6 bb
  replace k6 := mvS k6 bb
  clear hb bb b8
  obtain ⟨x0, x1, -, -, l0⟩ := two g8
  go_wp2_with fail
  clear x0 x1 l0
  refine (takeP_eq (s := sB) ⟨16, 0, 0, 0⟩ _ (s5.out.keep ((Agree.refl _ _).alloc _)) (k5.out.keep ((Agree.refl _ _).alloc _)) okB' (by decide) t6).mono ?_
  rintro e w9 ⟨A0, c0, B0, d0, rfl, -, -, hb⟩
  have bb : Below w8.heap.size w8 w9 := ((Below.refl _ _).alloc (Nat.le_refl _) _).trans (hb.mono (by simp))
  have b10 := Lib.hid (b9.out.trans (bb.mono b9.out.size))
  replace g1 := mv g1 bb
  replace g2 := mv g2 bb
  replace g4 := mv g4 bb
  replace g8 := mv g8 bb
  replace g11 := mv g11 bb
  replace e5 := mvS e5 bb
  replace s5 := mvS s5 bb
  replace k5 := mvS k5 bb
  replace s6 := mvS s6 bb
  replace k6 := mvS k6 bb
  clear hb bb b9
  obtain ⟨x0, x1, -, -, l0⟩ := two g11
  go_wp2_with fail
  clear x0 x1 l0
  refine (liveP_eq (s := sC) _ (s6.out.keep ((Agree.refl _ _).alloc _)) (k6.out.keep ((Agree.refl _ _).alloc _)) rfl (by decide) t7).mono ?_
  rintro e w10 ⟨A7, c7, rfl, hs7, hb⟩
  have bb : Below w9.heap.size w9 w10 := ((Below.refl _ _).alloc (Nat.le_refl _) _).trans (hb.mono (by simp))
  have b11 := Lib.hid (b10.out.trans (bb.mono b10.out.size))
  have s7 := hs7.any
  clear hs7
  replace g1 := mv g1 bb
  replace g2 := mv g2 bb
  replace g4 := mv g4 bb
  replace g8 := mv g8 bb
  replace g11 := mv g11 bb
  replace e5 := mvS e5 bb
  replace s5 := mvS s5 bb
  replace k5 := mvS k5 bb
  replace s6 := mvS s6 bb
  replace k6 := mvS k6 bb
  clear hb bb b10
  obtain ⟨x0, x1, -, -, l0⟩ := two g11
  go_wp2_with fail
  clear x0 x1 l0
  refine (columnsP_eq (s := sC) _ rfl s6.out k6.out okC t8).mono ?_
  rintro e w11 ⟨A8, c8, rfl, hs8, hb⟩
  have bb : Below w10.heap.size w10 w11 := hb
  have b12 := Lib.hid (b11.out.trans (bb.mono b11.out.size))
  have s8 := hs8.any
  clear hs8
  replace g1 := mv g1 bb
  replace g2 := mv g2 bb
  replace g4 := mv g4 bb
  replace g8 := mv g8 bb
  replace g11 := mv g11 bb
  replace e5 := mvS e5 bb
  replace s5 := mvS s5 bb
  replace k5 := mvS k5 bb
  replace s6 := mvS s6 bb
  replace k6 := mvS k6 bb
  replace s7 := mvS s7 bb
  clear hb bb b11
  obtain ⟨x0, x1, -, -, l0⟩ := two g11
  go_wp2_with fail
  clear x0 x1 l0
  refine (bitsP_eq (s := sC) _ rfl s6.out okC t9).mono ?_
  rintro e w12 ⟨A9, c9, rfl, hs9, hb⟩
  have bb : Below w11.heap.size w11 w12 := hb
  have b13 := Lib.hid (b12.out.trans (bb.mono b12.out.size))
  have s9 := hs9.any
  clear hs9
  replace g1 := mv g1 bb
  replace g2 := mv g2 bb
  replace g4 := mv g4 bb
  replace g8 := mv g8 bb
  replace g11 := mv g11 bb
  replace e5 := mvS e5 bb
  replace s5 := mvS s5 bb
  replace k5 := mvS k5 bb
  replace s6 := mvS s6 bb
  replace k6 := mvS k6 bb
  replace s7 := mvS s7 bb
  replace s8 := mvS s8 bb
  clear hb bb b12
  obtain ⟨x0, x1, -, -, l0⟩ := two g11
  go_wp2_with fail
  clear x0 x1 l0
  refine (columnsP_no (s := sC) _ t10 (by decide)).mono ?_
  rintro e w13 ⟨A0, c0, rfl, -, hb⟩
  have bb : Below w12.heap.size w12 w13 := hb
  have b14 := Lib.hid (b13.out.trans (bb.mono b13.out.size))
  replace g1 := mv g1 bb
  replace g2 := mv g2 bb
  replace g4 := mv g4 bb
  replace g8 := mv g8 bb
  replace g11 := mv g11 bb
  replace e5 := mvS e5 bb
  replace s5 := mvS s5 bb
  replace k5 := mvS k5 bb
  replace s6 := mvS s6 bb
  replace k6 := mvS k6 bb
  replace s7 := mvS s7 bb
  replace s8 := mvS s8 bb
  replace s9 := mvS s9 bb
  clear hb bb b13
  obtain ⟨x0, x1, -, -, l0⟩ := two g11
  go_wp2_with fail
  clear x0 x1 l0
  refine (bitsP_no (s := sC) _ t11 (by decide)).mono ?_
  rintro e w14 ⟨A0, c0, rfl, -, hb⟩
  have bb : Below w13.heap.size w13 w14 := hb
  have b15 := Lib.hid (b14.out.trans (bb.mono b14.out.size))
  replace g1 := mv g1 bb
  replace g2 := mv g2 bb
  replace g4 := mv g4 bb
  replace g8 := mv g8 bb
  replace g11 := mv g11 bb
  replace e5 := mvS e5 bb
  replace s5 := mvS s5 bb
  replace k5 := mvS k5 bb
  replace s6 := mvS s6 bb
  replace k6 := mvS k6 bb
  replace s7 := mvS s7 bb
  replace s8 := mvS s8 bb
  replace s9 := mvS s9 bb
  clear hb bb b14
  go_wp2_with fail
  refine (tableP_eq (l := [[1, 2], [3, 4], [5, 6]]) _ (lay_cols [[1, 2], [3, 4], [5, 6]] w14 (n := w14.heap.size) (m := w14.heap.size + 1 + 1 + 1) rfl rfl (by simp) (by simp)) (by decide) t12).mono ?_
  rintro e w15 ⟨A15, c15, rfl, hs15, hb⟩
  have bb : Below w14.heap.size w14 w15 := ((layW_below [[1, 2], [3, 4], [5, 6]] w14).alloc (layW_below [[1, 2], [3, 4], [5, 6]] w14).size _).trans (hb.mono (by rw [World.size_alloc, layW_size]; omega))
  have b16 := Lib.hid (b15.out.trans (bb.mono b15.out.size))
  have s15 := hs15.any
  clear hs15
  replace g1 := mv g1 bb
  replace g2 := mv g2 bb
  replace g4 := mv g4 bb
  replace g8 := mv g8 bb
  replace g11 := mv g11 bb
  replace e5 := mvS e5 bb
  replace s5 := mvS s5 bb
  replace k5 := mvS k5 bb
  replace s6 := mvS s6 bb
  replace k6 := mvS k6 bb
  replace s7 := mvS s7 bb
  replace s8 := mvS s8 bb
  replace s9 := mvS s9 bb
  clear hb bb b15
  go_wp2_with fail
  refine (tableP_eq (l := []) (A := none) (c := 0) _ (Sl.nil_ Enc.u64.slice (fun _ => True) _ _ (Nat.zero_le _)) (by decide) t13).mono ?_
  rintro e w16 ⟨A0, c0, rfl, -, hb⟩
  have bb : Below w15.heap.size w15 w16 := hb
  have b17 := Lib.hid (b16.out.trans (bb.mono b16.out.size))
  replace g1 := mv g1 bb
  replace g2 := mv g2 bb
  replace g4 := mv g4 bb
  replace g8 := mv g8 bb
  replace g11 := mv g11 bb
  replace e5 := mvS e5 bb
  replace s5 := mvS s5 bb
  replace k5 := mvS k5 bb
  replace s6 := mvS s6 bb
  replace k6 := mvS k6 bb
  replace s7 := mvS s7 bb
  replace s8 := mvS s8 bb
  replace s9 := mvS s9 bb
  replace s15 := mvS s15 bb
  clear hb bb b16
  go_wp2_with fail
  refine (tableP_eq (l := [[1, 2], [3]]) _ (lay_cols [[1, 2], [3]] w16 (n := w16.heap.size) (m := w16.heap.size + 1 + 1) rfl rfl (by simp) (by simp)) (by decide) t14).mono ?_
  rintro e w17 ⟨A0, c0, rfl, -, hb⟩
  have bb : Below w16.heap.size w16 w17 := ((layW_below [[1, 2], [3]] w16).alloc (layW_below [[1, 2], [3]] w16).size _).trans (hb.mono (by rw [World.size_alloc, layW_size]; omega))
  have b18 := Lib.hid (b17.out.trans (bb.mono b17.out.size))
  replace g1 := mv g1 bb
  replace g2 := mv g2 bb
  replace g4 := mv g4 bb
  replace g8 := mv g8 bb
  replace g11 := mv g11 bb
  replace e5 := mvS e5 bb
  replace s5 := mvS s5 bb
  replace k5 := mvS k5 bb
  replace s6 := mvS s6 bb
  replace k6 := mvS k6 bb
  replace s7 := mvS s7 bb
  replace s8 := mvS s8 bb
  replace s9 := mvS s9 bb
  replace s15 := mvS s15 bb
  clear hb bb b17
  go_upto_region 24 with fail
  refine wp_world (F := fun wx => Hid (Sl Enc.u64.slice (fun _ => True) wx (some ⟨w17.heap.size + 1 + 1 + 1 + 1 + 1, 0, none⟩) 5 [[1, 15, 0, 0], [2, 255, 0, 0], [3, 0, 0, 0], [4, 129, 0, 0], [0, 1, 0, 0]]) ∧ Hid (Sl Enc.u64.slice (fun _ => True) wx (some ⟨w17.heap.size + 1 + 1 + 1 + 1 + 1 + 1 + 1, 0, none⟩) 1 [[1, 3, 5, 0, 2, 4, 6, 0]]) ∧ Below w17.heap.size w17 wx) ?_ ?_
  · as_aux_lemma =>
      have q1 := lay_cols [[1, 15, 0, 0], [2, 255, 0, 0], [3, 0, 0, 0], [4, 129, 0, 0], [0, 1, 0, 0]] w17 (n := w17.heap.size) (m := w17.heap.size + 1 + 1 + 1 + 1 + 1) rfl rfl (by simp) (by simp)
      have q2 := (layW_below [[1, 15, 0, 0], [2, 255, 0, 0], [3, 0, 0, 0], [4, 129, 0, 0], [0, 1, 0, 0]] w17).alloc (layW_below [[1, 15, 0, 0], [2, 255, 0, 0], [3, 0, 0, 0], [4, 129, 0, 0], [0, 1, 0, 0]] w17).size (.cells (layV w17.heap.size [[1, 15, 0, 0], [2, 255, 0, 0], [3, 0, 0, 0], [4, 129, 0, 0], [0, 1, 0, 0]]).toArray 34)
      obtain ⟨wy, hy⟩ : ∃ X, X = (layW w17 [[1, 15, 0, 0], [2, 255, 0, 0], [3, 0, 0, 0], [4, 129, 0, 0], [0, 1, 0, 0]]).alloc (.cells (layV w17.heap.size [[1, 15, 0, 0], [2, 255, 0, 0], [3, 0, 0, 0], [4, 129, 0, 0], [0, 1, 0, 0]]).toArray 34) := ⟨_, rfl⟩
      have hn : wy.heap.size = w17.heap.size + 1 + 1 + 1 + 1 + 1 + 1 := by rw [hy, World.size_alloc, layW_size]; rfl
      rw [← hy] at q1 q2
      have q3 := lay_cols [[1, 3, 5, 0, 2, 4, 6, 0]] wy (n := w17.heap.size + 1 + 1 + 1 + 1 + 1 + 1) (m := w17.heap.size + 1 + 1 + 1 + 1 + 1 + 1 + 1) hn rfl (by simp) (by simp)
      have q4 := (layW_below [[1, 3, 5, 0, 2, 4, 6, 0]] wy).alloc (layW_below [[1, 3, 5, 0, 2, 4, 6, 0]] wy).size (.cells (layV (w17.heap.size + 1 + 1 + 1 + 1 + 1 + 1) [[1, 3, 5, 0, 2, 4, 6, 0]]).toArray 34)
      have q5 := q1.keep (Below.agree q4)
      have q6 := q2.trans (q4.mono q2.size)
      rw [hy] at q3 q5 q6
      exact ⟨Lib.hid q5, Lib.hid q3, q6⟩
  rintro w18 ⟨s34, s35, bb⟩
  generalize (some ⟨w17.heap.size + 1 + 1 + 1 + 1 + 1, 0, none⟩ : Option Addr) = A34 at *
  generalize (some ⟨w17.heap.size + 1 + 1 + 1 + 1 + 1 + 1 + 1, 0, none⟩ : Option Addr) = A35 at *
  have b19 := Lib.hid (b18.out.trans (bb.mono b18.out.size))
  replace g1 := mv g1 bb
  replace g2 := mv g2 bb
  replace g4 := mv g4 bb
  replace e5 := mvS e5 bb
  replace s7 := mvS s7 bb
  replace s8 := mvS s8 bb
  replace s9 := mvS s9 bb
  replace s15 := mvS s15 bb
  clear bb b18 g8 g11 s5 k5 s6 k6
  as_aux_lemma =>
    obtain ⟨b7, o7, cs7, rfl, -, l7, hr7, hc7⟩ := s7.out.at' (k := 0) (x := rB) rfl (by decide)
    have z7 : ∀ W, Below w18.heap.size w18 W → W.cell? ⟨b7, o7, none⟩ = some (.int .i64 rB.who) ∧ W.cell? ⟨b7, o7 + 1, none⟩ = some (.int .i64 rB.whn) ∧ W.cell? ⟨b7, o7 + 2, none⟩ = some (.int .i64 rB.knd) ∧ W.cell? ⟨b7, o7 + 3, none⟩ = some (.int .i64 rB.val) := fun W hW => by
      have hr := rdE_open hr7
      subst hr
      exact ⟨(hW.cell (p := ⟨b7, o7, none⟩) l7).trans (hc7 0 _ rfl), (hW.cell (p := ⟨b7, o7 + 1, none⟩) l7).trans (hc7 1 _ rfl), (hW.cell (p := ⟨b7, o7 + 2, none⟩) l7).trans (hc7 2 _ rfl), (hW.cell (p := ⟨b7, o7 + 3, none⟩) l7).trans (hc7 3 _ rfl)⟩
    have zg1 : ∀ W, Below w18.heap.size w18 W → _ ∧ _ ∧ _ ∧ _ := fun W hW => rd4 (r := rA) (mv g1 hW)
    have zg2 : ∀ W, Below w18.heap.size w18 W → _ ∧ _ ∧ _ ∧ _ := fun W hW => rd4 (r := rB) (mv g2 hW)
    have zg4 : ∀ W, Below w18.heap.size w18 W → _ ∧ _ ∧ _ ∧ _ := fun W hW => rd4 (r := rA) (mv g4 hW)
    have cv : ∀ W, Below w18.heap.size w18 W → (convert 48 9 (.slice A1 3 c1)).run Try.prog W = .ok (.string ⟨#[0x31, 2, 4]⟩) W := fun W hW => convB12 e5.out W (Below.agree hW)
    have cl : ∀ W : World, (convert 48 9 (.slice (some ⟨W.heap.size, 0, none⟩) 3 3)).run Try.prog (W.alloc (.cells #[.int .u8 49, .int .u8 2, .int .u8 4] 5)) = .ok (.string ⟨#[0x31, 2, 4]⟩) (W.alloc (.cells #[.int .u8 49, .int .u8 2, .int .u8 4] 5)) := fun W => convB12 (lit3 0x31 2 4 W rfl) _ (Agree.refl _ _)
    have cld : ∀ W : World, (convert 48 9 (.slice (some ⟨W.heap.size, 0, none⟩) 3 3)).run Try.prog (W.alloc (.cells #[.int .u8 49, .int .u8 2, .int .u8 4] 5)).drew = .ok (.string ⟨#[0x31, 2, 4]⟩) (W.alloc (.cells #[.int .u8 49, .int .u8 2, .int .u8 4] 5)).drew := fun W => convB12 (lit3 0x31 2 4 W rfl) _ (Agree.refl _ _).drew
    obtain ⟨b9, o9, -, rfl, -, l9, -, -⟩ := s9.out.at' (k := 0) (x := [1, 1]) rfl (by decide)
    have hc9 : 24 ≤ c9 := s9.out.le
    have hd9 := s9.out.drop (k := 16) (by decide)
    rw [if_neg (by omega : ¬ c9 = 16)] at hd9
    replace hd9 := Lib.hid hd9
    have hn9 : (c9 = 16) = False := eq_false (by omega)
    have hi9 : ((24 : Int) ≤ (c9 : Int)) = True := eq_true (by omega)
    have hm9 := s9.out.capMax
    have ba : ∀ W o, Below w18.heap.size w18 W → Below w18.heap.size w18 (W.alloc o) := fun W o h => h.alloc h.size o
    have bc : ∀ W W', Below w18.heap.size w18 W → Below W.heap.size W W' → Below w18.heap.size w18 W' := fun W W' h k => h.trans (k.mono h.size)
    have br : Below w18.heap.size w18 w18 := Below.refl _ _
    have v1 : validB rB = true := rfl
    have v2 : validB ⟨0, 0, 0, 256⟩ = false := rfl
    clear g1 g2 g4 s7 e5 s9
    simp only [List.append]
    refine wp_region_noPanic ?_
    refine wp_region_held_drew (S := fun X => Below w18.heap.size w18 X) (by kernel_rfl) ?_ (fun hHeld => ?_)
    · (first | with_reducible assumption | (with_reducible refine Below.drew ?_; with_reducible assumption) | (with_reducible refine ba _ _ ?_; with_reducible assumption) | (with_reducible refine Below.drew ?_; with_reducible refine ba _ _ ?_; with_reducible assumption) | (refine bc _ _ (by assumption) (by assumption)))
    refine RegOk.begin_ (n := 112) (T := rdT24) ⟨by kernel_rfl, by kernel_rfl, by kernel_rfl, by kernel_rfl⟩ fun hR => ?_
    refine hR.take (i := 0) (oi := ?o0) (v := ?v0) (m' := 1) ?h0 (by kernel_rfl) (by kernel_rfl) (fun _ _ _ h => h) (Or.inl ⟨?s0, ?y0⟩) (by assumption) ?n0
    case h0 => simp only [List.getElem?_toArray, List.getElem?_cons_zero]; rfl
    case s0 => rfl
    case y0 => (intro w hSw; (try dsimp only at hSw); go_simp <;> with_reducible rfl)
    try simp only [Act.put, List.setIfInBounds_toArray, List.set_cons_zero, List.set_cons_succ]
    refine hR.take (i := 1) (oi := ?o1) (v := ?v1) (m' := 3) ?h1 (by kernel_rfl) (by kernel_rfl) (fun _ _ _ h => h) (Or.inl ⟨?s1, ?y1⟩) (by assumption) ?n1
    case h1 => simp only [List.getElem?_toArray, List.getElem?_cons_succ, List.getElem?_cons_zero]; rfl
    case s1 => rfl
    case y1 => (intro w hSw; (try dsimp only at hSw); go_simp <;> with_reducible rfl)
    try simp only [Act.put, List.setIfInBounds_toArray, List.set_cons_zero, List.set_cons_succ]
    refine hR.come (rs := [2]) (by kernel_rfl) (by simp) ?_
    refine AllReadyH.cons (o := ?o2) ?h2 (fun K hK => ?k2) AllReadyH.nil
    case h2 => simp only [List.getElem?_toArray, List.getElem?_cons_succ, List.getElem?_cons_zero]; rfl
    go_simp
    refine hK.out _ _ ?_ (fun hHeld => ?_)
    · (first | with_reducible assumption | (with_reducible refine Below.drew ?_; with_reducible assumption) | (with_reducible refine ba _ _ ?_; with_reducible assumption) | (with_reducible refine Below.drew ?_; with_reducible refine ba _ _ ?_; with_reducible assumption) | (refine bc _ _ (by assumption) (by assumption)))
    clear hK K
    refine RegOk.put_ (m' := 7) (by kernel_rfl) ?_
    try simp only [Act.put, List.setIfInBounds_toArray, List.set_cons_zero, List.set_cons_succ]
    refine hR.come (rs := [3]) (by kernel_rfl) (by simp) ?_
    refine AllReadyH.cons (o := ?o3) ?h3 (fun K hK => ?k3) AllReadyH.nil
    case h3 => simp only [List.getElem?_toArray, List.getElem?_cons_succ, List.getElem?_cons_zero]; rfl
    go_simp
    refine hK.out _ _ ?_ (fun hHeld => ?_)
    · (first | with_reducible assumption | (with_reducible refine Below.drew ?_; with_reducible assumption) | (with_reducible refine ba _ _ ?_; with_reducible assumption) | (with_reducible refine Below.drew ?_; with_reducible refine ba _ _ ?_; with_reducible assumption) | (refine bc _ _ (by assumption) (by assumption)))
    clear hK K
    refine RegOk.put_ (m' := 15) (by kernel_rfl) ?_
    try simp only [Act.put, List.setIfInBounds_toArray, List.set_cons_zero, List.set_cons_succ]
    refine hR.take (i := 4) (oi := ?o4) (v := ?v4) (m' := 31) ?h4 (by kernel_rfl) (by kernel_rfl) (fun _ _ _ h => h) (Or.inl ⟨?s4, ?y4⟩) (by assumption) ?n4
    case h4 => simp only [List.getElem?_toArray, List.getElem?_cons_succ, List.getElem?_cons_zero]; rfl
    case s4 => rfl
    case y4 => (intro w hSw; (try dsimp only at hSw); go_simp <;> with_reducible rfl)
    try simp only [Act.put, List.setIfInBounds_toArray, List.set_cons_zero, List.set_cons_succ]
    refine hR.take (i := 5) (oi := ?o5) (v := ?v5) (m' := 63) ?h5 (by kernel_rfl) (by kernel_rfl) (fun _ _ _ h => h) (Or.inl ⟨?s5, ?y5⟩) (by assumption) ?n5
    case h5 => simp only [List.getElem?_toArray, List.getElem?_cons_succ, List.getElem?_cons_zero]; rfl
    case s5 => rfl
    case y5 => (intro w hSw; (try dsimp only at hSw); go_simp <;> with_reducible rfl)
    try simp only [Act.put, List.setIfInBounds_toArray, List.set_cons_zero, List.set_cons_succ]
    refine hR.take (i := 6) (oi := ?o6) (v := ?v6) (m' := 127) ?h6 (by kernel_rfl) (by kernel_rfl) (fun _ _ _ h => h) (Or.inl ⟨?s6, ?y6⟩) (by assumption) ?n6
    case h6 => simp only [List.getElem?_toArray, List.getElem?_cons_succ, List.getElem?_cons_zero]; rfl
    case s6 => rfl
    case y6 => (intro w hSw; (try dsimp only at hSw); go_simp <;> with_reducible rfl)
    try simp only [Act.put, List.setIfInBounds_toArray, List.set_cons_zero, List.set_cons_succ]
    refine hR.take (i := 7) (oi := ?o7) (v := ?v7) (m' := 255) ?h7 (by kernel_rfl) (by kernel_rfl) (fun _ _ _ h => h) (Or.inl ⟨?s7, ?y7⟩) (by assumption) ?n7
    case h7 => simp only [List.getElem?_toArray, List.getElem?_cons_succ, List.getElem?_cons_zero]; rfl
    case s7 => rfl
    case y7 => (intro w hSw; (try dsimp only at hSw); go_simp <;> with_reducible rfl)
    try simp only [Act.put, List.setIfInBounds_toArray, List.set_cons_zero, List.set_cons_succ]
    refine hR.take (i := 8) (oi := ?o8) (v := ?v8) (m' := 511) ?h8 (by kernel_rfl) (by kernel_rfl) (fun _ _ _ h => h) (Or.inl ⟨?s8, ?y8⟩) (by assumption) ?n8
    case h8 => simp only [List.getElem?_toArray, List.getElem?_cons_succ, List.getElem?_cons_zero]; rfl
    case s8 => rfl
    case y8 => (intro w hSw; (try dsimp only at hSw); go_simp <;> with_reducible rfl)
    try simp only [Act.put, List.setIfInBounds_toArray, List.set_cons_zero, List.set_cons_succ]
    refine hR.take (i := 9) (oi := ?o9) (v := ?v9) (m' := 1023) ?h9 (by kernel_rfl) (by kernel_rfl) (fun _ _ _ h => h) (Or.inl ⟨?s9, ?y9⟩) (by assumption) ?n9
    case h9 => simp only [List.getElem?_toArray, List.getElem?_cons_succ, List.getElem?_cons_zero]; rfl
    case s9 => rfl
    case y9 => (intro w hSw; (try dsimp only at hSw); go_simp <;> with_reducible rfl)
    try simp only [Act.put, List.setIfInBounds_toArray, List.set_cons_zero, List.set_cons_succ]
    refine hR.take (i := 10) (oi := ?o10) (v := ?v10) (m' := 2047) ?h10 (by kernel_rfl) (by kernel_rfl) (fun _ _ _ h => h) (Or.inl ⟨?s10, ?y10⟩) (by assumption) ?n10
    case h10 => simp only [List.getElem?_toArray, List.getElem?_cons_succ, List.getElem?_cons_zero]; rfl
    case s10 => rfl
    case y10 => (intro w hSw; (try dsimp only at hSw); go_simp <;> with_reducible rfl)
    try simp only [Act.put, List.setIfInBounds_toArray, List.set_cons_zero, List.set_cons_succ]
    refine hR.take (i := 11) (oi := ?o11) (v := ?v11) (m' := 4095) ?h11 (by kernel_rfl) (by kernel_rfl) (fun _ _ _ h => h) (Or.inl ⟨?s11, ?y11⟩) (by assumption) ?n11
    case h11 => simp only [List.getElem?_toArray, List.getElem?_cons_succ, List.getElem?_cons_zero]; rfl
    case s11 => rfl
    case y11 => (intro w hSw; (try dsimp only at hSw); go_simp <;> with_reducible rfl)
    try simp only [Act.put, List.setIfInBounds_toArray, List.set_cons_zero, List.set_cons_succ]
    refine hR.take (i := 12) (oi := ?o12) (v := ?v12) (m' := 8191) ?h12 (by kernel_rfl) (by kernel_rfl) (fun _ _ _ h => h) (Or.inl ⟨?s12, ?y12⟩) (by assumption) ?n12
    case h12 => simp only [List.getElem?_toArray, List.getElem?_cons_succ, List.getElem?_cons_zero]; rfl
    case s12 => rfl
    case y12 => (intro w hSw; (try dsimp only at hSw); go_simp <;> with_reducible rfl)
    try simp only [Act.put, List.setIfInBounds_toArray, List.set_cons_zero, List.set_cons_succ]
    refine hR.take (i := 13) (oi := ?o13) (v := ?v13) (m' := 16383) ?h13 (by kernel_rfl) (by kernel_rfl) (fun _ _ _ h => h) (Or.inl ⟨?s13, ?y13⟩) (by assumption) ?n13
    case h13 => simp only [List.getElem?_toArray, List.getElem?_cons_succ, List.getElem?_cons_zero]; rfl
    case s13 => rfl
    case y13 => (intro w hSw; (try dsimp only at hSw); go_simp <;> with_reducible rfl)
    try simp only [Act.put, List.setIfInBounds_toArray, List.set_cons_zero, List.set_cons_succ]
    refine hR.take (i := 14) (oi := ?o14) (v := ?v14) (m' := 32767) ?h14 (by kernel_rfl) (by kernel_rfl) (fun _ _ _ h => h) (Or.inl ⟨?s14, ?y14⟩) (by assumption) ?n14
    case h14 => simp only [List.getElem?_toArray, List.getElem?_cons_succ, List.getElem?_cons_zero]; rfl
    case s14 => rfl
    case y14 => (intro w hSw; (try dsimp only at hSw); go_simp <;> with_reducible rfl)
    try simp only [Act.put, List.setIfInBounds_toArray, List.set_cons_zero, List.set_cons_succ]
    refine hR.take (i := 15) (oi := ?o15) (v := ?v15) (m' := 65535) ?h15 (by kernel_rfl) (by kernel_rfl) (fun _ _ _ h => h) (Or.inl ⟨?s15, ?y15⟩) (by assumption) ?n15
    case h15 => simp only [List.getElem?_toArray, List.getElem?_cons_succ, List.getElem?_cons_zero]; rfl
    case s15 => rfl
    case y15 => (intro w hSw; (try dsimp only at hSw); go_simp <;> with_reducible rfl)
    try simp only [Act.put, List.setIfInBounds_toArray, List.set_cons_zero, List.set_cons_succ]
    refine hR.take (i := 16) (oi := ?o16) (v := ?v16) (m' := 131071) ?h16 (by kernel_rfl) (by kernel_rfl) (fun _ _ _ h => h) (Or.inl ⟨?s16, ?y16⟩) (by assumption) ?n16
    case h16 => simp only [List.getElem?_toArray, List.getElem?_cons_succ, List.getElem?_cons_zero]; rfl
    case s16 => rfl
    case y16 => (intro w hSw; (try dsimp only at hSw); go_simp <;> with_reducible rfl)
    try simp only [Act.put, List.setIfInBounds_toArray, List.set_cons_zero, List.set_cons_succ]
    refine hR.take (i := 17) (oi := ?o17) (v := ?v17) (m' := 262143) ?h17 (by kernel_rfl) (by kernel_rfl) (fun _ _ _ h => h) (Or.inl ⟨?s17, ?y17⟩) (by assumption) ?n17
    case h17 => simp only [List.getElem?_toArray, List.getElem?_cons_succ, List.getElem?_cons_zero]; rfl
    case s17 => rfl
    case y17 => (intro w hSw; (try dsimp only at hSw); go_simp <;> with_reducible rfl)
    try simp only [Act.put, List.setIfInBounds_toArray, List.set_cons_zero, List.set_cons_succ]
    refine hR.take (i := 18) (oi := ?o18) (v := ?v18) (m' := 524287) ?h18 (by kernel_rfl) (by kernel_rfl) (fun _ _ _ h => h) (Or.inl ⟨?s18, ?y18⟩) (by assumption) ?n18
    case h18 => simp only [List.getElem?_toArray, List.getElem?_cons_succ, List.getElem?_cons_zero]; rfl
    case s18 => rfl
    case y18 => (intro w hSw; (try dsimp only at hSw); go_simp <;> with_reducible rfl)
    try simp only [Act.put, List.setIfInBounds_toArray, List.set_cons_zero, List.set_cons_succ]
    refine hR.take (i := 19) (oi := ?o19) (v := ?v19) (m' := 1048575) ?h19 (by kernel_rfl) (by kernel_rfl) (fun _ _ _ h => h) (Or.inl ⟨?s19, ?y19⟩) (by assumption) ?n19
    case h19 => simp only [List.getElem?_toArray, List.getElem?_cons_succ, List.getElem?_cons_zero]; rfl
    case s19 => rfl
    case y19 => (intro w hSw; (try dsimp only at hSw); go_simp <;> with_reducible rfl)
    try simp only [Act.put, List.setIfInBounds_toArray, List.set_cons_zero, List.set_cons_succ]
    refine hR.take (i := 20) (oi := ?o20) (v := ?v20) (m' := 2097151) ?h20 (by kernel_rfl) (by kernel_rfl) (fun _ _ _ h => h) (Or.inl ⟨?s20, ?y20⟩) (by assumption) ?n20
    case h20 => simp only [List.getElem?_toArray, List.getElem?_cons_succ, List.getElem?_cons_zero]; rfl
    case s20 => rfl
    case y20 => (intro w hSw; (try dsimp only at hSw); go_simp <;> with_reducible rfl)
    try simp only [Act.put, List.setIfInBounds_toArray, List.set_cons_zero, List.set_cons_succ]
    refine hR.take (i := 21) (oi := ?o21) (v := ?v21) (m' := 4194303) ?h21 (by kernel_rfl) (by kernel_rfl) (fun _ _ _ h => h) (Or.inl ⟨?s21, ?y21⟩) (by assumption) ?n21
    case h21 => simp only [List.getElem?_toArray, List.getElem?_cons_succ, List.getElem?_cons_zero]; rfl
    case s21 => rfl
    case y21 => (intro w hSw; (try dsimp only at hSw); go_simp <;> with_reducible rfl)
    try simp only [Act.put, List.setIfInBounds_toArray, List.set_cons_zero, List.set_cons_succ]
    refine hR.take (i := 22) (oi := ?o22) (v := ?v22) (m' := 8388607) ?h22 (by kernel_rfl) (by kernel_rfl) (fun _ _ _ h => h) (Or.inl ⟨?s22, ?y22⟩) (by assumption) ?n22
    case h22 => simp only [List.getElem?_toArray, List.getElem?_cons_succ, List.getElem?_cons_zero]; rfl
    case s22 => rfl
    case y22 => (intro w hSw; (try dsimp only at hSw); go_simp <;> with_reducible rfl)
    try simp only [Act.put, List.setIfInBounds_toArray, List.set_cons_zero, List.set_cons_succ]
    refine hR.take (i := 23) (oi := ?o23) (v := ?v23) (m' := 16777215) ?h23 (by kernel_rfl) (by kernel_rfl) (fun _ _ _ h => h) (Or.inl ⟨?s23, ?y23⟩) (by assumption) ?n23
    case h23 => simp only [List.getElem?_toArray, List.getElem?_cons_succ, List.getElem?_cons_zero]; rfl
    case s23 => rfl
    case y23 => (intro w hSw; (try dsimp only at hSw); go_simp <;> with_reducible rfl)
    try simp only [Act.put, List.setIfInBounds_toArray, List.set_cons_zero, List.set_cons_succ]
    refine hR.take (i := 24) (oi := ?o24) (v := ?v24) (m' := 33554431) ?h24 (by kernel_rfl) (by kernel_rfl) (fun _ _ _ h => h) (Or.inl ⟨?s24, ?y24⟩) (by assumption) ?n24
    case h24 => simp only [List.getElem?_toArray, List.getElem?_cons_succ, List.getElem?_cons_zero]; rfl
    case s24 => rfl
    case y24 => (intro w hSw; (try dsimp only at hSw); go_simp <;> with_reducible rfl)
    try simp only [Act.put, List.setIfInBounds_toArray, List.set_cons_zero, List.set_cons_succ]
    refine hR.take (i := 25) (oi := ?o25) (v := ?v25) (m' := 67108863) ?h25 (by kernel_rfl) (by kernel_rfl) (fun _ _ _ h => h) (Or.inl ⟨?s25, ?y25⟩) (by assumption) ?n25
    case h25 => simp only [List.getElem?_toArray, List.getElem?_cons_succ, List.getElem?_cons_zero]; rfl
    case s25 => rfl
    case y25 => (intro w hSw; (try dsimp only at hSw); go_simp <;> with_reducible rfl)
    try simp only [Act.put, List.setIfInBounds_toArray, List.set_cons_zero, List.set_cons_succ]
    refine hR.take (i := 26) (oi := ?o26) (v := ?v26) (m' := 134217727) ?h26 (by kernel_rfl) (by kernel_rfl) (fun _ _ _ h => h) (Or.inl ⟨?s26, ?y26⟩) (by assumption) ?n26
    case h26 => simp only [List.getElem?_toArray, List.getElem?_cons_succ, List.getElem?_cons_zero]; rfl
    case s26 => rfl
    case y26 => (intro w hSw; (try dsimp only at hSw); go_simp <;> with_reducible rfl)
    try simp only [Act.put, List.setIfInBounds_toArray, List.set_cons_zero, List.set_cons_succ]
    refine hR.take (i := 27) (oi := ?o27) (v := ?v27) (m' := 268435455) ?h27 (by kernel_rfl) (by kernel_rfl) (fun _ _ _ h => h) (Or.inl ⟨?s27, ?y27⟩) (by assumption) ?n27
    case h27 => simp only [List.getElem?_toArray, List.getElem?_cons_succ, List.getElem?_cons_zero]; rfl
    case s27 => rfl
    case y27 => (intro w hSw; (try dsimp only at hSw); go_simp <;> with_reducible rfl)
    try simp only [Act.put, List.setIfInBounds_toArray, List.set_cons_zero, List.set_cons_succ]
    refine hR.take (i := 28) (oi := ?o28) (v := ?v28) (m' := 536870911) ?h28 (by kernel_rfl) (by kernel_rfl) (fun _ _ _ h => h) (Or.inl ⟨?s28, ?y28⟩) (by assumption) ?n28
    case h28 => simp only [List.getElem?_toArray, List.getElem?_cons_succ, List.getElem?_cons_zero]; rfl
    case s28 => rfl
    case y28 => (intro w hSw; (try dsimp only at hSw); go_simp <;> with_reducible rfl)
    try simp only [Act.put, List.setIfInBounds_toArray, List.set_cons_zero, List.set_cons_succ]
    refine hR.take (i := 29) (oi := ?o29) (v := ?v29) (m' := 1073741823) ?h29 (by kernel_rfl) (by kernel_rfl) (fun _ _ _ h => h) (Or.inl ⟨?s29, ?y29⟩) (by assumption) ?n29
    case h29 => simp only [List.getElem?_toArray, List.getElem?_cons_succ, List.getElem?_cons_zero]; rfl
    case s29 => rfl
    case y29 => (intro w hSw; (try dsimp only at hSw); go_simp <;> with_reducible rfl)
    try simp only [Act.put, List.setIfInBounds_toArray, List.set_cons_zero, List.set_cons_succ]
    refine hR.take (i := 30) (oi := ?o30) (v := ?v30) (m' := 2147483647) ?h30 (by kernel_rfl) (by kernel_rfl) (fun _ _ _ h => h) (Or.inl ⟨?s30, ?y30⟩) (by assumption) ?n30
    case h30 => simp only [List.getElem?_toArray, List.getElem?_cons_succ, List.getElem?_cons_zero]; rfl
    case s30 => rfl
    case y30 => (intro w hSw; (try dsimp only at hSw); go_simp <;> with_reducible rfl)
    try simp only [Act.put, List.setIfInBounds_toArray, List.set_cons_zero, List.set_cons_succ]
    refine hR.take (i := 31) (oi := ?o31) (v := ?v31) (m' := 4294967295) ?h31 (by kernel_rfl) (by kernel_rfl) (fun _ _ _ h => h) (Or.inl ⟨?s31, ?y31⟩) (by assumption) ?n31
    case h31 => simp only [List.getElem?_toArray, List.getElem?_cons_succ, List.getElem?_cons_zero]; rfl
    case s31 => rfl
    case y31 => (intro w hSw; (try dsimp only at hSw); go_simp <;> with_reducible rfl)
    try simp only [Act.put, List.setIfInBounds_toArray, List.set_cons_zero, List.set_cons_succ]
    refine hR.take (i := 32) (oi := ?o32) (v := ?v32) (m' := 8589934591) ?h32 (by kernel_rfl) (by kernel_rfl) (fun _ _ _ h => h) (Or.inl ⟨?s32, ?y32⟩) (by assumption) ?n32
    case h32 => simp only [List.getElem?_toArray, List.getElem?_cons_succ, List.getElem?_cons_zero]; rfl
    case s32 => rfl
    case y32 => (intro w hSw; (try dsimp only at hSw); go_simp <;> with_reducible rfl)
    try simp only [Act.put, List.setIfInBounds_toArray, List.set_cons_zero, List.set_cons_succ]
    refine hR.take (i := 33) (oi := ?o33) (v := ?v33) (m' := 17179869183) ?h33 (by kernel_rfl) (by kernel_rfl) (fun _ _ _ h => h) (Or.inl ⟨?s33, ?y33⟩) (by assumption) ?n33
    case h33 => simp only [List.getElem?_toArray, List.getElem?_cons_succ, List.getElem?_cons_zero]; rfl
    case s33 => rfl
    case y33 => (intro w hSw; (try dsimp only at hSw); go_simp <;> with_reducible rfl)
    try simp only [Act.put, List.setIfInBounds_toArray, List.set_cons_zero, List.set_cons_succ]
    refine hR.take (i := 34) (oi := ?o34) (v := ?v34) (m' := 34359738367) ?h34 (by kernel_rfl) (by kernel_rfl) (fun _ _ _ h => h) (Or.inl ⟨?s34, ?y34⟩) (by assumption) ?n34
    case h34 => simp only [List.getElem?_toArray, List.getElem?_cons_succ, List.getElem?_cons_zero]; rfl
    case s34 => rfl
    case y34 => (intro w hSw; (try dsimp only at hSw); go_simp <;> with_reducible rfl)
    try simp only [Act.put, List.setIfInBounds_toArray, List.set_cons_zero, List.set_cons_succ]
    refine hR.take (i := 35) (oi := ?o35) (v := ?v35) (m' := 68719476735) ?h35 (by kernel_rfl) (by kernel_rfl) (fun _ _ _ h => h) (Or.inl ⟨?s35, ?y35⟩) (by assumption) ?n35
    case h35 => simp only [List.getElem?_toArray, List.getElem?_cons_succ, List.getElem?_cons_zero]; rfl
    case s35 => rfl
    case y35 => (intro w hSw; (try dsimp only at hSw); go_simp <;> with_reducible rfl)
    try simp only [Act.put, List.setIfInBounds_toArray, List.set_cons_zero, List.set_cons_succ]
    refine hR.take (i := 36) (oi := ?o36) (v := ?v36) (m' := 137438953471) ?h36 (by kernel_rfl) (by kernel_rfl) (fun _ _ _ h => h) (Or.inl ⟨?s36, ?y36⟩) (by assumption) ?n36
    case h36 => simp only [List.getElem?_toArray, List.getElem?_cons_succ, List.getElem?_cons_zero]; rfl
    case s36 => rfl
    case y36 => (intro w hSw; (try dsimp only at hSw); go_simp <;> with_reducible rfl)
    try simp only [Act.put, List.setIfInBounds_toArray, List.set_cons_zero, List.set_cons_succ]
    refine hR.take (i := 37) (oi := ?o37) (v := ?v37) (m' := 274877906943) ?h37 (by kernel_rfl) (by kernel_rfl) (fun _ _ _ h => h) (Or.inl ⟨?s37, ?y37⟩) (by assumption) ?n37
    case h37 => simp only [List.getElem?_toArray, List.getElem?_cons_succ, List.getElem?_cons_zero]; rfl
    case s37 => rfl
    case y37 => (intro w hSw; (try dsimp only at hSw); go_simp <;> with_reducible rfl)
    try simp only [Act.put, List.setIfInBounds_toArray, List.set_cons_zero, List.set_cons_succ]
    refine hR.take (i := 38) (oi := ?o38) (v := ?v38) (m' := 549755813887) ?h38 (by kernel_rfl) (by kernel_rfl) (fun _ _ _ h => h) (Or.inl ⟨?s38, ?y38⟩) (by assumption) ?n38
    case h38 => simp only [List.getElem?_toArray, List.getElem?_cons_succ, List.getElem?_cons_zero]; rfl
    case s38 => rfl
    case y38 => (intro w hSw; (try dsimp only at hSw); go_simp <;> with_reducible rfl)
    try simp only [Act.put, List.setIfInBounds_toArray, List.set_cons_zero, List.set_cons_succ]
    refine hR.take (i := 39) (oi := ?o39) (v := ?v39) (m' := 1099511627775) ?h39 (by kernel_rfl) (by kernel_rfl) (fun _ _ _ h => h) (Or.inl ⟨?s39, ?y39⟩) (by assumption) ?n39
    case h39 => simp only [List.getElem?_toArray, List.getElem?_cons_succ, List.getElem?_cons_zero]; rfl
    case s39 => rfl
    case y39 => (intro w hSw; (try dsimp only at hSw); go_simp <;> with_reducible rfl)
    try simp only [Act.put, List.setIfInBounds_toArray, List.set_cons_zero, List.set_cons_succ]
    refine hR.take (i := 40) (oi := ?o40) (v := ?v40) (m' := 2199023255551) ?h40 (by kernel_rfl) (by kernel_rfl) (fun _ _ _ h => h) (Or.inl ⟨?s40, ?y40⟩) (by assumption) ?n40
    case h40 => simp only [List.getElem?_toArray, List.getElem?_cons_succ, List.getElem?_cons_zero]; rfl
    case s40 => rfl
    case y40 => (intro w hSw; (try dsimp only at hSw); go_simp <;> with_reducible rfl)
    try simp only [Act.put, List.setIfInBounds_toArray, List.set_cons_zero, List.set_cons_succ]
    refine hR.take (i := 41) (oi := ?o41) (v := ?v41) (m' := 4398046511103) ?h41 (by kernel_rfl) (by kernel_rfl) (fun _ _ _ h => h) (Or.inl ⟨?s41, ?y41⟩) (by assumption) ?n41
    case h41 => simp only [List.getElem?_toArray, List.getElem?_cons_succ, List.getElem?_cons_zero]; rfl
    case s41 => rfl
    case y41 => (intro w hSw; (try dsimp only at hSw); go_simp <;> with_reducible rfl)
    try simp only [Act.put, List.setIfInBounds_toArray, List.set_cons_zero, List.set_cons_succ]
    refine hR.take (i := 42) (oi := ?o42) (v := ?v42) (m' := 8796093022207) ?h42 (by kernel_rfl) (by kernel_rfl) (fun _ _ _ h => h) (Or.inl ⟨?s42, ?y42⟩) (by assumption) ?n42
    case h42 => simp only [List.getElem?_toArray, List.getElem?_cons_succ, List.getElem?_cons_zero]; rfl
    case s42 => rfl
    case y42 => (intro w hSw; (try dsimp only at hSw); go_simp <;> with_reducible rfl)
    try simp only [Act.put, List.setIfInBounds_toArray, List.set_cons_zero, List.set_cons_succ]
    refine hR.take (i := 43) (oi := ?o43) (v := ?v43) (m' := 17592186044415) ?h43 (by kernel_rfl) (by kernel_rfl) (fun _ _ _ h => h) (Or.inl ⟨?s43, ?y43⟩) (by assumption) ?n43
    case h43 => simp only [List.getElem?_toArray, List.getElem?_cons_succ, List.getElem?_cons_zero]; rfl
    case s43 => rfl
    case y43 => (intro w hSw; (try dsimp only at hSw); go_simp <;> with_reducible rfl)
    try simp only [Act.put, List.setIfInBounds_toArray, List.set_cons_zero, List.set_cons_succ]
    refine hR.take (i := 44) (oi := ?o44) (v := ?v44) (m' := 35184372088831) ?h44 (by kernel_rfl) (by kernel_rfl) (fun _ _ _ h => h) (Or.inl ⟨?s44, ?y44⟩) (by assumption) ?n44
    case h44 => simp only [List.getElem?_toArray, List.getElem?_cons_succ, List.getElem?_cons_zero]; rfl
    case s44 => rfl
    case y44 => (intro w hSw; (try dsimp only at hSw); go_simp <;> with_reducible rfl)
    try simp only [Act.put, List.setIfInBounds_toArray, List.set_cons_zero, List.set_cons_succ]
    refine hR.take (i := 45) (oi := ?o45) (v := ?v45) (m' := 70368744177663) ?h45 (by kernel_rfl) (by kernel_rfl) (fun _ _ _ h => h) (Or.inl ⟨?s45, ?y45⟩) (by assumption) ?n45
    case h45 => simp only [List.getElem?_toArray, List.getElem?_cons_succ, List.getElem?_cons_zero]; rfl
    case s45 => rfl
    case y45 => (intro w hSw; (try dsimp only at hSw); go_simp <;> with_reducible rfl)
    try simp only [Act.put, List.setIfInBounds_toArray, List.set_cons_zero, List.set_cons_succ]
    refine hR.take (i := 46) (oi := ?o46) (v := ?v46) (m' := 140737488355327) ?h46 (by kernel_rfl) (by kernel_rfl) (fun _ _ _ h => h) (Or.inl ⟨?s46, ?y46⟩) (by assumption) ?n46
    case h46 => simp only [List.getElem?_toArray, List.getElem?_cons_succ, List.getElem?_cons_zero]; rfl
    case s46 => rfl
    case y46 => (intro w hSw; (try dsimp only at hSw); go_simp <;> with_reducible rfl)
    try simp only [Act.put, List.setIfInBounds_toArray, List.set_cons_zero, List.set_cons_succ]
    refine hR.take (i := 47) (oi := ?o47) (v := ?v47) (m' := 281474976710655) ?h47 (by kernel_rfl) (by kernel_rfl) (fun _ _ _ h => h) (Or.inl ⟨?s47, ?y47⟩) (by assumption) ?n47
    case h47 => simp only [List.getElem?_toArray, List.getElem?_cons_succ, List.getElem?_cons_zero]; rfl
    case s47 => rfl
    case y47 => (intro w hSw; (try dsimp only at hSw); go_simp <;> with_reducible rfl)
    try simp only [Act.put, List.setIfInBounds_toArray, List.set_cons_zero, List.set_cons_succ]
    refine hR.take (i := 48) (oi := ?o48) (v := ?v48) (m' := 562949953421311) ?h48 (by kernel_rfl) (by kernel_rfl) (fun _ _ _ h => h) (Or.inl ⟨?s48, ?y48⟩) (by assumption) ?n48
    case h48 => simp only [List.getElem?_toArray, List.getElem?_cons_succ, List.getElem?_cons_zero]; rfl
    case s48 => rfl
    case y48 => (intro w hSw; (try dsimp only at hSw); go_simp <;> with_reducible rfl)
    try simp only [Act.put, List.setIfInBounds_toArray, List.set_cons_zero, List.set_cons_succ]
    refine hR.take (i := 49) (oi := ?o49) (v := ?v49) (m' := 1125899906842623) ?h49 (by kernel_rfl) (by kernel_rfl) (fun _ _ _ h => h) (Or.inl ⟨?s49, ?y49⟩) (by assumption) ?n49
    case h49 => simp only [List.getElem?_toArray, List.getElem?_cons_succ, List.getElem?_cons_zero]; rfl
    case s49 => rfl
    case y49 => (intro w hSw; (try dsimp only at hSw); go_simp <;> with_reducible rfl)
    try simp only [Act.put, List.setIfInBounds_toArray, List.set_cons_zero, List.set_cons_succ]
    refine hR.take (i := 50) (oi := ?o50) (v := ?v50) (m' := 2251799813685247) ?h50 (by kernel_rfl) (by kernel_rfl) (fun _ _ _ h => h) (Or.inl ⟨?s50, ?y50⟩) (by assumption) ?n50
    case h50 => simp only [List.getElem?_toArray, List.getElem?_cons_succ, List.getElem?_cons_zero]; rfl
    case s50 => rfl
    case y50 => (intro w hSw; (try dsimp only at hSw); go_simp <;> with_reducible rfl)
    try simp only [Act.put, List.setIfInBounds_toArray, List.set_cons_zero, List.set_cons_succ]
    refine hR.take (i := 51) (oi := ?o51) (v := ?v51) (m' := 4503599627370495) ?h51 (by kernel_rfl) (by kernel_rfl) (fun _ _ _ h => h) (Or.inl ⟨?s51, ?y51⟩) (by assumption) ?n51
    case h51 => simp only [List.getElem?_toArray, List.getElem?_cons_succ, List.getElem?_cons_zero]; rfl
    case s51 => rfl
    case y51 => (intro w hSw; (try dsimp only at hSw); go_simp <;> with_reducible rfl)
    try simp only [Act.put, List.setIfInBounds_toArray, List.set_cons_zero, List.set_cons_succ]
    refine hR.come (rs := [52]) (by kernel_rfl) (by simp) ?_
    refine AllReadyH.cons (o := ?o52) ?h52 (fun K hK => ?k52) AllReadyH.nil
    case h52 => simp only [List.getElem?_toArray, List.getElem?_cons_succ, List.getElem?_cons_zero]; rfl
    (go_simp; go_at_call 20; refine (sameColsN (l := [[1, 15, 0, 0], [2, 255, 0, 0], [3, 0, 0, 0], [4, 129, 0, 0], [0, 1, 0, 0]]) rfl _ (s8.out.keep (Below.agree (by assumption))) (s34.out.keep (Below.agree (by assumption)))).mono ?_; rintro e w4 ⟨rfl, hb4⟩; skip; have hk := bc _ _ (by assumption) hb4; try clear hb4)
    refine hK.out _ _ ?_ (fun hHeld => ?_)
    · (first | with_reducible assumption | (with_reducible refine Below.drew ?_; with_reducible assumption) | (with_reducible refine ba _ _ ?_; with_reducible assumption) | (with_reducible refine Below.drew ?_; with_reducible refine ba _ _ ?_; with_reducible assumption) | (refine bc _ _ (by assumption) (by assumption)))
    clear hK K
    refine RegOk.put_ (m' := 9007199254740991) (by kernel_rfl) ?_
    try simp only [Act.put, List.setIfInBounds_toArray, List.set_cons_zero, List.set_cons_succ]
    refine hR.take (i := 53) (oi := ?o53) (v := ?v53) (m' := 18014398509481983) ?h53 (by kernel_rfl) (by kernel_rfl) (fun _ _ _ h => h) (Or.inl ⟨?s53, ?y53⟩) (by assumption) ?n53
    case h53 => simp only [List.getElem?_toArray, List.getElem?_cons_succ, List.getElem?_cons_zero]; rfl
    case s53 => rfl
    case y53 => (intro w hSw; (try dsimp only at hSw); go_simp <;> with_reducible rfl)
    try simp only [Act.put, List.setIfInBounds_toArray, List.set_cons_zero, List.set_cons_succ]
    refine hR.take (i := 54) (oi := ?o54) (v := ?v54) (m' := 36028797018963967) ?h54 (by kernel_rfl) (by kernel_rfl) (fun _ _ _ h => h) (Or.inl ⟨?s54, ?y54⟩) (by assumption) ?n54
    case h54 => simp only [List.getElem?_toArray, List.getElem?_cons_succ, List.getElem?_cons_zero]; rfl
    case s54 => rfl
    case y54 => (intro w hSw; (try dsimp only at hSw); go_simp <;> with_reducible rfl)
    try simp only [Act.put, List.setIfInBounds_toArray, List.set_cons_zero, List.set_cons_succ]
    refine hR.take (i := 55) (oi := ?o55) (v := ?v55) (m' := 72057594037927935) ?h55 (by kernel_rfl) (by kernel_rfl) (fun _ _ _ h => h) (Or.inl ⟨?s55, ?y55⟩) (by assumption) ?n55
    case h55 => simp only [List.getElem?_toArray, List.getElem?_cons_succ, List.getElem?_cons_zero]; rfl
    case s55 => rfl
    case y55 => (intro w hSw; (try dsimp only at hSw); go_simp <;> with_reducible rfl)
    try simp only [Act.put, List.setIfInBounds_toArray, List.set_cons_zero, List.set_cons_succ]
    refine hR.take (i := 56) (oi := ?o56) (v := ?v56) (m' := 144115188075855871) ?h56 (by kernel_rfl) (by kernel_rfl) (fun _ _ _ h => h) (Or.inl ⟨?s56, ?y56⟩) (by assumption) ?n56
    case h56 => simp only [List.getElem?_toArray, List.getElem?_cons_succ, List.getElem?_cons_zero]; rfl
    case s56 => rfl
    case y56 => (intro w hSw; (try dsimp only at hSw); go_simp <;> with_reducible rfl)
    try simp only [Act.put, List.setIfInBounds_toArray, List.set_cons_zero, List.set_cons_succ]
    refine hR.take (i := 57) (oi := ?o57) (v := ?v57) (m' := 288230376151711743) ?h57 (by kernel_rfl) (by kernel_rfl) (fun _ _ _ h => h) (Or.inl ⟨?s57, ?y57⟩) (by assumption) ?n57
    case h57 => simp only [List.getElem?_toArray, List.getElem?_cons_succ, List.getElem?_cons_zero]; rfl
    case s57 => rfl
    case y57 => (intro w hSw; (try dsimp only at hSw); go_simp <;> with_reducible rfl)
    try simp only [Act.put, List.setIfInBounds_toArray, List.set_cons_zero, List.set_cons_succ]
    refine hR.take (i := 58) (oi := ?o58) (v := ?v58) (m' := 576460752303423487) ?h58 (by kernel_rfl) (by kernel_rfl) (fun _ _ _ h => h) (Or.inl ⟨?s58, ?y58⟩) (by assumption) ?n58
    case h58 => simp only [List.getElem?_toArray, List.getElem?_cons_succ, List.getElem?_cons_zero]; rfl
    case s58 => rfl
    case y58 => (intro w hSw; (try dsimp only at hSw); go_simp <;> with_reducible rfl)
    try simp only [Act.put, List.setIfInBounds_toArray, List.set_cons_zero, List.set_cons_succ]
    refine hR.take (i := 59) (oi := ?o59) (v := ?v59) (m' := 1152921504606846975) ?h59 (by kernel_rfl) (by kernel_rfl) (fun _ _ _ h => h) (Or.inl ⟨?s59, ?y59⟩) (by assumption) ?n59
    case h59 => simp only [List.getElem?_toArray, List.getElem?_cons_succ, List.getElem?_cons_zero]; rfl
    case s59 => rfl
    case y59 => (intro w hSw; (try dsimp only at hSw); go_simp <;> with_reducible rfl)
    try simp only [Act.put, List.setIfInBounds_toArray, List.set_cons_zero, List.set_cons_succ]
    refine hR.take (i := 60) (oi := ?o60) (v := ?v60) (m' := 2305843009213693951) ?h60 (by kernel_rfl) (by kernel_rfl) (fun _ _ _ h => h) (Or.inl ⟨?s60, ?y60⟩) (by assumption) ?n60
    case h60 => simp only [List.getElem?_toArray, List.getElem?_cons_succ, List.getElem?_cons_zero]; rfl
    case s60 => rfl
    case y60 => (intro w hSw; (try dsimp only at hSw); go_simp <;> with_reducible rfl)
    try simp only [Act.put, List.setIfInBounds_toArray, List.set_cons_zero, List.set_cons_succ]
    refine wpAnyH_lits1 (w0 := w18) (e := 38) (fuel := 43) (g := 58) (dg := 198) (b := true) 8 [⟨61, 201, [0, 1]⟩, ⟨62, 202, [0, 0]⟩, ⟨63, 203, [1, 0]⟩, ⟨64, 204, [0, 0]⟩, ⟨65, 205, [0, 0]⟩, ⟨66, 206, [0, 0]⟩, ⟨67, 207, [0, 0]⟩, ⟨68, 208, [0, 1]⟩] rfl (by rw [bitsA_size, hR.size]) (by decide) (by decide) (hR.ready.trans (by kernel_rfl)) (hR.batch (by kernel_rfl)) (by kernel_rfl) ?c2 (by kernel_rfl) (by assumption) ?c4
    case c2 =>
      intro p hp
      simp only [List.mem_cons, List.not_mem_nil, or_false] at hp
      rcases hp with rfl | rfl | rfl | rfl | rfl | rfl | rfl | rfl
      all_goals exact ⟨by decide, by decide, _, (by simp only [List.getElem?_toArray, List.getElem?_cons_succ, List.getElem?_cons_zero]; rfl), rfl, rfl, fun a w => lit2_run _ _ _ _ _ _ _ a w⟩
    rintro gs w8 hgl hb8 hHeld hsl
    obtain ⟨g1, g2, g3, g4, g5, g6, g7, g8, rfl⟩ := eight hgl
    have f1 := hsl (⟨61, 201, [0, 1]⟩, g1) (by simp)
    have f2 := hsl (⟨62, 202, [0, 0]⟩, g2) (by simp)
    have f3 := hsl (⟨63, 203, [1, 0]⟩, g3) (by simp)
    have f4 := hsl (⟨64, 204, [0, 0]⟩, g4) (by simp)
    have f5 := hsl (⟨65, 205, [0, 0]⟩, g5) (by simp)
    have f6 := hsl (⟨66, 206, [0, 0]⟩, g6) (by simp)
    have f7 := hsl (⟨67, 207, [0, 0]⟩, g7) (by simp)
    have f8 := hsl (⟨68, 208, [0, 1]⟩, g8) (by simp)
    have l8 := Lib.hid (Sl.lit (S := fun _ => True) (w := w8) (e := 34) (E := Enc.u64.slice) (cs := [.slice (some ⟨g1, 0, none⟩) 2 2, .slice (some ⟨g2, 0, none⟩) 2 2, .slice (some ⟨g3, 0, none⟩) 2 2, .slice (some ⟨g4, 0, none⟩) 2 2, .slice (some ⟨g5, 0, none⟩) 2 2, .slice (some ⟨g6, 0, none⟩) 2 2, .slice (some ⟨g7, 0, none⟩) 2 2, .slice (some ⟨g8, 0, none⟩) 2 2]) (xs := [[0, 1], [0, 0], [1, 0], [0, 0], [0, 0], [0, 0], [0, 0], [0, 1]]) (⟨_, _, rfl, ⟨_, _, rfl, f1⟩, _, _, rfl, ⟨_, _, rfl, f2⟩, _, _, rfl, ⟨_, _, rfl, f3⟩, _, _, rfl, ⟨_, _, rfl, f4⟩, _, _, rfl, ⟨_, _, rfl, f5⟩, _, _, rfl, ⟨_, _, rfl, f6⟩, _, _, rfl, ⟨_, _, rfl, f7⟩, _, _, rfl, ⟨_, _, rfl, f8⟩, rfl⟩) (by unfold maxLen; simp) (fun _ _ _ => trivial) trivial)
    clear hsl hgl hb8 f1 f2 f3 f4 f5 f6 f7 f8
    simp only [List.zip_cons_cons, List.zip_nil_right, putAll, List.length_cons, List.length_nil, Nat.reduceAdd]
    simp only [Act.put, List.setIfInBounds_toArray, List.set_cons_zero, List.set_cons_succ]
    refine setAll_bits (m' := 590295810358705651711) (by kernel_rfl) ?_
    refine hR.come (rs := [69]) (by kernel_rfl) (by simp) ?_
    refine AllReadyH.cons (o := ?o69) ?h69 (fun K hK => ?k69) AllReadyH.nil
    case h69 => simp only [List.getElem?_toArray, List.getElem?_cons_succ, List.getElem?_cons_zero]; rfl
    (refine hR.wants (g := 58) (d := 198) (b := true) rfl (by kernel_rfl) (by kernel_rfl) ?_; refine wp_of_run (lit8_run g1 g2 g3 g4 g5 g6 g7 g8 _ _ _ _ _ _ _ 201 202 203 204 205 206 207 208 (by kernel_rfl) (by kernel_rfl) (by kernel_rfl) (by kernel_rfl) (by kernel_rfl) (by kernel_rfl) (by kernel_rfl) (by kernel_rfl)) ?_)
    refine hK.out _ _ ?_ (fun hHeld => ?_)
    · (first | with_reducible assumption | (with_reducible refine Below.drew ?_; with_reducible assumption) | (with_reducible refine ba _ _ ?_; with_reducible assumption) | (with_reducible refine Below.drew ?_; with_reducible refine ba _ _ ?_; with_reducible assumption) | (refine bc _ _ (by assumption) (by assumption)))
    clear hK K
    refine RegOk.put_ (m' := 1180591620717411303423) (by kernel_rfl) ?_
    try simp only [Act.put, List.setIfInBounds_toArray, List.set_cons_zero, List.set_cons_succ]
    refine hR.come (rs := [70]) (by kernel_rfl) (by simp) ?_
    refine AllReadyH.cons (o := ?o70) ?h70 (fun K hK => ?k70) AllReadyH.nil
    case h70 => simp only [List.getElem?_toArray, List.getElem?_cons_succ, List.getElem?_cons_zero]; rfl
    (go_simp; go_at_call 20; refine (sameColsN (l := [[0, 1], [0, 0], [1, 0], [0, 0], [0, 0], [0, 0], [0, 0], [0, 1]]) rfl _ (hd9.out.keep (Below.agree (by assumption))) l8.out).mono ?_; rintro e w4 ⟨rfl, hb4⟩; skip; have hk := bc _ _ (by assumption) hb4; try clear hb4)
    refine hK.out _ _ ?_ (fun hHeld => ?_)
    · (first | with_reducible assumption | (with_reducible refine Below.drew ?_; with_reducible assumption) | (with_reducible refine ba _ _ ?_; with_reducible assumption) | (with_reducible refine Below.drew ?_; with_reducible refine ba _ _ ?_; with_reducible assumption) | (refine bc _ _ (by assumption) (by assumption)))
    clear hK K
    refine RegOk.put_ (m' := 2361183241434822606847) (by kernel_rfl) ?_
    try simp only [Act.put, List.setIfInBounds_toArray, List.set_cons_zero, List.set_cons_succ]
    refine hR.take (i := 71) (oi := ?o71) (v := ?v71) (m' := 4722366482869645213695) ?h71 (by kernel_rfl) (by kernel_rfl) (fun _ _ _ h => h) (Or.inl ⟨?s71, ?y71⟩) (by assumption) ?n71
    case h71 => simp only [List.getElem?_toArray, List.getElem?_cons_succ, List.getElem?_cons_zero]; rfl
    case s71 => rfl
    case y71 => (intro w hSw; (try dsimp only at hSw); go_simp <;> with_reducible rfl)
    try simp only [Act.put, List.setIfInBounds_toArray, List.set_cons_zero, List.set_cons_succ]
    refine hR.take (i := 72) (oi := ?o72) (v := ?v72) (m' := 9444732965739290427391) ?h72 (by kernel_rfl) (by kernel_rfl) (fun _ _ _ h => h) (Or.inl ⟨?s72, ?y72⟩) (by assumption) ?n72
    case h72 => simp only [List.getElem?_toArray, List.getElem?_cons_succ, List.getElem?_cons_zero]; rfl
    case s72 => rfl
    case y72 => (intro w hSw; (try dsimp only at hSw); go_simp <;> with_reducible rfl)
    try simp only [Act.put, List.setIfInBounds_toArray, List.set_cons_zero, List.set_cons_succ]
    refine hR.take (i := 73) (oi := ?o73) (v := ?v73) (m' := 18889465931478580854783) ?h73 (by kernel_rfl) (by kernel_rfl) (fun _ _ _ h => h) (Or.inl ⟨?s73, ?y73⟩) (by assumption) ?n73
    case h73 => simp only [List.getElem?_toArray, List.getElem?_cons_succ, List.getElem?_cons_zero]; rfl
    case s73 => rfl
    case y73 => (intro w hSw; (try dsimp only at hSw); go_simp <;> with_reducible rfl)
    try simp only [Act.put, List.setIfInBounds_toArray, List.set_cons_zero, List.set_cons_succ]
    refine hR.take (i := 74) (oi := ?o74) (v := ?v74) (m' := 37778931862957161709567) ?h74 (by kernel_rfl) (by kernel_rfl) (fun _ _ _ h => h) (Or.inl ⟨?s74, ?y74⟩) (by assumption) ?n74
    case h74 => simp only [List.getElem?_toArray, List.getElem?_cons_succ, List.getElem?_cons_zero]; rfl
    case s74 => rfl
    case y74 => (intro w hSw; (try dsimp only at hSw); go_simp <;> with_reducible rfl)
    try simp only [Act.put, List.setIfInBounds_toArray, List.set_cons_zero, List.set_cons_succ]
    refine hR.take (i := 75) (oi := ?o75) (v := ?v75) (m' := 75557863725914323419135) ?h75 (by kernel_rfl) (by kernel_rfl) (fun _ _ _ h => h) (Or.inl ⟨?s75, ?y75⟩) (by assumption) ?n75
    case h75 => simp only [List.getElem?_toArray, List.getElem?_cons_succ, List.getElem?_cons_zero]; rfl
    case s75 => rfl
    case y75 => (intro w hSw; (try dsimp only at hSw); go_simp <;> with_reducible rfl)
    try simp only [Act.put, List.setIfInBounds_toArray, List.set_cons_zero, List.set_cons_succ]
    refine hR.take (i := 76) (oi := ?o76) (v := ?v76) (m' := 151115727451828646838271) ?h76 (by kernel_rfl) (by kernel_rfl) (fun _ _ _ h => h) (Or.inl ⟨?s76, ?y76⟩) (by assumption) ?n76
    case h76 => simp only [List.getElem?_toArray, List.getElem?_cons_succ, List.getElem?_cons_zero]; rfl
    case s76 => rfl
    case y76 => (intro w hSw; (try dsimp only at hSw); go_simp <;> with_reducible rfl)
    try simp only [Act.put, List.setIfInBounds_toArray, List.set_cons_zero, List.set_cons_succ]
    refine hR.take (i := 77) (oi := ?o77) (v := ?v77) (m' := 302231454903657293676543) ?h77 (by kernel_rfl) (by kernel_rfl) (fun _ _ _ h => h) (Or.inl ⟨?s77, ?y77⟩) (by assumption) ?n77
    case h77 => simp only [List.getElem?_toArray, List.getElem?_cons_succ, List.getElem?_cons_zero]; rfl
    case s77 => rfl
    case y77 => (intro w hSw; (try dsimp only at hSw); go_simp <;> with_reducible rfl)
    try simp only [Act.put, List.setIfInBounds_toArray, List.set_cons_zero, List.set_cons_succ]
    refine hR.take (i := 78) (oi := ?o78) (v := ?v78) (m' := 604462909807314587353087) ?h78 (by kernel_rfl) (by kernel_rfl) (fun _ _ _ h => h) (Or.inl ⟨?s78, ?y78⟩) (by assumption) ?n78
    case h78 => simp only [List.getElem?_toArray, List.getElem?_cons_succ, List.getElem?_cons_zero]; rfl
    case s78 => rfl
    case y78 => (intro w hSw; (try dsimp only at hSw); go_simp <;> with_reducible rfl)
    try simp only [Act.put, List.setIfInBounds_toArray, List.set_cons_zero, List.set_cons_succ]
    refine hR.take (i := 79) (oi := ?o79) (v := ?v79) (m' := 1208925819614629174706175) ?h79 (by kernel_rfl) (by kernel_rfl) (fun _ _ _ h => h) (Or.inl ⟨?s79, ?y79⟩) (by assumption) ?n79
    case h79 => simp only [List.getElem?_toArray, List.getElem?_cons_succ, List.getElem?_cons_zero]; rfl
    case s79 => rfl
    case y79 => (intro w hSw; (try dsimp only at hSw); go_simp <;> with_reducible rfl)
    try simp only [Act.put, List.setIfInBounds_toArray, List.set_cons_zero, List.set_cons_succ]
    refine hR.take (i := 80) (oi := ?o80) (v := ?v80) (m' := 2417851639229258349412351) ?h80 (by kernel_rfl) (by kernel_rfl) (fun _ _ _ h => h) (Or.inl ⟨?s80, ?y80⟩) (by assumption) ?n80
    case h80 => simp only [List.getElem?_toArray, List.getElem?_cons_succ, List.getElem?_cons_zero]; rfl
    case s80 => rfl
    case y80 => (intro w hSw; (try dsimp only at hSw); go_simp <;> with_reducible rfl)
    try simp only [Act.put, List.setIfInBounds_toArray, List.set_cons_zero, List.set_cons_succ]
    refine hR.take (i := 81) (oi := ?o81) (v := ?v81) (m' := 4835703278458516698824703) ?h81 (by kernel_rfl) (by kernel_rfl) (fun _ _ _ h => h) (Or.inl ⟨?s81, ?y81⟩) (by assumption) ?n81
    case h81 => simp only [List.getElem?_toArray, List.getElem?_cons_succ, List.getElem?_cons_zero]; rfl
    case s81 => rfl
    case y81 => (intro w hSw; (try dsimp only at hSw); go_simp <;> with_reducible rfl)
    try simp only [Act.put, List.setIfInBounds_toArray, List.set_cons_zero, List.set_cons_succ]
    refine hR.take (i := 82) (oi := ?o82) (v := ?v82) (m' := 9671406556917033397649407) ?h82 (by kernel_rfl) (by kernel_rfl) (fun _ _ _ h => h) (Or.inl ⟨?s82, ?y82⟩) (by assumption) ?n82
    case h82 => simp only [List.getElem?_toArray, List.getElem?_cons_succ, List.getElem?_cons_zero]; rfl
    case s82 => rfl
    case y82 => (intro w hSw; (try dsimp only at hSw); go_simp <;> with_reducible rfl)
    try simp only [Act.put, List.setIfInBounds_toArray, List.set_cons_zero, List.set_cons_succ]
    refine hR.take (i := 83) (oi := ?o83) (v := ?v83) (m' := 19342813113834066795298815) ?h83 (by kernel_rfl) (by kernel_rfl) (fun _ _ _ h => h) (Or.inl ⟨?s83, ?y83⟩) (by assumption) ?n83
    case h83 => simp only [List.getElem?_toArray, List.getElem?_cons_succ, List.getElem?_cons_zero]; rfl
    case s83 => rfl
    case y83 => (intro w hSw; (try dsimp only at hSw); go_simp <;> with_reducible rfl)
    try simp only [Act.put, List.setIfInBounds_toArray, List.set_cons_zero, List.set_cons_succ]
    refine hR.take (i := 84) (oi := ?o84) (v := ?v84) (m' := 38685626227668133590597631) ?h84 (by kernel_rfl) (by kernel_rfl) (fun _ _ _ h => h) (Or.inl ⟨?s84, ?y84⟩) (by assumption) ?n84
    case h84 => simp only [List.getElem?_toArray, List.getElem?_cons_succ, List.getElem?_cons_zero]; rfl
    case s84 => rfl
    case y84 => (intro w hSw; (try dsimp only at hSw); go_simp <;> with_reducible rfl)
    try simp only [Act.put, List.setIfInBounds_toArray, List.set_cons_zero, List.set_cons_succ]
    refine hR.take (i := 85) (oi := ?o85) (v := ?v85) (m' := 77371252455336267181195263) ?h85 (by kernel_rfl) (by kernel_rfl) (fun _ _ _ h => h) (Or.inl ⟨?s85, ?y85⟩) (by assumption) ?n85
    case h85 => simp only [List.getElem?_toArray, List.getElem?_cons_succ, List.getElem?_cons_zero]; rfl
    case s85 => rfl
    case y85 => (intro w hSw; (try dsimp only at hSw); go_simp <;> with_reducible rfl)
    try simp only [Act.put, List.setIfInBounds_toArray, List.set_cons_zero, List.set_cons_succ]
    refine hR.take (i := 87) (oi := ?o87) (v := ?v87) (m' := 232113757366008801543585791) ?h87 (by kernel_rfl) (by kernel_rfl) (fun _ _ _ h => h) (Or.inl ⟨?s87, ?y87⟩) (by assumption) ?n87
    case h87 => simp only [List.getElem?_toArray, List.getElem?_cons_succ, List.getElem?_cons_zero]; rfl
    case s87 => rfl
    case y87 => (intro w hSw; (try dsimp only at hSw); go_simp <;> with_reducible rfl)
    try simp only [Act.put, List.setIfInBounds_toArray, List.set_cons_zero, List.set_cons_succ]
    refine hR.come (rs := [86]) (by kernel_rfl) (by simp) ?_
    refine AllReadyH.cons (o := ?o86) ?h86 (fun K hK => ?k86) AllReadyH.nil
    case h86 => simp only [List.getElem?_toArray, List.getElem?_cons_succ, List.getElem?_cons_zero]; rfl
    go_simp
    refine hK.out _ _ ?_ (fun hHeld => ?_)
    · (first | with_reducible assumption | (with_reducible refine Below.drew ?_; with_reducible assumption) | (with_reducible refine ba _ _ ?_; with_reducible assumption) | (with_reducible refine Below.drew ?_; with_reducible refine ba _ _ ?_; with_reducible assumption) | (refine bc _ _ (by assumption) (by assumption)))
    clear hK K
    refine RegOk.put_ (m' := 309485009821345068724781055) (by kernel_rfl) ?_
    try simp only [Act.put, List.setIfInBounds_toArray, List.set_cons_zero, List.set_cons_succ]
    refine hR.come (rs := [88]) (by kernel_rfl) (by simp) ?_
    refine AllReadyH.cons (o := ?o88) ?h88 (fun K hK => ?k88) AllReadyH.nil
    case h88 => simp only [List.getElem?_toArray, List.getElem?_cons_succ, List.getElem?_cons_zero]; rfl
    (go_simp; go_at_call 20; refine (sameColsN (l := [[1, 3, 5, 0, 2, 4, 6, 0]]) rfl _ (one15 (s15.out.keep (Below.agree (by assumption)))) (s35.out.keep (Below.agree (by assumption)))).mono ?_; rintro e w4 ⟨rfl, hb4⟩; skip; have hk := bc _ _ (by assumption) hb4; try clear hb4)
    refine hK.out _ _ ?_ (fun hHeld => ?_)
    · (first | with_reducible assumption | (with_reducible refine Below.drew ?_; with_reducible assumption) | (with_reducible refine ba _ _ ?_; with_reducible assumption) | (with_reducible refine Below.drew ?_; with_reducible refine ba _ _ ?_; with_reducible assumption) | (refine bc _ _ (by assumption) (by assumption)))
    clear hK K
    refine RegOk.put_ (m' := 618970019642690137449562111) (by kernel_rfl) ?_
    try simp only [Act.put, List.setIfInBounds_toArray, List.set_cons_zero, List.set_cons_succ]
    refine hR.take (i := 89) (oi := ?o89) (v := ?v89) (m' := 1237940039285380274899124223) ?h89 (by kernel_rfl) (by kernel_rfl) (fun _ _ _ h => h) (Or.inl ⟨?s89, ?y89⟩) (by assumption) ?n89
    case h89 => simp only [List.getElem?_toArray, List.getElem?_cons_succ, List.getElem?_cons_zero]; rfl
    case s89 => rfl
    case y89 => (intro w hSw; (try dsimp only at hSw); go_simp <;> with_reducible rfl)
    try simp only [Act.put, List.setIfInBounds_toArray, List.set_cons_zero, List.set_cons_succ]
    refine hR.take (i := 90) (oi := ?o90) (v := ?v90) (m' := 2475880078570760549798248447) ?h90 (by kernel_rfl) (by kernel_rfl) (fun _ _ _ h => h) (Or.inl ⟨?s90, ?y90⟩) (by assumption) ?n90
    case h90 => simp only [List.getElem?_toArray, List.getElem?_cons_succ, List.getElem?_cons_zero]; rfl
    case s90 => rfl
    case y90 => (intro w hSw; (try dsimp only at hSw); go_simp <;> with_reducible rfl)
    try simp only [Act.put, List.setIfInBounds_toArray, List.set_cons_zero, List.set_cons_succ]
    refine hR.take (i := 91) (oi := ?o91) (v := ?v91) (m' := 4951760157141521099596496895) ?h91 (by kernel_rfl) (by kernel_rfl) (fun _ _ _ h => h) (Or.inl ⟨?s91, ?y91⟩) (by assumption) ?n91
    case h91 => simp only [List.getElem?_toArray, List.getElem?_cons_succ, List.getElem?_cons_zero]; rfl
    case s91 => rfl
    case y91 => (intro w hSw; (try dsimp only at hSw); go_simp <;> with_reducible rfl)
    try simp only [Act.put, List.setIfInBounds_toArray, List.set_cons_zero, List.set_cons_succ]
    refine hR.take (i := 92) (oi := ?o92) (v := ?v92) (m' := 9903520314283042199192993791) ?h92 (by kernel_rfl) (by kernel_rfl) (fun _ _ _ h => h) (Or.inl ⟨?s92, ?y92⟩) (by assumption) ?n92
    case h92 => simp only [List.getElem?_toArray, List.getElem?_cons_succ, List.getElem?_cons_zero]; rfl
    case s92 => rfl
    case y92 => (intro w hSw; (try dsimp only at hSw); go_simp <;> with_reducible rfl)
    try simp only [Act.put, List.setIfInBounds_toArray, List.set_cons_zero, List.set_cons_succ]
    refine hR.take (i := 93) (oi := ?o93) (v := ?v93) (m' := 19807040628566084398385987583) ?h93 (by kernel_rfl) (by kernel_rfl) (fun _ _ _ h => h) (Or.inl ⟨?s93, ?y93⟩) (by assumption) ?n93
    case h93 => simp only [List.getElem?_toArray, List.getElem?_cons_succ, List.getElem?_cons_zero]; rfl
    case s93 => rfl
    case y93 => (intro w hSw; (try dsimp only at hSw); go_simp <;> with_reducible rfl)
    try simp only [Act.put, List.setIfInBounds_toArray, List.set_cons_zero, List.set_cons_succ]
    refine hR.take (i := 94) (oi := ?o94) (v := ?v94) (m' := 39614081257132168796771975167) ?h94 (by kernel_rfl) (by kernel_rfl) (fun _ _ _ h => h) (Or.inl ⟨?s94, ?y94⟩) (by assumption) ?n94
    case h94 => simp only [List.getElem?_toArray, List.getElem?_cons_succ, List.getElem?_cons_zero]; rfl
    case s94 => rfl
    case y94 => (intro w hSw; (try dsimp only at hSw); go_simp <;> with_reducible rfl)
    try simp only [Act.put, List.setIfInBounds_toArray, List.set_cons_zero, List.set_cons_succ]
    refine hR.take (i := 95) (oi := ?o95) (v := ?v95) (m' := 79228162514264337593543950335) ?h95 (by kernel_rfl) (by kernel_rfl) (fun _ _ _ h => h) (Or.inl ⟨?s95, ?y95⟩) (by assumption) ?n95
    case h95 => simp only [List.getElem?_toArray, List.getElem?_cons_succ, List.getElem?_cons_zero]; rfl
    case s95 => rfl
    case y95 => (intro w hSw; (try dsimp only at hSw); go_simp <;> with_reducible rfl)
    try simp only [Act.put, List.setIfInBounds_toArray, List.set_cons_zero, List.set_cons_succ]
    refine hR.take (i := 96) (oi := ?o96) (v := ?v96) (m' := 158456325028528675187087900671) ?h96 (by kernel_rfl) (by kernel_rfl) (fun _ _ _ h => h) (Or.inl ⟨?s96, ?y96⟩) (by assumption) ?n96
    case h96 => simp only [List.getElem?_toArray, List.getElem?_cons_succ, List.getElem?_cons_zero]; rfl
    case s96 => rfl
    case y96 => (intro w hSw; (try dsimp only at hSw); go_simp <;> with_reducible rfl)
    try simp only [Act.put, List.setIfInBounds_toArray, List.set_cons_zero, List.set_cons_succ]
    refine hR.take (i := 97) (oi := ?o97) (v := ?v97) (m' := 316912650057057350374175801343) ?h97 (by kernel_rfl) (by kernel_rfl) (fun _ _ _ h => h) (Or.inl ⟨?s97, ?y97⟩) (by assumption) ?n97
    case h97 => simp only [List.getElem?_toArray, List.getElem?_cons_succ, List.getElem?_cons_zero]; rfl
    case s97 => rfl
    case y97 => (intro w hSw; (try dsimp only at hSw); go_simp <;> with_reducible rfl)
    try simp only [Act.put, List.setIfInBounds_toArray, List.set_cons_zero, List.set_cons_succ]
    refine hR.take (i := 98) (oi := ?o98) (v := ?v98) (m' := 633825300114114700748351602687) ?h98 (by kernel_rfl) (by kernel_rfl) (fun _ _ _ h => h) (Or.inl ⟨?s98, ?y98⟩) (by assumption) ?n98
    case h98 => simp only [List.getElem?_toArray, List.getElem?_cons_succ, List.getElem?_cons_zero]; rfl
    case s98 => rfl
    case y98 => (intro w hSw; (try dsimp only at hSw); go_simp <;> with_reducible rfl)
    try simp only [Act.put, List.setIfInBounds_toArray, List.set_cons_zero, List.set_cons_succ]
    refine hR.take (i := 99) (oi := ?o99) (v := ?v99) (m' := 1267650600228229401496703205375) ?h99 (by kernel_rfl) (by kernel_rfl) (fun _ _ _ h => h) (Or.inl ⟨?s99, ?y99⟩) (by assumption) ?n99
    case h99 => simp only [List.getElem?_toArray, List.getElem?_cons_succ, List.getElem?_cons_zero]; rfl
    case s99 => rfl
    case y99 => (intro w hSw; (try dsimp only at hSw); go_simp <;> with_reducible rfl)
    try simp only [Act.put, List.setIfInBounds_toArray, List.set_cons_zero, List.set_cons_succ]
    refine hR.take (i := 100) (oi := ?o100) (v := ?v100) (m' := 2535301200456458802993406410751) ?h100 (by kernel_rfl) (by kernel_rfl) (fun _ _ _ h => h) (Or.inl ⟨?s100, ?y100⟩) (by assumption) ?n100
    case h100 => simp only [List.getElem?_toArray, List.getElem?_cons_succ, List.getElem?_cons_zero]; rfl
    case s100 => rfl
    case y100 => (intro w hSw; (try dsimp only at hSw); go_simp <;> with_reducible rfl)
    try simp only [Act.put, List.setIfInBounds_toArray, List.set_cons_zero, List.set_cons_succ]
    refine hR.take (i := 101) (oi := ?o101) (v := ?v101) (m' := 5070602400912917605986812821503) ?h101 (by kernel_rfl) (by kernel_rfl) (fun _ _ _ h => h) (Or.inl ⟨?s101, ?y101⟩) (by assumption) ?n101
    case h101 => simp only [List.getElem?_toArray, List.getElem?_cons_succ, List.getElem?_cons_zero]; rfl
    case s101 => rfl
    case y101 => (intro w hSw; (try dsimp only at hSw); go_simp <;> with_reducible rfl)
    try simp only [Act.put, List.setIfInBounds_toArray, List.set_cons_zero, List.set_cons_succ]
    refine hR.take (i := 102) (oi := ?o102) (v := ?v102) (m' := 10141204801825835211973625643007) ?h102 (by kernel_rfl) (by kernel_rfl) (fun _ _ _ h => h) (Or.inl ⟨?s102, ?y102⟩) (by assumption) ?n102
    case h102 => simp only [List.getElem?_toArray, List.getElem?_cons_succ, List.getElem?_cons_zero]; rfl
    case s102 => rfl
    case y102 => (intro w hSw; (try dsimp only at hSw); go_simp <;> with_reducible rfl)
    try simp only [Act.put, List.setIfInBounds_toArray, List.set_cons_zero, List.set_cons_succ]
    refine hR.take (i := 103) (oi := ?o103) (v := ?v103) (m' := 20282409603651670423947251286015) ?h103 (by kernel_rfl) (by kernel_rfl) (fun _ _ _ h => h) (Or.inl ⟨?s103, ?y103⟩) (by assumption) ?n103
    case h103 => simp only [List.getElem?_toArray, List.getElem?_cons_succ, List.getElem?_cons_zero]; rfl
    case s103 => rfl
    case y103 => (intro w hSw; (try dsimp only at hSw); go_simp <;> with_reducible rfl)
    try simp only [Act.put, List.setIfInBounds_toArray, List.set_cons_zero, List.set_cons_succ]
    refine hR.come (rs := [104]) (by kernel_rfl) (by simp) ?_
    refine AllReadyH.cons (o := ?o104) ?h104 (fun K hK => ?k104) AllReadyH.nil
    case h104 => simp only [List.getElem?_toArray, List.getElem?_cons_succ, List.getElem?_cons_zero]; rfl
    (go_simp; go_at_call 21; refine (validP_any rB _).mono ?_; rintro e w4 ⟨rfl, hb4⟩; skip; have hk := bc _ _ (by assumption) hb4; try clear hb4)
    refine hK.out _ _ ?_ (fun hHeld => ?_)
    · (first | with_reducible assumption | (with_reducible refine Below.drew ?_; with_reducible assumption) | (with_reducible refine ba _ _ ?_; with_reducible assumption) | (with_reducible refine Below.drew ?_; with_reducible refine ba _ _ ?_; with_reducible assumption) | (refine bc _ _ (by assumption) (by assumption)))
    clear hK K
    refine RegOk.put_ (m' := 40564819207303340847894502572031) (by kernel_rfl) ?_
    try simp only [Act.put, List.setIfInBounds_toArray, List.set_cons_zero, List.set_cons_succ]
    refine hR.take (i := 105) (oi := ?o105) (v := ?v105) (m' := 81129638414606681695789005144063) ?h105 (by kernel_rfl) (by kernel_rfl) (fun _ _ _ h => h) (Or.inl ⟨?s105, ?y105⟩) (by assumption) ?n105
    case h105 => simp only [List.getElem?_toArray, List.getElem?_cons_succ, List.getElem?_cons_zero]; rfl
    case s105 => rfl
    case y105 => (intro w hSw; (try dsimp only at hSw); go_simp <;> with_reducible rfl)
    try simp only [Act.put, List.setIfInBounds_toArray, List.set_cons_zero, List.set_cons_succ]
    refine hR.take (i := 106) (oi := ?o106) (v := ?v106) (m' := 162259276829213363391578010288127) ?h106 (by kernel_rfl) (by kernel_rfl) (fun _ _ _ h => h) (Or.inl ⟨?s106, ?y106⟩) (by assumption) ?n106
    case h106 => simp only [List.getElem?_toArray, List.getElem?_cons_succ, List.getElem?_cons_zero]; rfl
    case s106 => rfl
    case y106 => (intro w hSw; (try dsimp only at hSw); go_simp <;> with_reducible rfl)
    try simp only [Act.put, List.setIfInBounds_toArray, List.set_cons_zero, List.set_cons_succ]
    refine hR.take (i := 107) (oi := ?o107) (v := ?v107) (m' := 324518553658426726783156020576255) ?h107 (by kernel_rfl) (by kernel_rfl) (fun _ _ _ h => h) (Or.inl ⟨?s107, ?y107⟩) (by assumption) ?n107
    case h107 => simp only [List.getElem?_toArray, List.getElem?_cons_succ, List.getElem?_cons_zero]; rfl
    case s107 => rfl
    case y107 => (intro w hSw; (try dsimp only at hSw); go_simp <;> with_reducible rfl)
    try simp only [Act.put, List.setIfInBounds_toArray, List.set_cons_zero, List.set_cons_succ]
    refine hR.come (rs := [108]) (by kernel_rfl) (by simp) ?_
    refine AllReadyH.cons (o := ?o108) ?h108 (fun K hK => ?k108) AllReadyH.nil
    case h108 => simp only [List.getElem?_toArray, List.getElem?_cons_succ, List.getElem?_cons_zero]; rfl
    (go_simp; go_at_call 21; refine (validP_any ⟨0, 0, 0, 256⟩ _).mono ?_; rintro e w4 ⟨rfl, hb4⟩; skip; have hk := bc _ _ (by assumption) hb4; try clear hb4)
    refine hK.out _ _ ?_ (fun hHeld => ?_)
    · (first | with_reducible assumption | (with_reducible refine Below.drew ?_; with_reducible assumption) | (with_reducible refine ba _ _ ?_; with_reducible assumption) | (with_reducible refine Below.drew ?_; with_reducible refine ba _ _ ?_; with_reducible assumption) | (refine bc _ _ (by assumption) (by assumption)))
    clear hK K
    refine RegOk.put_ (m' := 649037107316853453566312041152511) (by kernel_rfl) ?_
    try simp only [Act.put, List.setIfInBounds_toArray, List.set_cons_zero, List.set_cons_succ]
    refine hR.take (i := 109) (oi := ?o109) (v := ?v109) (m' := 1298074214633706907132624082305023) ?h109 (by kernel_rfl) (by kernel_rfl) (fun _ _ _ h => h) (Or.inl ⟨?s109, ?y109⟩) (by assumption) ?n109
    case h109 => simp only [List.getElem?_toArray, List.getElem?_cons_succ, List.getElem?_cons_zero]; rfl
    case s109 => rfl
    case y109 => (intro w hSw; (try dsimp only at hSw); go_simp <;> with_reducible rfl)
    try simp only [Act.put, List.setIfInBounds_toArray, List.set_cons_zero, List.set_cons_succ]
    refine hR.take (i := 110) (oi := ?o110) (v := ?v110) (m' := 2596148429267413814265248164610047) ?h110 (by kernel_rfl) (by kernel_rfl) (fun _ _ _ h => h) (Or.inl ⟨?s110, ?y110⟩) (by assumption) ?n110
    case h110 => simp only [List.getElem?_toArray, List.getElem?_cons_succ, List.getElem?_cons_zero]; rfl
    case s110 => rfl
    case y110 => (intro w hSw; (try dsimp only at hSw); go_simp <;> with_reducible rfl)
    try simp only [Act.put, List.setIfInBounds_toArray, List.set_cons_zero, List.set_cons_succ]
    refine hR.take (i := 111) (oi := ?o111) (v := ?v111) (m' := 5192296858534827628530496329220095) ?h111 (by kernel_rfl) (by kernel_rfl) (fun _ _ _ h => h) (Or.inl ⟨?s111, ?y111⟩) (by assumption) ?n111
    case h111 => simp only [List.getElem?_toArray, List.getElem?_cons_succ, List.getElem?_cons_zero]; rfl
    case s111 => rfl
    case y111 => (intro w hSw; (try dsimp only at hSw); go_simp <;> with_reducible rfl)
    try simp only [Act.put, List.setIfInBounds_toArray, List.set_cons_zero]
    refine hR.all (by kernel_rfl) ?_ _
    refine NoPanic.normal ?_
    all_goals go_wp2_with fail
    all_goals go_ret
    all_goals exact ⟨rfl, b19.out.trans (Below.mono (by assumption : Below w18.heap.size w18 _) b19.out.size)⟩
end Go.Proofs.Ytpdblgchfkcgpaa
