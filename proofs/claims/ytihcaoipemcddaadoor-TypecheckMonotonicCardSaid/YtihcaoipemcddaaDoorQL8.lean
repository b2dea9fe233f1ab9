/-
  The law 'TypecheckMonotonic', walked: it returns true for every input, and nothing that existed changes. Condition: the package's map lies as its text lays it.
-/
import Derived.Test.YtihcaoipemcddaaDoorQL3
import Derived.Test.YtihcaoipemcddaaDoorQP4
import Derived.Test.YtihcaoipemcddaaDoorRaw
import Derived.Test.YtihcaoipemcddaaDoorGk
namespace Go.Proofs.YtihcaoipemcddaaDoor
open Go.RowKit

theorem Sl.toRaw {α : Type} {E : Enc α} {S : Nat → Prop} {w : World} {A : Option Addr} {c : Nat} {xs : List (List α)} (h : Sl E.slice S w A c xs) :
    ∃ vs : List Value, vs.length = xs.length ∧ Sl Enc.raw S w A c vs ∧ ∀ (i : Nat) x, xs[i]? = some x → ∃ A c, vs[i]? = some (.slice A x.length c) ∧ Sl E S w A c x := by
  obtain ⟨h1, h2, cs, hr, he⟩ := h
  obtain ⟨g1, g2, g3⟩ := he.toRaw (T := S)
  exact ⟨cs, g2, ⟨by rw [g2]; exact h1, h2, cs, hr, g1⟩, g3⟩
theorem rawT : SlT Tryd.prog 22 44 Enc.raw 24 := cfsT.raw rfl
theorem set4g {W : World} {g : Nat} {t : TypeId} {a b c d u v x y : Value} (h : W.heap[g]? = some (.cells #[a, b, c, d] t (0, 0))) :
    ((((W.setCell ⟨g, 0, none⟩ u).setCell ⟨g, 1, none⟩ v).setCell ⟨g, 2, none⟩ x).setCell ⟨g, 3, none⟩ y).heap[g]? = some (.cells #[u, v, x, y] t (0, 0)) :=
  heap_set (i := 3) (heap_set (i := 2) (heap_set (i := 1) (heap_set (i := 0) h)))
theorem raw_set0g {S : Nat → Prop} {w : World} {vs : List Value} {u : Value} (hu : u.oneCell' = true) (h : Elems Enc.raw S w vs vs) : Elems Enc.raw S w (vs.set 0 u) (vs.set 0 u) := by
  cases vs with
  | nil => exact h
  | cons v vs =>
    obtain ⟨c, d, e, ⟨hc, _⟩, hd⟩ := h
    subst hc
    have e2 : vs = d := by injection e
    exact ⟨[u], vs, rfl, ⟨rfl, hu⟩, by rw [e2] at hd ⊢; exact hd⟩
/-- The row of filters, its first filter written anew. -/
theorem own_set0 {w w' : World} {base n c k m c1 : Nat} {e : TypeId} {A1 : Option Addr} {S : Nat → Prop} {vs : List Value} {x : Qy} {l : List Cd} (h : Own Enc.raw (fun _ => False) w base e (.slice (some ⟨k, 0, none⟩) n c) vs) (hl : vs.length = x.fs.length) (hm : l.length = m)
    (hx : ∀ (i : Nat) y, x.fs[i]? = some y → ∃ A c, vs[i]? = some (.slice A y.length c) ∧ Sl cdE S (w.setCell ⟨k, 0, none⟩ (.slice A1 m c1)) A c y) (h1 : Sl cdE S (w.setCell ⟨k, 0, none⟩ (.slice A1 m c1)) A1 c1 l) (hw : w' = w.setCell ⟨k, 0, none⟩ (.slice A1 m c1)) :
    Own cdE.slice S w' base e (.slice (some ⟨k, 0, none⟩) n c) (setQ x l).fs := by
  subst hw; subst hm
  have hraw := (h.stored (j := 0) (u := .slice A1 l.length c1) (ys := vs.set 0 (.slice A1 l.length c1)) (fun h => h) (by simp) (fun cs hel => by obtain rfl := raw_cells hel; exact raw_set0g rfl hel) rfl)
  refine hraw.ofRaw (by simp [setQ, hl]) fun i y hy => ?_
  have hy' : (x.fs.set 0 l)[i]? = some y := hy
  cases i with
  | zero =>
    have h0 : 0 < x.fs.length := by
      have := (List.getElem?_eq_some_iff.1 hy').1
      simpa using this
    rw [List.getElem?_set_self h0] at hy'
    injection hy' with hy'
    subst hy'
    exact ⟨A1, c1, by rw [List.getElem?_set_self (by rw [hl]; exact h0)], h1⟩
  | succ i =>
    rw [List.getElem?_set_ne (by omega)] at hy'
    obtain ⟨A, c, h2, h3⟩ := hx (i + 1) y hy'
    exact ⟨A, c, by rw [List.getElem?_set_ne (by omega)]; exact h2, h3⟩
/-- A box of bounds, its numbers between N and the box. -/
def BxN (w : World) (g N : Nat) (xs : List Int) : Prop := ∃ B d, w.heap[g]? = some (.cells #[.slice B xs.length d] 29 (0, 0)) ∧ Sl .i64 (fun b => N ≤ b ∧ b < g) w B d xs
theorem BxN.bx {w : World} {g N : Nat} {xs : List Int} (h : BxN w g N xs) : Bx w g xs := by
  obtain ⟨B, d, h1, h2⟩ := h
  exact ⟨B, d, h1, h2.sub fun _ _ _ => trivial⟩
theorem BxN.keep {w w' : World} {g N : Nat} {xs : List Int} (h : BxN w g N xs) (hb : Below w.heap.size w w') : BxN w' g N xs := by
  obtain ⟨B, d, h1, h2⟩ := h
  exact ⟨B, d, (hb.block g (heap_lt h1)).trans h1, h2.keep (Below.agree hb)⟩
theorem BxN.gk {w w' : World} {g N j : Nat} {xs : List Int} (h : BxN w g N xs) (hg : Gk j w w') (hj : g ≠ j) (hn : j < N ∨ g < j) : BxN w' g N xs := by
  obtain ⟨B, d, h1, h2⟩ := h
  exact ⟨B, d, hg.row h1 hj, hg.slKeep h2 (by rintro ⟨a, b⟩; omega)⟩
theorem mvBN {w w' : World} {g N : Nat} {xs : List Int} (h : Hid (BxN w g N xs)) (hb : Below w.heap.size w w') : Hid (BxN w' g N xs) := Lib.hid (h.out.keep hb)
theorem Sl.belowN {α : Type} {E : Enc α} {S : Nat → Prop} {w w' : World} {A : Option Addr} {c N : Nat} {xs : List α} (h : Sl E S w A c xs) (hb : Below N w w') (hS : ∀ b, S b → b < N) : Sl E S w' A c xs :=
  h.keep ((Agree.refl S w).below hb (fun b hb _ => hS b hb))
theorem BxN.belowN {w w' : World} {g N M : Nat} {xs : List Int} (h : BxN w g N xs) (hb : Below M w w') (hM : g < M) : BxN w' g N xs := by
  obtain ⟨B, d, h1, h2⟩ := h
  exact ⟨B, d, (hb.block g hM).trans h1, h2.belowN hb fun b hb => by omega⟩
/-- What the branch leaves: the two queries in their boxes, the bounds. -/
structure MoSt (w2 : World) (g gy g4 g5 : Nat) (x X Y : Qy) (m : Int) (P5 : List Int) (wx : World) : Prop where
  r : MonoR x X Y m
  bx : ∃ B d, wx.heap[g]? = some (.cells #[.int .i64 X.kind, .int .i64 X.col, .int .i64 X.k, .slice B X.fs.length d] 24 (0, 0)) ∧ Sl cdE.slice (fun _ => True) wx B d X.fs
  by_ : ∃ B d, wx.heap[gy]? = some (.cells #[.int .i64 Y.kind, .int .i64 Y.col, .int .i64 Y.k, .slice B Y.fs.length d] 24 (0, 0)) ∧ Sl cdE.slice (fun _ => True) wx B d Y.fs
  b4 : Bx wx g4 (checkTF X m).1
  b5 : Bx wx g5 P5
  bel : Below w2.heap.size w2 wx
def qL8A : List FRow := [(0, ([], (81, [15]))), (1, ([0], (82, [80]))), (2, ([], (83, [8]))), (3, ([2], (84, [82]))), (4, ([3], (85, [83]))), (5, ([4], (86, [84]))), (6, ([5], (87, [85]))), (7, ([1, 0, 1, 2, 3, 4, 5, 6], (88, [81]))), (8, ([7, 6, 0, 1, 2, 3, 4, 5, 6], (0, [87, 86])))]
def qL8B : List FRow := [(0, ([], (104, [15]))), (1, ([0], (105, [103]))), (2, ([], (106, [17]))), (3, ([], (107, [5]))), (4, ([3], (108, [106]))), (5, ([4], (109, [107]))), (6, ([2, 5, 4], (110, [105, 108]))), (7, ([1, 0, 1, 2, 3, 4, 5, 6], (111, [104]))), (8, ([7, 6, 6, 0, 1, 2, 3, 4, 5, 6], (0, [110, 109])))]
def qL8C : List FRow := [(0, ([], (148, [18]))), (1, ([0], (149, [147]))), (2, ([], (150, [20]))), (3, ([1, 2], (151, [148, 149]))), (4, ([3], (152, [150]))), (5, ([], (153, [11]))), (6, ([5], (154, [152]))), (7, ([], (155, [20]))), (8, ([6, 7], (156, [153, 154]))), (9, ([8], (157, [155]))), (10, ([4, 9], (158, [151, 156]))), (11, ([10], (159, [157]))), (12, ([11], (160, [18, 158]))), (13, ([12, 11], (161, [159, 158]))), (14, ([11], (162, [20, 158]))), (15, ([13, 14, 11], (163, [160, 161, 158]))), (16, ([15, 11], (164, [162, 158]))), (17, ([16, 11], (165, [163, 158]))), (18, ([11, 17], (166, [158, 164])))]
def qL8D : List FRow := [(0, ([], (167, [14]))), (1, ([0], (168, [166]))), (2, ([1], (169, [167]))), (3, ([2], (170, [13, 168]))), (4, ([3, 2], (171, [169, 168]))), (5, ([4, 2], (172, [170, 168]))), (6, ([2], (173, [11, 168]))), (7, ([6, 2], (174, [172, 168]))), (8, ([7, 2], (175, [173, 168]))), (9, ([5, 8, 2], (176, [171, 174, 168]))), (10, ([9, 2, 2], (177, [175, 168]))), (11, ([10], (178, [8, 176]))), (12, ([11, 10], (179, [177, 176]))), (13, ([12, 10], (180, [178, 176]))), (14, ([13, 10], (181, [179, 176]))), (15, ([14, 10], (182, [180, 176]))), (16, ([15, 10], (183, [181, 176]))), (17, ([16, 10, 10], (184, [182, 176]))), (18, ([17], (185, [13, 183]))), (19, ([18, 17], (186, [184, 183]))), (20, ([17], (187, [20, 183]))), (21, ([19, 20, 17], (188, [185, 186, 183]))), (22, ([21, 17], (189, [187, 183]))), (23, ([17], (190, [11, 183]))), (24, ([23, 17], (191, [189, 183]))), (25, ([17], (192, [20, 183]))), (26, ([24, 25, 17], (193, [190, 191, 183]))), (27, ([26, 17], (194, [192, 183]))), (28, ([22, 27, 17], (195, [188, 193, 183]))), (29, ([17, 28, 10], (196, [183, 194, 176]))), (30, ([10, 29, 2], (197, [176, 195, 168]))), (31, ([2, 30], (198, [168, 196])))]
set_option maxRecDepth 100000 in
set_option maxHeartbeats 8000000 in
theorem walk_TypecheckMonotonic {q : Qy} {cd : Cd} {A : Option Addr} {c : Nat} {n0 n1 : Int} (w : World) (hw : WidOk w) (h : Sl cdE.slice (fun _ => True) w A c q.fs) (_hc : -9223372036854775808 ≤ q.col ∧ q.col ≤ 9223372036854775807) (hn : (0 ≤ n0 ∧ n0 ≤ 65535) ∧ 0 ≤ n1 ∧ n1 ≤ 65535) :
    Calls Tryd.prog 6 #[(.agg #[.int .i64 q.kind, .int .i64 q.col, .int .i64 q.k, .slice A q.fs.length c]), .agg #[.int .u16 n0, .int .u16 n1], .agg #[.int .i64 cd.col, .int .i64 cd.lo, .int .i64 cd.hi]] w fun e w' => e = .returned (.bool true) ∧ Below w.heap.size w w' := by
  have HW := Lib.hid hw
  have H := Lib.hid h
  have hm := h.max
  obtain ⟨n0, rfl⟩ : ∃ m : Nat, n0 = m := ⟨n0.toNat, by omega⟩
  obtain ⟨n1, rfl⟩ : ∃ m : Nat, n1 = m := ⟨n1.toNat, by omega⟩
  obtain ⟨m, hr0, hm0⟩ : ∃ r : Nat, (n0 : Int).tmod 1000 = (r : Int) ∧ r < 1000 := tmod_bd n0 1000 (by omega)
  obtain ⟨r1, hr1, hm1⟩ : ∃ r : Nat, (n1 : Int).tmod 1000 = (r : Int) ∧ r < 1000 := tmod_bd n1 1000 (by omega)
  obtain ⟨n, hnn⟩ : ∃ n : Nat, m + r1 = n := ⟨_, rfl⟩
  have hnn' : (m : Int) + (r1 : Int) = (n : Int) := by omega
  have hw0 : IntKind.u16.wrap (m : Int) = (m : Int) := IntWalk.u16_in _ (by omega)
  have hw1 : IntKind.u16.wrap (r1 : Int) = (r1 : Int) := IntWalk.u16_in _ (by omega)
  clear hw h hn hnn
  go_enter Tryd.func6, Tryd.ntmps6
  go_upto_region 1 with fail
  refine wp_world (F := fun wx => Below w.heap.size w wx ∧ Hid (wx.heap[w.heap.size]? = some (.cells #[.int .i64 q.kind, .int .i64 q.col, .int .i64 q.k, .slice A q.fs.length c] 24 (0, 0))) ∧ Hid (wx.heap[w.heap.size + 1]? = some (.cells #[.int .u16 n0, .int .u16 n1] 47 (0, 0))) ∧ Hid (wx.heap[w.heap.size + 1 + 1]? = some (.cells #[.int .i64 cd.col, .int .i64 cd.lo, .int .i64 cd.hi] 49 (0, 0)))) ⟨(by repeat' (first | with_reducible exact Below.refl _ _ | with_reducible assumption | with_reducible refine Below.setCell ?_ ?_ _ | with_reducible refine Below.drew ?_ | with_reducible refine below_drewN ?_ _ | with_reducible refine Below.alloc ?_ ?_ _ | (rintro _ ⟨⟩; simp <;> omega) | omega | (simp <;> omega))), Lib.hid ((Below.heap_alloc _ _ _ (by simp; omega)).trans ((Below.heap_alloc _ _ _ (by simp)).trans (heap_alloc_at rfl))), Lib.hid ((Below.heap_alloc _ _ _ (by simp)).trans (heap_alloc_at (by simp))), Lib.hid (heap_alloc_at (by simp))⟩ ?_
  rintro w1 ⟨bb, gq, gn, gc⟩
  have b1 := Lib.hid bb
  have W1 := mvW HW bb
  clear bb HW
  go_upto_region 2 with (go_at_call 10; refine (sanityL14 _ W1.out).mono ?_; rintro e w2 ⟨rfl, hb2⟩; have b2 := Lib.hid (b1.out.trans (hb2.mono b1.out.size)); have gq2 := mvQ gq hb2; have gn2 := mvQ gn hb2; have gc2 := mvQ gc hb2; have W2 := mvW W1 hb2; clear hb2)
  obtain ⟨x0, x1, x2, x3⟩ := row4 gq2
  have H2 := Lib.hid (H.out.keep (Below.agree b2.out))
  clear gq gn gc W1 b1 H
  go_cut [8] (fun p wx => ∃ (g : Nat) (x : Qy) (B : Option Addr) (d : Nat), p = .pointer (some ⟨g, 0, none⟩) ∧ ValidQ x ∧ NotWide x ∧ Hid (wx.heap[g]? = some (.cells #[.int .i64 x.kind, .int .i64 x.col, .int .i64 x.k, .slice B x.fs.length d] 24 (0, 0))) ∧ Sl cdE.slice (fun b => b < g) wx B d x.fs ∧ w2.heap.size ≤ g ∧ Below w2.heap.size w2 wx)
  case first =>
    go_wp2_with (go_at_call 19; refine (made14P (q := q) _ H2.out).mono ?_; rintro e wC ⟨x, hv, hnw, B, d, rfl, hs, hbC⟩; have HC := Lib.hid hs; have bC := Lib.hid hbC; have HV := Lib.hid hv; have HN := Lib.hid hnw; clear hs hbC hv hnw)
    go_meet
    case rel => exact ⟨_, x, B, d, rfl, HV.out, HN.out, Lib.hid (heap_alloc_at rfl), (HC.out.old.sub (fun _ h _ => h.2)).keep ((Agree.refl _ _).alloc _), bC.out.size, bC.out.alloc bC.out.size _⟩
  obtain ⟨g, x, B, d, rfl, hv, hnw, gx, hs, hgs, hb⟩ := hcut
  obtain ⟨w3, hwv⟩ : ∃ x, x = wc := ⟨_, rfl⟩
  subst hwv
  have HV := Lib.hid hv
  have HNW := Lib.hid hnw
  have W3 := mvW W2 hb
  have b3 := Lib.hid hb
  have F3 := Lib.hid hs
  have HB2 := Lib.hid (W2.out.toB (Nat.le_refl w2.heap.size))
  have gc3 := mvQ gc2 hb
  have lgx3 := heap_lt gx.out
  have gn3 := mvQ gn2 hb
  have lc2 := heap_lt gc2.out
  clear hv hnw hs hb x0 x1 x2 x3 gq2 gn2 gc2 H2
  have v0 := cell_of_row w3 (w.heap.size + 1) 0 _ _ _ gn3.out
  have v1 := cell_of_row w3 (w.heap.size + 1) 1 _ _ _ gn3.out
  simp only [List.getElem?_toArray, List.getElem?_cons_zero, List.getElem?_cons_succ] at v0 v1
  go_upto_region 5 with fail
  clear v0 v1 gn3 hr0 hr1 hw0 hw1
  obtain ⟨L, hL⟩ : ∃ L : Nat, (L : Int) = sumsC x.kind := ⟨(sumsC x.kind).toNat, by have := sums_le HV.out.head.1.1 HV.out.head.1.2; omega⟩
  have hL32 : L ≤ 32 := by have := sums_le HV.out.head.1.1 HV.out.head.1.2; omega
  have HLS := Lib.hid hL
  clear hL
  obtain ⟨P4, hP4⟩ : ∃ P, checkTF x m = P := ⟨_, rfl⟩
  have HP4 := Lib.hid hP4
  clear hP4
  obtain ⟨y0, y1, y2, y3⟩ := row4 gx
  go_upto_region 5 with fail
  go_cut [11, 12] (fun p e wx => ∃ g, p = .pointer (some ⟨g, 0, none⟩) ∧ e = .int .i64 P4.2 ∧ w3.heap.size ≤ g ∧ BxN wx g w3.heap.size P4.1 ∧ Below w3.heap.size w3 wx)
  case first =>
    go_wp2_with (go_at_call 11; refine (checkP (q := x) m _ W3.out F3.out HP4.out).mono ?_; rintro e wC ⟨B, d, rfl, hs, hbC⟩; have HC := Lib.hid hs; have bC := Lib.hid hbC; clear hs hbC)
    go_meet
    case rel => exact ⟨_, rfl, rfl, bC.out.size, ⟨B, d, heap_alloc_at rfl, HC.out.old.keep ((Agree.refl _ _).alloc _)⟩, bC.out.alloc bC.out.size _⟩
  obtain ⟨g4, rfl, rfl, hgg4, hbx, hb⟩ := hcut
  obtain ⟨w4, hwv⟩ : ∃ x, x = wc := ⟨_, rfl⟩
  subst hwv
  have W4 := mvW W3 hb
  have b4 := Lib.hid (b3.out.trans (hb.mono b3.out.size))
  have F4 := Lib.hid (F3.out.keep (Below.agree hb))
  (try replace X4 := mvBN X4 hb)
  replace gx := mvQ gx hb
  replace gc3 := mvQ gc3 hb
  have X4 := Lib.hid hbx
  have b4' := Lib.hid (heap_lt hbx.choose_spec.choose_spec.1)
  clear hbx hb W3 b3 F3 y0 y1 y2 y3
  obtain ⟨P5, hP5⟩ : ∃ P, checkTF x n = P := ⟨_, rfl⟩
  have HP5 := Lib.hid hP5
  clear hP5
  obtain ⟨y0, y1, y2, y3⟩ := row4 gx
  go_upto_region 6 with fail
  go_cut [13, 14] (fun p e wx => ∃ g, p = .pointer (some ⟨g, 0, none⟩) ∧ e = .int .i64 P5.2 ∧ w4.heap.size ≤ g ∧ BxN wx g w4.heap.size P5.1 ∧ Below w4.heap.size w4 wx)
  case first =>
    go_wp2_with (go_at_call 11; refine (checkP (q := x) n _ W4.out F4.out HP5.out).mono ?_; rintro e wC ⟨B, d, rfl, hs, hbC⟩; have HC := Lib.hid hs; have bC := Lib.hid hbC; clear hs hbC)
    go_meet
    case rel => exact ⟨_, rfl, rfl, bC.out.size, ⟨B, d, heap_alloc_at rfl, HC.out.old.keep ((Agree.refl _ _).alloc _)⟩, bC.out.alloc bC.out.size _⟩
  obtain ⟨g5, rfl, rfl, hgg5, hbx, hb⟩ := hcut
  obtain ⟨w5, hwv⟩ : ∃ x, x = wc := ⟨_, rfl⟩
  subst hwv
  have W5 := mvW W4 hb
  have b5 := Lib.hid (b4.out.trans (hb.mono b4.out.size))
  have F5 := Lib.hid (F4.out.keep (Below.agree hb))
  (try replace X4 := mvBN X4 hb)
  replace gx := mvQ gx hb
  replace gc3 := mvQ gc3 hb
  have X5 := Lib.hid hbx
  have b5' := Lib.hid (heap_lt hbx.choose_spec.choose_spec.1)
  clear hbx hb W4 b4 F4 y0 y1 y2 y3
  obtain ⟨okm, h5⟩ : ∃ b, (boundF x m).2 = b := ⟨_, rfl⟩
  obtain ⟨okn, h6⟩ : ∃ b, (boundF x n).2 = b := ⟨_, rfl⟩
  have HE := Lib.hid (show okm = true ∧ okn = true ∨ okm = true ∧ okn = false ∨ okm = false ∧ okn = false by
    cases hm' : okm with
    | true => cases hn' : okn <;> simp
    | false =>
      cases hn' : okn with
      | false => simp
      | true => exfalso; have h7 := mono_ok (n := (m : Int)) (m := (n : Int)) HV.out (by omega) (by omega) (by omega) (by rw [h6, hn']); rw [h5, hm'] at h7; cases h7)
  have E4 := Lib.hid (show P4 = if okm then ((boundF x m).1, 0) else ([], 141) by rw [← HP4.out, check_val HV.out HNW.out (n := m) (by omega) (by omega), h5])
  have E5 := Lib.hid (show P5 = if okn then ((boundF x n).1, 0) else ([], 141) by rw [← HP5.out, check_val HV.out HNW.out (n := n) (by omega) (by omega), h6])
  have O4 := Lib.hid h5
  have O5 := Lib.hid h6
  have hgb : w2.heap.size ≤ g ∧ g < g4 ∧ g4 < g5 ∧ g5 < w5.heap.size := by have h1 := heap_lt (X4.out.choose_spec.choose_spec.1); have h2 := heap_lt (X5.out.choose_spec.choose_spec.1); have h3 := b4'.out; omega
  have HGB := Lib.hid hgb
  clear h5 h6 hgb
  (first | go_values | go_skip | go_guarded | go_step | go_upon | go_back)
  (first | go_values | go_skip | go_guarded | go_step | go_upon | go_back)
  go_cut [12, 14] (fun s12 s14 wx => s12 = .int .i64 P4.2 ∧ s14 = .int .i64 P5.2 ∧ Below w5.heap.size w5 wx)
  case first =>
    rcases HE.out with ⟨e1, e2⟩ | ⟨e1, e2⟩ | ⟨e1, e2⟩
    all_goals
      rw [E4.out, E5.out, e1, e2]
      simp only [if_true, if_false, Bool.false_eq_true]
      go_wp2_with fail
      go_meet
      exact ⟨by rw [E4.out, e1]; rfl, by rw [E5.out, e2]; rfl, (by repeat' (first | with_reducible exact Below.refl _ _ | with_reducible assumption | with_reducible refine Below.setCell ?_ ?_ _ | with_reducible refine Below.drew ?_ | with_reducible refine below_drewN ?_ _ | with_reducible refine Below.alloc ?_ ?_ _ | (rintro _ ⟨⟩; simp <;> omega) | omega | (simp <;> omega)))⟩
  obtain ⟨rfl, rfl, hb⟩ := hcut
  obtain ⟨w6, hwv⟩ : ∃ x, x = wc := ⟨_, rfl⟩
  subst hwv
  have gx6 := mvQ gx hb
  have gc6 := mvQ gc3 hb
  have X46 := mvBN X4 hb
  have X56 := mvBN X5 hb
  have b6 := Lib.hid (b5.out.trans (hb.mono b5.out.size))
  have F6 := Lib.hid (F5.out.keep (Below.agree hb))
  have HG6 := Lib.hid (show w2.heap.size ≤ g ∧ g < g4 ∧ g4 < g5 ∧ g5 < w6.heap.size by have := HGB.out; have := hb.size; omega)
  obtain ⟨vs, hvl, hrs, hvf⟩ := F6.out.toRaw
  have HVL := Lib.hid hvl
  have HRS := Lib.hid hrs
  have HVF := Lib.hid hvf
  have hfl := HV.out.head.2.2.2.2.2.2
  have hfs0 : 0 < x.fs.length := fs_pos HV.out
  have hfs2 : x.fs.length ≤ 2 := by rw [hfl]; unfold nFilF; split <;> omega
  clear hvl hrs hvf hb gx gc3 X4 X5 b5 F5 W5 HGB hfl
  obtain ⟨x0, x1, x2, x3⟩ := row4 gx6
  have lgx := heap_lt gx6.out
  have lgx1 : g < w6.heap.size + 1 := by omega
  have lgx2 : g < w6.heap.size + 1 + 1 := by omega
  go_upto_region 10 with fail
  go_cut [15] (fun p wx => ∃ k cy, p = .pointer (some ⟨w6.heap.size, 0, none⟩) ∧ Hid (wx.heap[w6.heap.size]? = some (.cells #[.int .i64 x.kind, .int .i64 x.col, .int .i64 x.k, .slice (some ⟨k, 0, none⟩) x.fs.length cy] 24 (0, 0))) ∧ Own Enc.raw (fun _ => False) wx (w6.heap.size + 1) 44 (.slice (some ⟨k, 0, none⟩) x.fs.length cy) vs ∧ w6.heap.size < k ∧ Below w6.heap.size w6 wx)
  case first =>
    go_wp2_with (at_builtin; go_must ((refine wpList_append_E (E := Enc.raw) (S := fun b => b < w6.heap.size) rfl (.tmp 69) (.tmp 71) rfl rawT (base := w6.heap.size + 1) (v := .slice (some ⟨w6.heap.size + 1, 0, none⟩) 0 0) (xs := []) (ys := vs) (by rfl) (by rfl) HVL.out (nz := x.fs.length) (by simp [HVL.out]) (Own.litAt _ _ _ _ (by simp) (by omega)) (((HRS.out.sub (T := fun b => b < w6.heap.size) (fun b _ h => h)).alloc_ _).alloc_ _) (by unfold maxLen; simp [HVL.out]; omega) (by simp [HVL.out]; omega) (by simp) (fun g' hg' (hlt : g' < w6.heap.size) => by have h1 : some (w6.heap.size + 1) = some g' := hg'; injection h1 with h1; omega) ?_); intro A7 c7 w7 hown7 hg7 hor7; obtain ⟨k7, rfl, hk7, hkl7, -⟩ := hown7.block (show 0 < x.fs.length from hfs0); have ho7 := Lib.hid (hown7.flat raw_flat (T := fun _ => False)); have gy7 := Lib.hid ((hg7.block w6.heap.size (by first | omega | (simp <;> omega) | (simp [World.setCell] <;> omega)) (by intro e; have h1 : some w6.heap.size = some (w6.heap.size + 1) := e; injection h1 with h1; omega)).trans ((Below.heap_alloc _ _ _ (by simp)).trans (heap_alloc_at rfl))); have fg7 := frz gy7.out; have lg7 := heap_lt gy7.out; have vg7 := (row4 gy7).2.2.2))
    go_meet
    case rel =>
      have lo7 := ho7.out.lt
      exact ⟨k7, c7, rfl, Lib.hid (heap_set (i := 3) gy7.out), ho7.out.set (fun e => by have h1 := (lo7 _ e).1; dsimp only at h1; omega) (fun h => h) _, by omega, (by repeat' (first | with_reducible exact Below.refl _ _ | with_reducible assumption | with_reducible refine Below.grown ?_ hg7 ?_ ?_ | with_reducible refine Below.setCell ?_ ?_ _ | with_reducible refine Below.drew ?_ | with_reducible refine below_drewN ?_ _ | with_reducible refine Below.alloc ?_ ?_ _ | (rintro _ ⟨⟩; simp <;> omega) | omega | (simp <;> omega)))⟩
  obtain ⟨k, cy, rfl, gy7, hraw, hk, hb⟩ := hcut
  obtain ⟨w7, hwv⟩ : ∃ x, x = wc := ⟨_, rfl⟩
  subst hwv
  have gx7 := mvQ gx6 hb
  have gc7 := mvQ gc6 hb
  have X47 := mvBN X46 hb
  have X57 := mvBN X56 hb
  have b7 := Lib.hid (b6.out.trans (hb.mono b6.out.size))
  have F7 := Lib.hid (F6.out.keep (Below.agree hb))
  have HRAW := Lib.hid hraw
  have HVF7 : Hid (∀ (i : Nat) y, x.fs[i]? = some y → ∃ A c, vs[i]? = some (.slice A y.length c) ∧ Sl cdE (fun b => b < g) w7 A c y) := Lib.hid fun i y hy => by
    obtain ⟨A, c, h1, h2⟩ := HVF.out i y hy
    exact ⟨A, c, h1, h2.keep (Below.agree hb)⟩
  have lw6 := hb.size
  have hl0 : x.fs[0]? = some (fl x 0) := by unfold fl; rw [List.getD_eq_getElem?_getD, List.getElem?_eq_getElem hfs0]; rfl
  obtain ⟨b1, o1, B1, d1, rfl, hSb1, l1, u1, hs1⟩ := flt_at F7.out hl0
  simp only [Nat.add_zero] at u1
  have HS1 := Lib.hid hs1
  have hcap1 := hs1.le
  have hm1' := hs1.capMax
  obtain ⟨A0, c0, hv0, -⟩ := HVF7.out 0 _ hl0
  have v0 := hraw.rawCell hv0
  have HV0 := Lib.hid hv0
  have fk := hraw.frozen 0
  have lkk := (hraw.lt k rfl).2
  have lg6 := HG6.out
  have hi0 : (0 : Int) < (x.fs.length : Int) := by omega
  have hgk : g ≠ k := by omega
  have hyk : w6.heap.size ≠ k := by omega
  have hbk : b1 ≠ k := by omega
  have HGK := Lib.hid (⟨hgk, hyk, hbk⟩ : g ≠ k ∧ w6.heap.size ≠ k ∧ b1 ≠ k)
  clear hraw hb gx6 gc6 X46 X56 b6 F6 HRS HVF lgx1 lgx2 x0 x1 x2 x3 hl0 hs1 hv0 hSb1
  obtain ⟨x0, x1, x2, x3⟩ := row4 gx7
  go_upto_if 79 with fail
  go_cut [12] (fun e wx => ∃ X Y : Qy, e = .int .i64 (checkTF X m).2 ∧ MoSt w2 g w6.heap.size g4 g5 x X Y m P5.1 wx)
  case first =>
    by_cases hl3 : (fl x 0).length = 3
    · as_aux_lemma =>
        have e3 : (((fl x 0).length : Int) == 3) = true := by rw [hl3]; rfl
        have hd1 : (2 : Int) ≤ (d1 : Int) := by omega
        have hd2 : (2 : Int) ≤ ((fl x 0).length : Int) := by omega
        have HMR := Lib.hid (mono_less HV.out HNW.out (m := (m : Int)) (by omega) (by omega) hl3)
        have HL2 := Lib.hid (show ((fl x 0).take 2).length = 2 by rw [List.length_take]; omega)
        have HL3 := Lib.hid hl3
        clear hl3
        have zx : ∀ W, Gk k w7 W → _ ∧ _ ∧ _ ∧ _ := fun W hW => row4 (Lib.hid (hW.row gx7.out HGK.out.1))
        have zy : ∀ W, Gk k w7 W → _ ∧ _ ∧ _ ∧ _ := fun W hW => row4 (Lib.hid (hW.row gy7.out HGK.out.2.1))
        have zu : ∀ W, Gk k w7 W → W.cell? ⟨b1, o1, none⟩ = some (.slice B1 (fl x 0).length d1) := fun W hW => (World.cell?_of_block (a := ⟨b1, o1, none⟩) (hW.g.block b1 l1 (by intro e; injection e with e; exact HGK.out.2.2 e))).trans u1
        have gr0 : Gk k w7 w7 := Gk.refl _ _
        have hks : Hid (¬ (fun b => b < g) k) := Lib.hid (fun h => by have h' : k < g := h; omega)
        go_upto_region 12 with fail
        go_cut [15] (fun p wx => p = .pointer (some ⟨w6.heap.size, 0, none⟩) ∧ Own cdE.slice (fun b => b < g) wx (w6.heap.size + 1) 44 (.slice (some ⟨k, 0, none⟩) x.fs.length cy) (setQ x ((fl x 0).take 2)).fs ∧ Gk k w7 wx)
        case first =>
          refine wp_region_noPanic ?_
          refine wp_region_held_drew (S := fun X => Gk k w7 X) (by kernel_rfl) ?_ (fun hHeld => ?_)
          · (first | (repeat' (first | with_reducible assumption | with_reducible exact Gk.refl _ _ | with_reducible refine Gk.drew ?_ | with_reducible refine Gk.set ?_ _ _)) | (first | with_reducible assumption | (with_reducible refine Below.drew ?_; with_reducible assumption) | (with_reducible refine ba _ _ ?_; with_reducible assumption) | (with_reducible refine Below.drew ?_; with_reducible refine ba _ _ ?_; with_reducible assumption) | exact Below.refl _ _ | exact (Below.refl _ _).drew | exact (Below.refl _ _).alloc (Nat.le_refl _) _ | (refine bc _ _ (by assumption) (by assumption))))
          refine RegOk.begin_ (n := 9) (T := qL8A) ⟨by kernel_rfl, by kernel_rfl, by kernel_rfl, by kernel_rfl⟩ fun hR => ?_
          refine hR.take (i := 0) (oi := ?ow722_0) (v := ?vw722_0) (m' := 1) ?hw722_0 (by kernel_rfl) (by kernel_rfl) (fun _ _ _ h => h) (Or.inl ⟨?sw722_0, ?yw722_0⟩) (by assumption) ?nw722_0
          case hw722_0 => simp only [List.getElem?_toArray, List.getElem?_cons_succ, List.getElem?_cons_zero]; rfl
          case sw722_0 => rfl
          case yw722_0 => (intro w hSw; (try dsimp only at hSw); go_simp <;> with_reducible rfl)
          try simp only [Act.put, List.setIfInBounds_toArray, List.set_cons_zero, List.set_cons_succ]
          refine hR.take (i := 1) (oi := ?ow723_1) (v := ?vw723_1) (m' := 3) ?hw723_1 (by kernel_rfl) (by kernel_rfl) (fun _ _ _ h => h) (Or.inl ⟨?sw723_1, ?yw723_1⟩) (by assumption) ?nw723_1
          case hw723_1 => simp only [List.getElem?_toArray, List.getElem?_cons_succ, List.getElem?_cons_zero]; rfl
          case sw723_1 => rfl
          case yw723_1 => (intro w hSw; (try dsimp only at hSw); go_simp <;> with_reducible rfl)
          try simp only [Act.put, List.setIfInBounds_toArray, List.set_cons_zero, List.set_cons_succ]
          refine hR.take (i := 2) (oi := ?ow724_2) (v := ?vw724_2) (m' := 7) ?hw724_2 (by kernel_rfl) (by kernel_rfl) (fun _ _ _ h => h) (Or.inl ⟨?sw724_2, ?yw724_2⟩) (by assumption) ?nw724_2
          case hw724_2 => simp only [List.getElem?_toArray, List.getElem?_cons_succ, List.getElem?_cons_zero]; rfl
          case sw724_2 => rfl
          case yw724_2 => (intro w hSw; (try dsimp only at hSw); go_simp <;> with_reducible rfl)
          try simp only [Act.put, List.setIfInBounds_toArray, List.set_cons_zero, List.set_cons_succ]
          refine hR.take (i := 3) (oi := ?ow725_3) (v := ?vw725_3) (m' := 15) ?hw725_3 (by kernel_rfl) (by kernel_rfl) (fun _ _ _ h => h) (Or.inl ⟨?sw725_3, ?yw725_3⟩) (by assumption) ?nw725_3
          case hw725_3 => simp only [List.getElem?_toArray, List.getElem?_cons_succ, List.getElem?_cons_zero]; rfl
          case sw725_3 => rfl
          case yw725_3 => (intro w hSw; (try dsimp only at hSw); go_simp <;> with_reducible rfl)
          try simp only [Act.put, List.setIfInBounds_toArray, List.set_cons_zero, List.set_cons_succ]
          refine hR.take (i := 4) (oi := ?ow726_4) (v := ?vw726_4) (m' := 31) ?hw726_4 (by kernel_rfl) (by kernel_rfl) (fun _ _ _ h => h) (Or.inl ⟨?sw726_4, ?yw726_4⟩) (by assumption) ?nw726_4
          case hw726_4 => simp only [List.getElem?_toArray, List.getElem?_cons_succ, List.getElem?_cons_zero]; rfl
          case sw726_4 => rfl
          case yw726_4 => (intro w hSw; (try dsimp only at hSw); go_simp <;> with_reducible rfl)
          try simp only [Act.put, List.setIfInBounds_toArray, List.set_cons_zero, List.set_cons_succ]
          refine hR.take (i := 5) (oi := ?ow727_5) (v := ?vw727_5) (m' := 63) ?hw727_5 (by kernel_rfl) (by kernel_rfl) (fun _ _ _ h => h) (Or.inl ⟨?sw727_5, ?yw727_5⟩) (by assumption) ?nw727_5
          case hw727_5 => simp only [List.getElem?_toArray, List.getElem?_cons_succ, List.getElem?_cons_zero]; rfl
          case sw727_5 => rfl
          case yw727_5 => (intro w hSw; (try dsimp only at hSw); go_simp <;> with_reducible rfl)
          try simp only [Act.put, List.setIfInBounds_toArray, List.set_cons_zero, List.set_cons_succ]
          refine hR.take (i := 6) (oi := ?ow728_6) (v := ?vw728_6) (m' := 127) ?hw728_6 (by kernel_rfl) (by kernel_rfl) (fun _ _ _ h => h) (Or.inl ⟨?sw728_6, ?yw728_6⟩) (by assumption) ?nw728_6
          case hw728_6 => simp only [List.getElem?_toArray, List.getElem?_cons_succ, List.getElem?_cons_zero]; rfl
          case sw728_6 => rfl
          case yw728_6 => (intro w hSw; (try dsimp only at hSw); go_simp <;> with_reducible rfl)
          try simp only [Act.put, List.setIfInBounds_toArray, List.set_cons_zero, List.set_cons_succ]
          refine hR.take (i := 7) (oi := ?ow729_7) (v := ?vw729_7) (m' := 255) ?hw729_7 (by kernel_rfl) (by kernel_rfl) (fun _ _ _ h => h) (Or.inl ⟨?sw729_7, ?yw729_7⟩) (by assumption) ?nw729_7
          case hw729_7 => simp only [List.getElem?_toArray, List.getElem?_cons_succ, List.getElem?_cons_zero]; rfl
          case sw729_7 => rfl
          case yw729_7 => (intro w hSw; (try dsimp only at hSw); go_simp <;> with_reducible rfl)
          try simp only [Act.put, List.setIfInBounds_toArray, List.set_cons_zero, List.set_cons_succ]
          refine hR.come (rs := [8]) (by kernel_rfl) (by simp) ?_
          refine AllReadyH.cons (o := ?o730_8) ?h730_8 (fun K hK => ?kw730_8) AllReadyH.nil
          case h730_8 => simp only [List.getElem?_toArray, List.getElem?_cons_succ, List.getElem?_cons_zero]; rfl
          go_simp <;> (try go_wp2_with fail)
          refine hK.out _ _ ?_ (fun hHeld => ?_)
          · (first | (repeat' (first | with_reducible assumption | with_reducible exact Gk.refl _ _ | with_reducible refine Gk.drew ?_ | with_reducible refine Gk.set ?_ _ _)) | (first | with_reducible assumption | (with_reducible refine Below.drew ?_; with_reducible assumption) | (with_reducible refine ba _ _ ?_; with_reducible assumption) | (with_reducible refine Below.drew ?_; with_reducible refine ba _ _ ?_; with_reducible assumption) | exact Below.refl _ _ | exact (Below.refl _ _).drew | exact (Below.refl _ _).alloc (Nat.le_refl _) _ | (refine bc _ _ (by assumption) (by assumption))))
          clear hK K
          refine RegOk.put_ (m' := 511) (by kernel_rfl) ?_
          try simp only [Act.put, List.setIfInBounds_toArray, List.set_cons_zero, List.set_cons_succ]
          refine hR.all (by kernel_rfl) ?_ _
          refine NoPanic.normal ?_
          go_wp2_with fail
          go_meet
          refine ⟨rfl, (own_set0 (x := x) (l := (fl x 0).take 2) HRAW.out HVL.out HL2.out (fun i y hy => ?_) ?_ rfl).drew, by assumption⟩
          · obtain ⟨A, c, h1, h2⟩ := HVF7.out i y hy
            exact ⟨A, c, h1, ((Gk.refl k w7).set 0 _).slKeep h2 hks.out⟩
          · exact ((Gk.refl k w7).set 0 _).slKeep (HS1.out.take 2) hks.out
        obtain ⟨rfl, ho8, hg8⟩ := hcut
        obtain ⟨w8, hwv⟩ : ∃ x, x = wc := ⟨_, rfl⟩
        subst hwv
        have gx8 := Lib.hid (hg8.row gx7.out HGK.out.1)
        have gy8 := Lib.hid (hg8.row gy7.out HGK.out.2.1)
        have HO8 := Lib.hid ho8
        have HG8 := Lib.hid hg8
        have lz8 := hg8.g.size
        have lgx8 := heap_lt gx8.out
        have lgy8 := heap_lt gy8.out
        have fgx := frz gx8.out
        have fgy := frz gy8.out
        have hne := Nat.ne_of_lt (show g < w6.heap.size by omega)
        clear zx zy zu gr0 x0 x1 x2 x3 ho8 hg8
        obtain ⟨x0, x1, x2, x3⟩ := row4 gx8
        obtain ⟨y0, y1, y2, y3⟩ := row4 gy8
        go_upto_region 14 with fail
        refine wp_world (F := fun wx => Hid (wx.heap[w8.heap.size]? = some (.cells #[.int .i64 x.kind, .int .i64 x.col, .int .i64 x.k, .slice (some ⟨b1, o1, none⟩) x.fs.length d] 24 (0, 0))) ∧ Below w8.heap.size w8 wx) ⟨Lib.hid (heap_alloc_at rfl), (by repeat' (first | with_reducible exact Below.refl _ _ | with_reducible assumption | with_reducible refine Below.setCell ?_ ?_ _ | with_reducible refine Below.drew ?_ | with_reducible refine below_drewN ?_ _ | with_reducible refine Below.alloc ?_ ?_ _ | (rintro _ ⟨⟩; simp <;> omega) | omega | (simp <;> omega)))⟩ ?_
        rintro w9 ⟨gz9, hb9⟩
        have gx9 := mvQ gx8 hb9
        have gy9 := mvQ gy8 hb9
        have HB9 := Lib.hid hb9
        have lz9 := hb9.size
        have lgx9 := heap_lt gx9.out
        have lgy9 := heap_lt gy9.out
        have lgz9 := heap_lt gz9.out
        have fgx9 := frz gx9.out
        clear x0 x1 x2 x3 y0 y1 y2 y3 hb9 fgx fgy
        obtain ⟨x0, x1, x2, x3⟩ := row4 gx9
        obtain ⟨y0, y1, y2, y3⟩ := row4 gy9
        go_upto_region 15 with fail
        refine wp_world (F := fun wx => Hid (wx.heap[g]? = some (.cells #[.int .i64 x.kind, .int .i64 x.col, .int .i64 x.k, .slice (some ⟨k, 0, none⟩) x.fs.length cy] 24 (0, 0))) ∧ Gk g w9 wx) ⟨Lib.hid (set4g gx9.out), ((((Gk.refl g w9).set _ _).set _ _).set _ _).set _ _⟩ ?_
        rintro wA ⟨gxA, hgA⟩
        have gyA := Lib.hid (hgA.row gy9.out (by omega))
        have gzA := Lib.hid (hgA.row gz9.out (by omega))
        have HGA := Lib.hid hgA
        have lzA := hgA.g.size
        have lgyA := heap_lt gyA.out
        have lgzA := heap_lt gzA.out
        have fgyA := frz gyA.out
        clear x0 x1 x2 x3 y0 y1 y2 y3 hgA fgx9
        obtain ⟨y0, y1, y2, y3⟩ := row4 gyA
        obtain ⟨z0, z1, z2, z3⟩ := row4 gzA
        go_upto_region 16 with fail
        refine wp_world (F := fun wx => Hid (wx.heap[w6.heap.size]? = some (.cells #[.int .i64 x.kind, .int .i64 x.col, .int .i64 x.k, .slice (some ⟨b1, o1, none⟩) x.fs.length d] 24 (0, 0))) ∧ Gk w6.heap.size wA wx) ⟨Lib.hid (set4g gyA.out), ((((Gk.refl w6.heap.size wA).set _ _).set _ _).set _ _).set _ _⟩ ?_
        rintro wB ⟨gyB, hgB⟩
        have gxB := Lib.hid (hgB.row gxA.out (by omega))
        have HGB := Lib.hid hgB
        have hkk := HO8.out.lt k rfl
        have lc3 := lgx3
        have X4B := Lib.hid ((((X47.out.gk HG8.out (by omega) (.inr (by omega))).keep HB9.out).gk HGA.out (by omega) (.inl lc3)).gk HGB.out (by omega) (.inr (by omega)))
        have X5B := Lib.hid ((((X57.out.gk HG8.out (by omega) (.inr (by omega))).keep HB9.out).gk HGA.out (by omega) (.inl (by have := b4'.out; omega))).gk HGB.out (by omega) (.inr (by omega)))
        have HOB := Lib.hid (((HO8.out.call HB9.out).grown HGA.out.g (.inr (by intro e; have h1 : some k = some g := e; injection h1 with h1; omega)) (by rintro _ ⟨⟩; exact Nat.lt_irrefl _)).grown HGB.out.g (.inr (by intro e; have h1 : some k = some w6.heap.size := e; injection h1 with h1; omega)) (by rintro _ ⟨⟩ h; have h' : w6.heap.size < g := h; omega))
        have HXS := Lib.hid (HOB.out.toSl (T := fun b => b < g ∨ b = k) (fun b h _ => .inl h) (fun b _ _ h => .inr (by have h1 : some k = some b := h; injection h1 with h1; exact h1.symm)))
        have HFB := Lib.hid (HGB.out.slKeep (HGA.out.slKeep ((HG8.out.slKeep F7.out hks.out).keep (Below.agree HB9.out)) (Nat.lt_irrefl _)) (by intro h; have h' : w6.heap.size < g := h; omega))
        have BB1 := HG8.out.below b7.out (by omega) b7.out.size
        have BB2 := BB1.trans (HB9.out.mono BB1.size)
        have BB3 := HGA.out.below BB2 (by omega) BB2.size
        have BB4 := HGB.out.below BB3 (by omega) BB3.size
        have HBB := Lib.hid BB4
        have hck := checkP (q := setQ x ((fl x 0).take 2)) (m : Int) wB (HB2.out.keep BB4).ok HXS.out rfl
        rw [show (setQ x ((fl x 0).take 2)).fs.length = x.fs.length from HMR.out.lX] at hck
        have HCK := Lib.hid (show Calls Tryd.prog 11 #[.agg #[.int .i64 x.kind, .int .i64 x.col, .int .i64 x.k, .slice (some ⟨k, 0, none⟩) x.fs.length cy], .int .i64 m] wB (CheckRes wB (checkTF (setQ x ((fl x 0).take 2)) m)) from hck)
        obtain ⟨B4, d4, hg4B, -⟩ := X4B.out
        have G4B := Lib.hid hg4B
        have lzB := HGB.out.g.size
        clear y0 y1 y2 y3 z0 z1 z2 z3 fgyA hck hg4B BB1 BB2 BB3 BB4 hgB
        obtain ⟨x0, x1, x2, x3⟩ := row4 gxB
        go_wp2_with (go_at_call 11; refine HCK.out.mono ?_; rintro e wC ⟨BC, dC, rfl, hs, hbC⟩; have HC := Lib.hid hs; have bC := Lib.hid hbC; have g4C := mvQ G4B hbC; obtain ⟨v4, f4, l4⟩ := one g4C; clear hs hbC)
        go_meet
        case rel =>
          have hlB := bC.out.size
          have hcy := HXS.out.keep (Below.agree bC.out)
          refine ⟨setQ x ((fl x 0).take 2), x, rfl, HMR.out, ⟨some ⟨k, 0, none⟩, cy, ?_, ?_⟩, ⟨some ⟨b1, o1, none⟩, d, ?_, ?_⟩, ⟨BC, dC, ?_, ?_⟩, ?_, ?_⟩
          · rw [HMR.out.lX]
            exact (Below.heap_setCell _ _ _ _ (by show g ≠ g4; omega)).trans ((mvQ gxB bC.out).out)
          · exact (hcy.keep ((Agree.refl _ _).set (by show ¬ (g4 < g ∨ g4 = k); omega) _)).sub fun _ _ _ => trivial
          · exact (Below.heap_setCell _ _ _ _ (by show w6.heap.size ≠ g4; omega)).trans ((mvQ gyB bC.out).out)
          · exact ((HFB.out.keep (Below.agree bC.out)).keep ((Agree.refl _ _).set (by show ¬ g4 < g; omega) _)).sub fun _ _ _ => trivial
          · exact heap_set (i := 0) g4C.out
          · exact (HC.out.keep ((Agree.refl _ _).set (by show ¬ wB.heap.size ≤ g4; omega) _)).sub fun _ _ _ => trivial
          · exact ((X5B.out.keep bC.out).gk ((Gk.refl g4 wC).set 0 _) (by omega) (.inl b4'.out)).bx
          · exact (HBB.out.trans (bC.out.mono HBB.out.size)).setCell (by show w2.heap.size ≤ g4; omega) _
    · as_aux_lemma =>
        have e3 : (((fl x 0).length : Int) == 3) = false := beqF (by omega)
        have HMR := Lib.hid (fun (c : Cd) (hc : ValidCd c) => mono_more HV.out HNW.out (m := (m : Int)) (by omega) (by omega) hc hl3)
        have hfl3 := (HV.out.flt _ (show fl x 0 ∈ x.fs by unfold fl; rw [List.getD_eq_getElem?_getD, List.getElem?_eq_getElem hfs0]; exact List.getElem_mem _)).1
        have HFV := Lib.hid hfl3
        have lg7a : g < w7.heap.size := by omega
        have lg7b : g < w7.heap.size + 1 := by omega
        have lb7 : b1 < w7.heap.size + 1 := by omega
        clear hl3
        go_upto_region 18 with (at_builtin; go_must ((refine wpList_append_E (E := cdE) (S := fun b => b < g) rfl (.tmp 97) (.tmp 101) rfl cdsT (base := w7.heap.size) (v := .slice (some ⟨w7.heap.size, 0, none⟩) 0 0) (xs := []) (ys := fl x 0) (by rfl) (by rfl) rfl (nz := (fl x 0).length) (by simp) (Own.litAt _ _ _ _ rfl (Nat.le_refl _)) (HS1.out.alloc_ _) (by unfold maxLen; simp; omega) (by simp; omega) (by simp) (fun g' hg' (hlt : g' < g) => by have h1 : some w7.heap.size = some g' := hg'; injection h1 with h1; omega) ?_); intro A8 c8 w8 hown8 hg8 hor8))
        have hb8 : Below w7.heap.size w7 w8 := (by repeat' (first | with_reducible exact Below.refl _ _ | with_reducible assumption | with_reducible refine Below.grown ?_ hg8 ?_ ?_ | with_reducible refine Below.setCell ?_ ?_ _ | with_reducible refine Below.drew ?_ | with_reducible refine below_drewN ?_ _ | with_reducible refine Below.alloc ?_ ?_ _ | (rintro _ ⟨⟩; simp <;> omega) | omega | (simp <;> omega)))
        have HO8 := Lib.hid (hown8.flat cdE_flat (T := fun _ => False))
        have HB8 := Lib.hid hb8
        have lz8 := hb8.size
        have gx8 := mvQ gx7 hb8
        have gy8 := mvQ gy7 hb8
        have gc8 := mvQ gc7 hb8
        have X48 := mvBN X47 hb8
        have X58 := mvBN X57 hb8
        have F8 := Lib.hid (F7.out.keep (Below.agree hb8))
        have HR8 := Lib.hid (HRAW.out.call hb8)
        have HV8 : Hid (∀ (i : Nat) y, x.fs[i]? = some y → ∃ A c, vs[i]? = some (.slice A y.length c) ∧ Sl cdE (fun b => b < g) w8 A c y) := Lib.hid fun i y hy => by
          obtain ⟨A, c, h1, h2⟩ := HVF7.out i y hy
          exact ⟨A, c, h1, h2.keep (Below.agree hb8)⟩
        obtain ⟨N, hN⟩ : ∃ N, w6.heap.size + 1 = N := ⟨_, rfl⟩
        have lc8 : w.heap.size + 1 + 1 < N := by omega
        have lN8 : N ≤ w8.heap.size := by omega
        have zy : ∀ W, Below N w8 W → _ ∧ _ ∧ _ ∧ _ := fun W hW => row4 (Lib.hid ((hW.block w6.heap.size (by omega)).trans gy8.out))
        have zc : ∀ W, Below N w8 W → _ ∧ _ ∧ _ := fun W hW => row3 (Lib.hid ((hW.block (w.heap.size + 1 + 1) lc8).trans gc8.out))
        have br : Below N w8 w8 := Below.refl _ _
        have ba : ∀ W o, Below N w8 W → Below N w8 (W.alloc o) := fun W o h => h.alloc (Nat.le_trans lN8 h.size) o
        have bc : ∀ W W', Below N w8 W → Below W.heap.size W W' → Below N w8 W' := fun W W' h k => h.trans (k.mono (Nat.le_trans lN8 h.size))
        have lo8 := HO8.out.lt
        have hne8 : (Value.slice (some ⟨k, 0, none⟩) x.fs.length cy).ownBlock = some k := rfl
        clear hown8 hg8 hor8 hb8 x0 x1 x2 x3 u1 v0 fk
        refine wp_region_noPanic ?_
        refine wp_region_held_drew (S := fun X => Below N w8 X) (by kernel_rfl) ?_ (fun hHeld => ?_)
        · (first | (repeat' (first | with_reducible assumption | exact Below.refl _ _ | with_reducible refine Below.setCell ?_ ?_ _ | with_reducible refine Below.drew ?_ | with_reducible refine ba _ _ ?_ | (simp; omega) | omega)) | (first | with_reducible assumption | (with_reducible refine Below.drew ?_; with_reducible assumption) | (with_reducible refine ba _ _ ?_; with_reducible assumption) | (with_reducible refine Below.drew ?_; with_reducible refine ba _ _ ?_; with_reducible assumption) | exact Below.refl _ _ | exact (Below.refl _ _).drew | exact (Below.refl _ _).alloc (Nat.le_refl _) _ | (refine bc _ _ (by assumption) (by assumption))))
        refine RegOk.begin_ (n := 9) (T := qL8B) ⟨by kernel_rfl, by kernel_rfl, by kernel_rfl, by kernel_rfl⟩ fun hR => ?_
        refine hR.take (i := 0) (oi := ?ow731_0) (v := ?vw731_0) (m' := 1) ?hw731_0 (by kernel_rfl) (by kernel_rfl) (fun _ _ _ h => h) (Or.inl ⟨?sw731_0, ?yw731_0⟩) (by assumption) ?nw731_0
        case hw731_0 => simp only [List.getElem?_toArray, List.getElem?_cons_succ, List.getElem?_cons_zero]; rfl
        case sw731_0 => rfl
        case yw731_0 => (intro w hSw; (try dsimp only at hSw); go_simp <;> with_reducible rfl)
        try simp only [Act.put, List.setIfInBounds_toArray, List.set_cons_zero, List.set_cons_succ]
        refine hR.take (i := 1) (oi := ?ow732_1) (v := ?vw732_1) (m' := 3) ?hw732_1 (by kernel_rfl) (by kernel_rfl) (fun _ _ _ h => h) (Or.inl ⟨?sw732_1, ?yw732_1⟩) (by assumption) ?nw732_1
        case hw732_1 => simp only [List.getElem?_toArray, List.getElem?_cons_succ, List.getElem?_cons_zero]; rfl
        case sw732_1 => rfl
        case yw732_1 => (intro w hSw; (try dsimp only at hSw); go_simp <;> with_reducible rfl)
        try simp only [Act.put, List.setIfInBounds_toArray, List.set_cons_zero, List.set_cons_succ]
        refine hR.take (i := 2) (oi := ?ow733_2) (v := ?vw733_2) (m' := 7) ?hw733_2 (by kernel_rfl) (by kernel_rfl) (fun _ _ _ h => h) (Or.inl ⟨?sw733_2, ?yw733_2⟩) (by assumption) ?nw733_2
        case hw733_2 => simp only [List.getElem?_toArray, List.getElem?_cons_succ, List.getElem?_cons_zero]; rfl
        case sw733_2 => rfl
        case yw733_2 => (intro w hSw; (try dsimp only at hSw); go_simp <;> with_reducible rfl)
        try simp only [Act.put, List.setIfInBounds_toArray, List.set_cons_zero, List.set_cons_succ]
        refine hR.take (i := 3) (oi := ?ow734_3) (v := ?vw734_3) (m' := 15) ?hw734_3 (by kernel_rfl) (by kernel_rfl) (fun _ _ _ h => h) (Or.inl ⟨?sw734_3, ?yw734_3⟩) (by assumption) ?nw734_3
        case hw734_3 => simp only [List.getElem?_toArray, List.getElem?_cons_succ, List.getElem?_cons_zero]; rfl
        case sw734_3 => rfl
        case yw734_3 => (intro w hSw; (try dsimp only at hSw); go_simp <;> with_reducible rfl)
        try simp only [Act.put, List.setIfInBounds_toArray, List.set_cons_zero, List.set_cons_succ]
        refine hR.come (rs := [4]) (by kernel_rfl) (by simp) ?_
        refine AllReadyH.cons (o := ?o735_4) ?h735_4 (fun K hK => ?kw735_4) AllReadyH.nil
        case h735_4 => simp only [List.getElem?_toArray, List.getElem?_cons_succ, List.getElem?_cons_zero]; rfl
        go_simp
        go_at_call 23; refine (madeCdP cd _).mono ?_; rintro e wM ⟨cx, hvc, rfl, hbM⟩; have hkM := bc _ _ (by (first | with_reducible assumption | (with_reducible refine Below.drew ?_; with_reducible assumption) | (with_reducible refine ba _ _ ?_; with_reducible assumption) | (with_reducible refine Below.drew ?_; with_reducible refine ba _ _ ?_; with_reducible assumption) | exact Below.refl _ _ | exact (Below.refl _ _).drew | exact (Below.refl _ _).alloc (Nat.le_refl _) _ | (refine bc _ _ (by assumption) (by assumption)))) hbM; have hzM := hbM.size; (try simp at hzM); have HCX := Lib.hid hvc; clear hvc
        refine hK.out _ _ ?_ (fun hHeld => ?_)
        · (first | (repeat' (first | with_reducible assumption | exact Below.refl _ _ | with_reducible refine Below.setCell ?_ ?_ _ | with_reducible refine Below.drew ?_ | with_reducible refine ba _ _ ?_ | (simp; omega) | omega)) | (first | with_reducible assumption | (with_reducible refine Below.drew ?_; with_reducible assumption) | (with_reducible refine ba _ _ ?_; with_reducible assumption) | (with_reducible refine Below.drew ?_; with_reducible refine ba _ _ ?_; with_reducible assumption) | exact Below.refl _ _ | exact (Below.refl _ _).drew | exact (Below.refl _ _).alloc (Nat.le_refl _) _ | (refine bc _ _ (by assumption) (by assumption))))
        clear hK K
        refine RegOk.put_ (m' := 31) (by kernel_rfl) ?_
        try simp only [Act.put, List.setIfInBounds_toArray, List.set_cons_zero, List.set_cons_succ]
        refine hR.come (rs := [5]) (by kernel_rfl) (by simp) ?_
        refine AllReadyH.cons (o := ?o736_5) ?h736_5 (fun K hK => ?kw736_5) AllReadyH.nil
        case h736_5 => simp only [List.getElem?_toArray, List.getElem?_cons_succ, List.getElem?_cons_zero]; rfl
        go_simp <;> (try go_wp2_with fail)
        refine hK.out _ _ ?_ (fun hHeld => ?_)
        · (first | (repeat' (first | with_reducible assumption | exact Below.refl _ _ | with_reducible refine Below.setCell ?_ ?_ _ | with_reducible refine Below.drew ?_ | with_reducible refine ba _ _ ?_ | (simp; omega) | omega)) | (first | with_reducible assumption | (with_reducible refine Below.drew ?_; with_reducible assumption) | (with_reducible refine ba _ _ ?_; with_reducible assumption) | (with_reducible refine Below.drew ?_; with_reducible refine ba _ _ ?_; with_reducible assumption) | exact Below.refl _ _ | exact (Below.refl _ _).drew | exact (Below.refl _ _).alloc (Nat.le_refl _) _ | (refine bc _ _ (by assumption) (by assumption))))
        clear hK K
        refine RegOk.put_ (m' := 63) (by kernel_rfl) ?_
        try simp only [Act.put, List.setIfInBounds_toArray, List.set_cons_zero, List.set_cons_succ]
        refine hR.come (rs := [6]) (by kernel_rfl) (by simp) ?_
        refine AllReadyH.cons (o := ?o737_6) ?h737_6 (fun K hK => ?kw737_6) AllReadyH.nil
        case h737_6 => simp only [List.getElem?_toArray, List.getElem?_cons_succ, List.getElem?_cons_zero]; rfl
        refine step_append_E (E := cdE) (S := fun b => b = wM.heap.size) rfl (.tmp 105) (.tmp 108) rfl cdsT (base := w7.heap.size) (v := .slice A8 (fl x 0).length c8) (xs := fl x 0) (ys := [cx]) (by rfl) (by rfl) rfl (nz := (fl x 0).length + 1) (by simp) (by repeat' (first | with_reducible refine Own.alloc ?_ _ | with_reducible refine Own.drew ?_ | with_reducible refine Own.call ?_ hbM | exact HO8.out.flat cdE_flat)) (by repeat' (first | with_reducible refine Sl.drew ?_ | exact Sl.litAt (S := fun b => b = wM.heap.size) (by first | rfl | simp) (.single cdE_shut) (by unfold maxLen; simp) (fun _ h _ => h) rfl)) (by unfold maxLen; simp; omega) (by simp; omega) (by simp; omega) (fun g' hg' (hlt : g' = wM.heap.size) => by have h1 := (lo8 g' hg').2; omega) ?_; intro A9 c9 w9 hown9 hg9 hor9; have lM := Nat.le_trans lN8 hkM.size; have hk9 : Below N w8 w9 := (hkM.alloc lM _).grown hg9 (by simp; omega) (fun g' hg' => by have := (lo8 g' hg').1; omega); have HR9 := Lib.hid (((HR8.out.drew.call hbM).alloc _).grown hg9 (.inr (by intro e; have := (lo8 k e.symm).1; omega)) (fun _ _ h => h.elim)); have v9 := HR9.out.rawCell HV0.out; have f9 := HR9.out.frozen 0; have l9 := (HR9.out.lt k rfl).2; have HO9 := Lib.hid hown9; have HK9 := Lib.hid hk9; clear hown9 hg9 hor9
        refine hK.out _ _ ?_ (fun hHeld => ?_)
        · (first | (repeat' (first | with_reducible assumption | exact Below.refl _ _ | with_reducible refine Below.setCell ?_ ?_ _ | with_reducible refine Below.drew ?_ | with_reducible refine ba _ _ ?_ | (simp; omega) | omega)) | (first | with_reducible assumption | (with_reducible refine Below.drew ?_; with_reducible assumption) | (with_reducible refine ba _ _ ?_; with_reducible assumption) | (with_reducible refine Below.drew ?_; with_reducible refine ba _ _ ?_; with_reducible assumption) | exact Below.refl _ _ | exact (Below.refl _ _).drew | exact (Below.refl _ _).alloc (Nat.le_refl _) _ | (refine bc _ _ (by assumption) (by assumption))))
        clear hK K
        refine RegOk.put_ (m' := 127) (by kernel_rfl) ?_
        try simp only [Act.put, List.setIfInBounds_toArray, List.set_cons_zero, List.set_cons_succ]
        refine hR.take (i := 7) (oi := ?ow738_7) (v := ?vw738_7) (m' := 255) ?hw738_7 (by kernel_rfl) (by kernel_rfl) (fun _ _ _ h => h) (Or.inl ⟨?sw738_7, ?yw738_7⟩) (by assumption) ?nw738_7
        case hw738_7 => simp only [List.getElem?_toArray, List.getElem?_cons_succ, List.getElem?_cons_zero]; rfl
        case sw738_7 => rfl
        case yw738_7 => (intro w hSw; (try dsimp only at hSw); go_simp <;> with_reducible rfl)
        try simp only [Act.put, List.setIfInBounds_toArray, List.set_cons_zero, List.set_cons_succ]
        refine hR.come (rs := [8]) (by kernel_rfl) (by simp) ?_
        refine AllReadyH.cons (o := ?o739_8) ?h739_8 (fun K hK => ?kw739_8) AllReadyH.nil
        case h739_8 => simp only [List.getElem?_toArray, List.getElem?_cons_succ, List.getElem?_cons_zero]; rfl
        go_simp <;> (try go_wp2_with fail)
        refine hK.out _ _ ?_ (fun hHeld => ?_)
        · (first | (repeat' (first | with_reducible assumption | exact Below.refl _ _ | with_reducible refine Below.setCell ?_ ?_ _ | with_reducible refine Below.drew ?_ | with_reducible refine ba _ _ ?_ | (simp; omega) | omega)) | (first | with_reducible assumption | (with_reducible refine Below.drew ?_; with_reducible assumption) | (with_reducible refine ba _ _ ?_; with_reducible assumption) | (with_reducible refine Below.drew ?_; with_reducible refine ba _ _ ?_; with_reducible assumption) | exact Below.refl _ _ | exact (Below.refl _ _).drew | exact (Below.refl _ _).alloc (Nat.le_refl _) _ | (refine bc _ _ (by assumption) (by assumption))))
        clear hK K
        refine RegOk.put_ (m' := 511) (by kernel_rfl) ?_
        try simp only [Act.put, List.setIfInBounds_toArray, List.set_cons_zero, List.set_cons_succ]
        refine hR.all (by kernel_rfl) ?_ _
        refine NoPanic.normal ?_
        go_wp2_with fail
        go_meet
        case rel =>
          have hkS : ¬ (k < g ∨ w7.heap.size ≤ k) := by omega
          have gz9 := (Gk.refl k w9).set 0 (.slice A9 ((fl x 0).length + 1) c9)
          refine ⟨x, setQ x (fl x 0 ++ [cx]), by rw [HP4.out], HMR.out cx HCX.out, ⟨some ⟨b1, o1, none⟩, d, ?_, ?_⟩, ⟨some ⟨k, 0, none⟩, cy, ?_, ?_⟩, ?_, ?_, ?_⟩
          · exact gz9.row ((HK9.out.block g (by omega)).trans gx8.out) (by omega)
          · exact ((gz9.slKeep (F8.out.belowN HK9.out (fun b hb => by have h' : b < g := hb; omega)) (by show ¬ k < g; omega)).sub fun _ _ _ => trivial)
          · rw [(HMR.out cx HCX.out).lY]
            exact gz9.row ((HK9.out.block w6.heap.size (by omega)).trans gy8.out) (by omega)
          · have ho := own_set0 (x := x) (l := fl x 0 ++ [cx]) (S := fun b => b < g ∨ w7.heap.size ≤ b) HR9.out HVL.out (by simp) (fun i y hy => by
              obtain ⟨A, c, h1, h2⟩ := HV8.out i y hy
              exact ⟨A, c, h1, (gz9.slKeep (h2.belowN HK9.out (fun b hb => by have h' : b < g := hb; omega)) (by show ¬ k < g; omega)).sub fun b hb _ => .inl hb⟩) (gz9.slKeep (HO9.out.flatSl cdE_flat (T := fun b => b < g ∨ w7.heap.size ≤ b) (fun b hb => .inr hb)) hkS) rfl
            exact (ho.toSl (fun _ _ _ => trivial) (fun _ _ _ _ => trivial))
          · rw [HP4.out]
            exact ((X48.out.belowN HK9.out (by omega)).gk gz9 (by omega) (.inr (by omega))).bx
          · exact ((X58.out.belowN HK9.out (by omega)).gk gz9 (by omega) (.inr (by omega))).bx
          · have hb := b7.out.trans (HB8.out.mono b7.out.size)
            have hz := b7.out.size
            exact gz9.below (hb.trans (HK9.out.mono (by omega))) (by omega) (Nat.le_trans hb.size HK9.out.size)
  obtain ⟨X, Y, rfl, hst⟩ := hcut
  obtain ⟨wD, hwv⟩ : ∃ x, x = wc := ⟨_, rfl⟩
  subst hwv
  obtain ⟨hR, ⟨BX, dX, gX, sX⟩, ⟨BY, dY, gY, sY⟩, hb4, hb5, hbel⟩ := hst
  have HR := Lib.hid hR
  have GX := Lib.hid gX
  have GY := Lib.hid gY
  have SX := Lib.hid sX
  have SY := Lib.hid sY
  have X4D := Lib.hid hb4
  have X5D := Lib.hid hb5
  have WD := Lib.hid (HB2.out.keep hbel).ok
  have bD := Lib.hid hbel
  obtain ⟨PX, hPX⟩ : ∃ P, checkTF X m = P := ⟨_, rfl⟩
  obtain ⟨PY, hPY⟩ : ∃ P, checkTF Y m = P := ⟨_, rfl⟩
  rw [hPX] at X4D ⊢
  have HPX := Lib.hid hPX
  have HPY := Lib.hid hPY
  clear hR gX gY sX sY hb4 hb5 hbel hPX hPY gx7 gy7 gc7 X47 X57 b7 F7 HRAW HVF7 HS1 HGK hgk hyk hbk hcap1 hm1' l1 u1 v0 fk lkk HV0 lg6 HG6 hi0 lgx lw6 hk x0 x1 x2 x3 HVL HB2 hfs0 hfs2
  obtain ⟨y0, y1, y2, y3⟩ := row4 GY
  go_upto_region 19 with fail
  go_cut [18, 19] (fun p e wx => ∃ g, p = .pointer (some ⟨g, 0, none⟩) ∧ e = .int .i64 PY.2 ∧ Bx wx g PY.1 ∧ Below wD.heap.size wD wx)
  case first =>
    go_wp2_with (go_at_call 11; refine (checkP (q := Y) m _ WD.out SY.out HPY.out).mono ?_; rintro e wC ⟨B, d, rfl, hs, hbC⟩; have HC := Lib.hid hs; have bC := Lib.hid hbC; clear hs hbC)
    go_meet
    case rel => exact ⟨_, rfl, rfl, ⟨B, d, heap_alloc_at rfl, (HC.out.sub (fun _ _ _ => trivial)).keep ((Agree.refl _ _).alloc _)⟩, bC.out.alloc bC.out.size _⟩
  obtain ⟨gD, rfl, rfl, hbx, hb⟩ := hcut
  obtain ⟨wE, hwv⟩ : ∃ x, x = wc := ⟨_, rfl⟩
  subst hwv
  have bE := Lib.hid (bD.out.trans (hb.mono bD.out.size))
  have GXE := mvQ GX hb
  have SXE := Lib.hid (SX.out.keep (Below.agree hb))
  have X4E := mvBx X4D hb
  have X5E := mvBx X5D hb
  have XDE := Lib.hid hbx
  have bW := Lib.hid (b2.out.trans (bE.out.mono b2.out.size))
  clear hb hbx GX GY SX SY X4D X5D WD bD y0 y1 y2 y3
  obtain ⟨okx, hokx⟩ : ∃ b, (boundF X m).2 = b := ⟨_, rfl⟩
  have EX := Lib.hid (show PX = if okx then ((boundF X m).1, 0) else ([], 141) by rw [← HPX.out, check_val HR.out.vX HR.out.nX (n := m) (by omega) (by omega), hokx])
  have HLX := Lib.hid (show (boundF X m).1.length = L by have h1 := bound_len (q := X) (n := m) HR.out.vX.head.1.1 HR.out.vX.head.1.2; have h2 := HLS.out; rw [HR.out.kX] at h1; omega)
  have HLY := Lib.hid (show (boundF Y m).1.length = L by have h1 := bound_len (q := Y) (n := m) HR.out.vY.head.1.1 HR.out.vY.head.1.2; have h2 := HLS.out; rw [HR.out.kY] at h1; omega)
  have HLN := Lib.hid (show (boundF x n).1.length = L by have h1 := bound_len (q := x) (n := n) HV.out.head.1.1 HV.out.head.1.2; have h2 := HLS.out; omega)
  cases okx with
  | false =>
    rw [EX.out]
    simp only [Bool.false_eq_true, if_false]
    go_wp2_with fail
    go_loopw [20] (fun i wx => i = .int .i64 0 ∧ Hid (wx = wE)) (fun _ _ => 0)
    case atStart => exact ⟨rfl, Lib.hid rfl⟩
    case round =>
      obtain ⟨rfl, hwx⟩ := hrel
      obtain rfl := hwx.out
      go_wp2_with fail
      go_ret
      exact ⟨rfl, bW.out⟩
  | true =>
    have EY := Lib.hid (show PY = ((boundF Y m).1, 0) by rw [← HPY.out, check_val HR.out.vY HR.out.nY (n := m) (by omega) (by omega), HR.out.ok hokx]; rfl)
    have OKX := Lib.hid hokx
    have EX2 := Lib.hid (show PX = ((boundF X m).1, 0) by rw [EX.out]; rfl)
    rw [EX2.out] at X4E ⊢
    rw [EY.out] at XDE ⊢
    dsimp only at X4E XDE ⊢
    obtain ⟨B4, d4, y4, s4⟩ := X4E.out
    obtain ⟨B7, d7, y7, s7⟩ := XDE.out
    rw [HLX.out] at y4
    rw [HLY.out] at y7
    have Y4 := Lib.hid y4
    have Y7 := Lib.hid y7
    have S4 := Lib.hid s4
    have S7 := Lib.hid s7
    have hm4 := s4.max
    have hm7 := s7.max
    rw [HLX.out] at hm4
    have hll : ((L : Int) != (L : Int)) = false := by simp
    obtain ⟨a0, a1, a2⟩ := one Y4
    obtain ⟨c0, c1, c2⟩ := one Y7
    clear y4 y7 s4 s7 X4E XDE hokx hm7
    cases hokn : okn with
    | false =>
      as_aux_lemma =>
        have E52 := Lib.hid (show P5 = ([], 141) by rw [E5.out, hokn]; rfl)
        rw [E52.out]
        dsimp only
        clear hokn
        go_wp2_with fail
        go_loopw [20] (fun i wr => ∃ v : Nat, v ≤ L ∧ i = .int .i64 v ∧ Hid (Below wE.heap.size wE wr)) (fun i _ => L - (intOf i).toNat)
        case atStart => exact ⟨0, Nat.zero_le _, rfl, Lib.hid (Below.refl _ _)⟩
        case round =>
          obtain ⟨v, hv, rfl, hbr⟩ := hrel
          have hkr := hbr.out
          clear a0 a1 a2 c0 c1 c2 
          obtain ⟨a0, a1, a2⟩ := one (mvQ Y4 hkr)
          obtain ⟨c0, c1, c2⟩ := one (mvQ Y7 hkr)
          have hv0 : (0 : Int) ≤ (v : Int) := by omega
          by_cases hlt : v < L
          · have hv1 : (v : Int) < (L : Int) := by omega
            obtain ⟨av, hav⟩ : ∃ av, (m : Int) * capF X v = av := ⟨_, rfl⟩
            obtain ⟨dv, hdv⟩ : ∃ dv, (m : Int) * capF Y v = dv := ⟨_, rfl⟩
            have hcap := HR.out.cap v (by omega)
            have hda : dv ≤ av := by rw [← hav, ← hdv]; exact Int.mul_le_mul_of_nonneg_left hcap.2 (by omega)
            have hd0 : 0 ≤ dv := by rw [← hdv]; exact Int.mul_nonneg (by omega) hcap.1
            obtain ⟨b7, o7, rfl, -, l7, v7⟩ := i64_at (S4.out.keep (Below.agree hkr)) (i := v) (r := av) (by rw [bound_at HR.out.vX.head.1.1 HR.out.vX.head.1.2 (by rw [HR.out.kX, ← HLS.out]; exact hv1), hav])
            obtain ⟨b8, o8, rfl, -, l8, v8⟩ := i64_at (S7.out.keep (Below.agree hkr)) (i := v) (r := dv) (by rw [bound_at HR.out.vY.head.1.1 HR.out.vY.head.1.2 (by rw [HR.out.kY, ← HLS.out]; exact hv1), hdv])
            have g1 : decide (av < dv) = false := decide_eq_false (by omega)
            have g2 : decide (dv < 0) = false := decide_eq_false (by omega)
            clear hav hdv hcap hda hd0
            go_wp2_with fail
            go_quiet (fail)
            go_wp2_with fail
            go_quiet (fail)
            go_wp2_with fail
            go_roundw
            case rel => exact ⟨v + 1, by omega, by go_num, Lib.hid (below_drewN hkr _)⟩
            case measure => simp [intOf]; omega
          · have hv1 : ¬ (v : Int) < (L : Int) := by omega
            go_wp2_with fail
            go_ret
            exact ⟨rfl, bW.out.trans (hkr.mono bW.out.size)⟩
    | true =>
      by_cases hlen2 : (fl X 0).length < 2
      · as_aux_lemma =>
          have E52 := Lib.hid (show P5 = ((boundF x n).1, 0) by rw [E5.out, hokn]; rfl)
          rw [E52.out] at X5E ⊢
          dsimp only at X5E ⊢
          obtain ⟨B5, d5, y5, s5⟩ := X5E.out
          rw [HLN.out] at y5
          have Y5 := Lib.hid y5
          have S5 := Lib.hid s5
          have hm5 := s5.max
          rw [HLN.out] at hm5
          obtain ⟨e0, e1, e2⟩ := one Y5
          have hX0 : 0 < X.fs.length := fs_pos HR.out.vX
          have hXl : X.fs[0]? = some (fl X 0) := by unfold fl; rw [List.getD_eq_getElem?_getD, List.getElem?_eq_getElem hX0]; rfl
          obtain ⟨bX, oX, B9, d9, rfl, -, l9, v9, s9⟩ := flt_at SXE.out hXl
          simp only [Nat.add_zero] at v9
          have hi0 : (0 : Int) < (X.fs.length : Int) := by omega
          have hm9 := s9.max
          have lgE := heap_lt GXE.out
          clear hokn y5 s5 s9 hXl hX0
          have hlen : ((fl X 0).length : Int) < 2 := by omega
          have HXx := Lib.hid (HR.out.low hlen2)
          go_wp2_with fail
          go_loopw [20] (fun i wr => ∃ v : Nat, v ≤ L ∧ i = .int .i64 v ∧ Hid (Below wE.heap.size wE wr)) (fun i _ => L - (intOf i).toNat)
          case atStart => exact ⟨0, Nat.zero_le _, rfl, Lib.hid (Below.refl _ _)⟩
          case round =>
            obtain ⟨v, hv, rfl, hbr⟩ := hrel
            have hkr := hbr.out
            clear a0 a1 a2 c0 c1 c2 e0 e1 e2
            obtain ⟨a0, a1, a2⟩ := one (mvQ Y4 hkr)
            obtain ⟨c0, c1, c2⟩ := one (mvQ Y7 hkr)
            obtain ⟨e0, e1, e2⟩ := one (mvQ Y5 hkr)
            obtain ⟨x0, x1, x2, x3⟩ := row4 (mvQ GXE hkr)
            have v9r := (hkr.cell (p := ⟨bX, oX, none⟩) l9).trans v9
            have l9r := Nat.lt_of_lt_of_le l9 hkr.size
            have lgr := Nat.lt_of_lt_of_le lgE hkr.size
            have hv0 : (0 : Int) ≤ (v : Int) := by omega
            by_cases hlt : v < L
            · have hv1 : (v : Int) < (L : Int) := by omega
              obtain ⟨av, hav⟩ : ∃ av, (m : Int) * capF X v = av := ⟨_, rfl⟩
              obtain ⟨dv, hdv⟩ : ∃ dv, (m : Int) * capF Y v = dv := ⟨_, rfl⟩
              have hcap := HR.out.cap v (by omega)
              have hda : dv ≤ av := by rw [← hav, ← hdv]; exact Int.mul_le_mul_of_nonneg_left hcap.2 (by omega)
              have hd0 : 0 ≤ dv := by rw [← hdv]; exact Int.mul_nonneg (by omega) hcap.1
              obtain ⟨b7, o7, rfl, -, l7, v7⟩ := i64_at (S4.out.keep (Below.agree hkr)) (i := v) (r := av) (by rw [bound_at HR.out.vX.head.1.1 HR.out.vX.head.1.2 (by rw [HR.out.kX, ← HLS.out]; exact hv1), hav])
              obtain ⟨b8, o8, rfl, -, l8, v8⟩ := i64_at (S7.out.keep (Below.agree hkr)) (i := v) (r := dv) (by rw [bound_at HR.out.vY.head.1.1 HR.out.vY.head.1.2 (by rw [HR.out.kY, ← HLS.out]; exact hv1), hdv])
              obtain ⟨bv, hbv⟩ : ∃ bv, (n : Int) * capF x v = bv := ⟨_, rfl⟩
              have hcx : 0 ≤ capF x v := (cap_nn HV.out (v := v) (by omega)).1
              have hab : av ≤ bv := by rw [← hav, ← hbv, HXx.out]; exact Int.mul_le_mul_of_nonneg_right (by omega) hcx
              obtain ⟨b10, o10, rfl, -, l10, v10⟩ := i64_at (S5.out.keep (Below.agree hkr)) (i := v) (r := bv) (by rw [bound_at HV.out.head.1.1 HV.out.head.1.2 (by rw [← HLS.out]; exact hv1), hbv])
              have g3 : decide (bv < av) = false := decide_eq_false (by omega)
              clear hbv hcx hab
              have g1 : decide (av < dv) = false := decide_eq_false (by omega)
              have g2 : decide (dv < 0) = false := decide_eq_false (by omega)
              clear hav hdv hcap hda hd0
              go_wp2_with fail
              go_quiet (fail)
              go_wp2_with fail
              go_quiet (fail)
              go_wp2_with fail
              go_roundw
              case rel => exact ⟨v + 1, by omega, by go_num, Lib.hid (below_drewN hkr _)⟩
              case measure => simp [intOf]; omega
            · have hv1 : ¬ (v : Int) < (L : Int) := by omega
              go_wp2_with fail
              go_ret
              exact ⟨rfl, bW.out.trans (hkr.mono bW.out.size)⟩
      · as_aux_lemma =>
          have E52 := Lib.hid (show P5 = ((boundF x n).1, 0) by rw [E5.out, hokn]; rfl)
          rw [E52.out] at X5E ⊢
          dsimp only at X5E ⊢
          obtain ⟨B5, d5, y5, s5⟩ := X5E.out
          rw [HLN.out] at y5
          have Y5 := Lib.hid y5
          have S5 := Lib.hid s5
          have hm5 := s5.max
          rw [HLN.out] at hm5
          obtain ⟨e0, e1, e2⟩ := one Y5
          have hX0 : 0 < X.fs.length := fs_pos HR.out.vX
          have hXl : X.fs[0]? = some (fl X 0) := by unfold fl; rw [List.getD_eq_getElem?_getD, List.getElem?_eq_getElem hX0]; rfl
          obtain ⟨bX, oX, B9, d9, rfl, -, l9, v9, s9⟩ := flt_at SXE.out hXl
          simp only [Nat.add_zero] at v9
          have hi0 : (0 : Int) < (X.fs.length : Int) := by omega
          have hm9 := s9.max
          have lgE := heap_lt GXE.out
          clear hokn y5 s5 s9 hXl hX0
          have hlen : decide (((fl X 0).length : Int) < 2) = false := decide_eq_false (by omega)
          go_wp2_with fail
          go_loopw [20] (fun i wr => ∃ v : Nat, v ≤ L ∧ i = .int .i64 v ∧ Hid (Below wE.heap.size wE wr)) (fun i _ => L - (intOf i).toNat)
          case atStart => exact ⟨0, Nat.zero_le _, rfl, Lib.hid (Below.refl _ _)⟩
          case round =>
            obtain ⟨v, hv, rfl, hbr⟩ := hrel
            have hkr := hbr.out
            clear a0 a1 a2 c0 c1 c2 e0 e1 e2
            obtain ⟨a0, a1, a2⟩ := one (mvQ Y4 hkr)
            obtain ⟨c0, c1, c2⟩ := one (mvQ Y7 hkr)
            obtain ⟨e0, e1, e2⟩ := one (mvQ Y5 hkr)
            obtain ⟨x0, x1, x2, x3⟩ := row4 (mvQ GXE hkr)
            have v9r := (hkr.cell (p := ⟨bX, oX, none⟩) l9).trans v9
            have l9r := Nat.lt_of_lt_of_le l9 hkr.size
            have lgr := Nat.lt_of_lt_of_le lgE hkr.size
            have hv0 : (0 : Int) ≤ (v : Int) := by omega
            by_cases hlt : v < L
            · have hv1 : (v : Int) < (L : Int) := by omega
              obtain ⟨av, hav⟩ : ∃ av, (m : Int) * capF X v = av := ⟨_, rfl⟩
              obtain ⟨dv, hdv⟩ : ∃ dv, (m : Int) * capF Y v = dv := ⟨_, rfl⟩
              have hcap := HR.out.cap v (by omega)
              have hda : dv ≤ av := by rw [← hav, ← hdv]; exact Int.mul_le_mul_of_nonneg_left hcap.2 (by omega)
              have hd0 : 0 ≤ dv := by rw [← hdv]; exact Int.mul_nonneg (by omega) hcap.1
              obtain ⟨b7, o7, rfl, -, l7, v7⟩ := i64_at (S4.out.keep (Below.agree hkr)) (i := v) (r := av) (by rw [bound_at HR.out.vX.head.1.1 HR.out.vX.head.1.2 (by rw [HR.out.kX, ← HLS.out]; exact hv1), hav])
              obtain ⟨b8, o8, rfl, -, l8, v8⟩ := i64_at (S7.out.keep (Below.agree hkr)) (i := v) (r := dv) (by rw [bound_at HR.out.vY.head.1.1 HR.out.vY.head.1.2 (by rw [HR.out.kY, ← HLS.out]; exact hv1), hdv])
              have g1 : decide (av < dv) = false := decide_eq_false (by omega)
              have g2 : decide (dv < 0) = false := decide_eq_false (by omega)
              clear hav hdv hcap hda hd0
              go_wp2_with fail
              go_quiet (fail)
              go_wp2_with fail
              go_quiet (fail)
              go_wp2_with fail
              go_roundw
              case rel => exact ⟨v + 1, by omega, by go_num, Lib.hid (below_drewN hkr _)⟩
              case measure => simp [intOf]; omega
            · have hv1 : ¬ (v : Int) < (L : Int) := by omega
              go_wp2_with fail
              go_ret
              exact ⟨rfl, bW.out.trans (hkr.mono bW.out.size)⟩
end Go.Proofs.YtihcaoipemcddaaDoor
