/-
  The law 'EvalFilters', walked: it returns true for every input, and nothing that existed changes. No condition.
-/
import Derived.Lib.Mul64
import Derived.Laws.Bits64b
import Derived.Shelf.Bits.Mul64
import Derived.Test.YtmkpaolbejlodaaDoorC1
import Derived.Test.YtmkpaolbejlodaaDoorC2
import Derived.Test.YtmkpaolbejlodaaDoorC3
import Derived.Test.YtmkpaolbejlodaaDoorC4
import Derived.Test.YtmkpaolbejlodaaDoorC5
import Derived.Test.YtmkpaolbejlodaaDoorC6
import Derived.Test.YtmkpaolbejlodaaDoorC7
import Derived.Test.YtmkpaolbejlodaaDoorC8
import Derived.Test.YtmkpaolbejlodaaDoorC9
import Derived.Test.YtmkpaolbejlodaaDoorC10
import Derived.Test.YtmkpaolbejlodaaDoorC11
import Derived.Test.YtmkpaolbejlodaaDoorC12
import Derived.Test.YtmkpaolbejlodaaDoorC13
import Derived.Test.YtmkpaolbejlodaaDoorC14
import Derived.Test.YtmkpaolbejlodaaDoorC15
import Derived.Test.YtmkpaolbejlodaaDoorC17
set_option linter.unusedSimpArgs false
set_option linter.unusedVariables false
namespace Go.Proofs.YtmkpaolbejlodaaDoor
open Go.RowKit

theorem sums_at {q : Qy} {s : Str} {xs : List Int} {n v : Nat} (h : sumsF q (liveF s) = xs) (hn : xs.length = n) (hv : v < n) : xs[v]? = some (totalF q (liveF s) v) := by
  subst h
  exact sumsF_get (by rw [← sumsF_len q (liveF s), hn]; exact hv)
theorem sums_len2 {q : Qy} {s : Str} {xs : List Int} {n : Nat} (h : sumsF q (liveF s) = xs) (hn : nSums q = n) : xs.length = n := by rw [← h, sumsF_len, hn]
theorem set3W {W : World} {g : Nat} {t : TypeId} {a b c u v x : Value} (h : W.heap[g]? = some (.cells #[a, b, c] t (0, 0))) :
    (((W.setCell ⟨g, 0, none⟩ u).setCell ⟨g, 1, none⟩ v).setCell ⟨g, 2, none⟩ x).heap[g]? = some (.cells #[u, v, x] t (0, 0)) :=
  heap_set (i := 2) (heap_set (i := 1) (heap_set (i := 0) h))
theorem sumsQ {q : Qy} {s : Str} {A L G : Option Addr} {cc cl cg f n nl ng : Nat} {kd col kk : Int} {xs : List Int} {S T U : Nat → Prop} (hkd : q.kind = kd) (hcol : q.col = col) (hkk : q.k = kk) (hx : sumsF q (liveF s) = xs) (hf : q.fs.length = f) (hn : xs.length = n) (hnl : s.l.length = nl) (hng : s.g.length = ng)
    (w : World) (hq : ValidQ q) (hw : wideB q = false) (ok : OkStr s) (hl : s.l.length ≤ 1000) (h : Sl cdE.slice S w A cc q.fs) (hL : Sl rdE T w L cl s.l) (hG : Sl .bool U w G cg s.g) :
    Calls Tryd.prog 13 #[.agg #[.int .i64 kd, .int .i64 col, .int .i64 kk, .slice A f cc], .agg #[.slice L nl cl, .slice G ng cg]] w fun e w' => ∃ A c, e = .returned (.slice A n c) ∧ Sl .i64 (fun b => w.heap.size ≤ b) w' A c xs ∧ Below w.heap.size w w' := by
  subst hkd; subst hcol; subst hkk
  exact sumsN hx hf hn hnl hng w hq hw ok hl h hL hG
theorem withN {x Y : Qy} {cx : Cd} {c0 c1 c2 : Int} {B : Option Addr} {d : Nat} {S : Nat → Prop} (hY : setQ x (fl x 0 ++ [cx]) = Y) (h0' : cx.col = c0) (h1' : cx.lo = c1) (h2' : cx.hi = c2) (w : World) (h : Sl cdE.slice S w B d x.fs) (h0 : 0 < x.fs.length) (h2 : x.fs.length ≤ 2) (h3 : (fl x 0).length ≤ 3) :
    Calls Tryd.prog 28 #[.agg #[.int .i64 x.kind, .int .i64 x.col, .int .i64 x.k, .slice B x.fs.length d], .agg #[.int .i64 c0, .int .i64 c1, .int .i64 c2]] w
      fun e w' => ∃ B' d', e = .returned (.agg #[.int .i64 x.kind, .int .i64 x.col, .int .i64 x.k, .slice B' x.fs.length d']) ∧ Sl cdE.slice (fun _ => True) w' B' d' Y.fs ∧ Below w.heap.size w w' := by
  subst hY; subst h0'; subst h1'; subst h2'
  exact withP w h h0 h2 h3
theorem setQ_flen (x : Qy) (l : List Cd) : (setQ x l).fs.length = x.fs.length := by simp [setQ]
theorem app_valid {x : Qy} (hx : ValidQ x) {c : Cd} (hc : ValidCd c) (h : (fl x 0).length ≤ 2) : ValidFlt (fl x 0 ++ [c]) := by
  have h0 : fl x 0 ∈ x.fs := by unfold fl; rw [List.getD_eq_getElem?_getD, List.getElem?_eq_getElem (fs_pos hx)]; exact List.getElem_mem _
  refine ⟨by simp; omega, fun y hy => (List.mem_append.1 hy).elim ((hx.flt _ h0).2 y) (fun h => by rw [List.mem_singleton.1 h]; exact hc)⟩
theorem whole_valid {c : Cd} (hc : ValidCd c) : ValidCd (wholeC c.col) := by
  obtain ⟨⟨h1, h2⟩, h3, h4, h5⟩ := hc
  have hm : 0 ≤ maxC c.col := by unfold maxC; split <;> decide
  exact ⟨⟨h1, h2⟩, by show (0 : Int) ≤ 0; omega, hm, Int.le_refl _⟩
def evL7A : List FRow := [(0, ([], (37, [10]))), (1, ([0], (38, [36]))), (2, ([], (39, [10]))), (3, ([2], (40, [38]))), (4, ([3], (41, [39]))), (5, ([1, 4], (42, [37, 40]))), (6, ([], (12, []))), (7, ([6, 5, 4, 0, 1, 2, 3, 4, 5, 6], (0, [11, 41])))]
def evL7B : List FRow := [(0, ([], (46, [8]))), (1, ([], (47, [10]))), (2, ([0, 1], (48, [45, 46]))), (3, ([], (49, [9]))), (4, ([2, 3, 2], (50, [47, 48]))), (5, ([4, 4, 0, 1, 2, 3, 4], (14, [49])))]
def evL7C : List FRow := [(0, ([], (51, [8]))), (1, ([], (52, [11]))), (2, ([0, 1], (53, [50, 51]))), (3, ([], (54, [9]))), (4, ([2, 3, 2], (55, [52, 53]))), (5, ([4, 4, 0, 1, 2, 3, 4], (15, [54])))]
set_option maxRecDepth 100000 in
set_option maxHeartbeats 8000000 in
theorem walk_EvalFilters {q : Qy} {l : List ROp} {cd : Cd} {A L : Option Addr} {c cl : Nat} (w : World) (h : Sl cdE.slice (fun _ => True) w A c q.fs) (hl : Sl ropE (fun _ => True) w L cl l) :
    Calls Tryd.prog 9 #[(.agg #[.int .i64 q.kind, .int .i64 q.col, .int .i64 q.k, .slice A q.fs.length c]), .slice L l.length cl, .agg #[.int .i64 cd.col, .int .i64 cd.lo, .int .i64 cd.hi]] w fun e w' => e = .returned (.bool true) ∧ Below w.heap.size w w' := by
  have H := Lib.hid h
  have HL := Lib.hid hl
  have hq63 := h.max
  have hl63 := hl.max
  clear h hl
  go_enter Tryd.func9, Tryd.ntmps9
  go_upto_region 1 with fail
  refine wp_world (F := fun wx => Below w.heap.size w wx ∧ Hid (wx.heap[w.heap.size]? = some (.cells #[.int .i64 q.kind, .int .i64 q.col, .int .i64 q.k, .slice A q.fs.length c] 24 (0, 0))) ∧ Hid (wx.heap[w.heap.size + 1]? = some (.cells #[.int .i64 cd.col, .int .i64 cd.lo, .int .i64 cd.hi] 58 (0, 0)))) ⟨(by repeat' (first | with_reducible exact Below.refl _ _ | with_reducible assumption | with_reducible refine Below.setCell ?_ ?_ _ | with_reducible refine Below.drew ?_ | with_reducible refine below_drewN ?_ _ | with_reducible refine Below.alloc ?_ ?_ _ | (rintro _ ⟨⟩; simp <;> omega) | omega | (simp <;> omega))), Lib.hid ((Below.heap_alloc _ _ _ (by simp)).trans (heap_alloc_at rfl)), Lib.hid (heap_alloc_at (by simp))⟩ ?_
  rintro w1 ⟨bb, gq, gd⟩
  have b1 := Lib.hid bb
  clear bb
  go_upto_region 2 with (go_at_call 10; refine (sanityL15 _).mono ?_; rintro e w2 ⟨rfl, hb2⟩; have b2 := Lib.hid (b1.out.trans (hb2.mono b1.out.size)); have gq2 := mvQ gq hb2; have gd2 := mvQ gd hb2; clear hb2)
  obtain ⟨x0, x1, x2, x3⟩ := row4 gq2
  have H2 := Lib.hid (H.out.keep (Below.agree b2.out))
  have HL2 := Lib.hid (HL.out.keep (Below.agree b2.out))
  clear gq gd b1 H HL
  go_cut [8] (fun p wx => ∃ (g : Nat) (x : Qy) (B : Option Addr) (d : Nat), p = .pointer (some ⟨g, 0, none⟩) ∧ ValidQ x ∧ wideB x = false ∧ Hid (wx.heap[g]? = some (.cells #[.int .i64 x.kind, .int .i64 x.col, .int .i64 x.k, .slice B x.fs.length d] 24 (0, 0))) ∧ Sl cdE.slice (fun _ => True) wx B d x.fs ∧ Below w2.heap.size w2 wx)
  case first =>
    go_wp2_with (go_at_call 11; refine (made15P (q := q) _ H2.out).mono ?_; rintro e wC ⟨x, hv, hnw, B, d, rfl, hs, hbC⟩; have HC := Lib.hid hs; have bC := Lib.hid hbC; have HV := Lib.hid hv; have HN := Lib.hid hnw; clear hs hbC hv hnw)
    go_meet
    case rel => exact ⟨_, x, B, d, rfl, HV.out, HN.out, Lib.hid (heap_alloc_at rfl), (HC.out.sub (fun _ _ _ => trivial)).keep ((Agree.refl _ _).alloc _), bC.out.alloc bC.out.size _⟩
  obtain ⟨g, x, B, d, rfl, hv, hnw, gx, hs, hb⟩ := hcut
  obtain ⟨w3, hwv⟩ : ∃ x, x = wc := ⟨_, rfl⟩
  subst hwv
  have HV := Lib.hid hv
  have HNW := Lib.hid hnw
  have b3 := Lib.hid (b2.out.trans (hb.mono b2.out.size))
  have F3 := Lib.hid hs
  have gd3 := mvQ gd2 hb
  have HL3 := Lib.hid (HL2.out.keep (Below.agree hb))
  clear hv hnw hs hb x0 x1 x2 x3 gq2 gd2 b2 H2 HL2
  obtain ⟨s, hs⟩ : ∃ s, madeF 20 l = s := ⟨_, rfl⟩
  have hok := madeF_ok 20 l
  rw [hs] at hok
  have HMSs := Lib.hid hs
  have HOKs := Lib.hid hok.1
  have hls := hok.2
  have hls1000 : s.l.length ≤ 1000 := by omega
  clear hs hok
  go_upto_region 3 with fail
  go_cut [9] (fun p wx => ∃ g, p = .pointer (some ⟨g, 0, none⟩) ∧ StB wx g s s.l.length s.g.length ∧ Below w3.heap.size w3 wx)
  case first =>
    go_wp2_with (go_at_call 12; refine (madeR (most := 20) (l := l) _ HL3.out (by omega)).mono ?_; rw [HMSs.out]; rintro e wC ⟨A', c', B', d', rfl, h1, h2, hbC⟩; have H1 := Lib.hid h1; have H2 := Lib.hid h2; have bC := Lib.hid hbC; clear h1 h2 hbC)
    go_meet
    case rel => exact ⟨_, rfl, ⟨A', c', B', d', heap_alloc_at rfl, (H1.out.alloc_ _).sub (fun _ _ _ => trivial), (H2.out.alloc_ _).sub (fun _ _ _ => trivial)⟩, bC.out.alloc bC.out.size _⟩
  obtain ⟨gs, rfl, hst, hb⟩ := hcut
  obtain ⟨w4, hwv⟩ : ∃ x, x = wc := ⟨_, rfl⟩
  subst hwv
  have Ss := Lib.hid hst
  have b4 := Lib.hid (b3.out.trans (hb.mono b3.out.size))
  replace F3 := mvF F3 hb
  replace gx := mvQ gx hb
  replace gd3 := mvQ gd3 hb
  clear hst hb b3 HL3
  have hf0 := fs_pos HV.out
  have hf2 : x.fs.length ≤ 2 := by rw [HV.out.head.2.2.2.2.2.2]; unfold nFilF; split <;> omega
  have hl0 : x.fs[0]? = some (fl x 0) := by unfold fl; rw [List.getD_eq_getElem?_getD, List.getElem?_eq_getElem hf0]; rfl
  have hfv := (HV.out.flt _ (List.mem_of_getElem? hl0)).1
  obtain ⟨b0, o0, C0, d0, rfl, -, l0, u0, hc0⟩ := flt_at F3.out hl0
  simp only [Nat.add_zero] at u0
  have hi0 : (0 : Int) < (x.fs.length : Int) := by omega
  have hne0 : ((x.fs.length : Int) == 0) = false := by rw [beq_eq_false_iff_ne]; omega
  have hne1 : ¬ (x.fs.length : Int) = 0 := by omega
  have hnil : (x.fs = []) = False := eq_false (fun e => by rw [e] at hf0; simp at hf0)
  obtain ⟨x0, x1, x2, x3⟩ := row4 gx
  have hm0 := hc0.max
  clear hc0
  by_cases hl2 : 2 < (fl x 0).length
  case pos =>
    have g2 : (2 : Int) < ((fl x 0).length : Int) := by omega
    go_wp2_with fail
    go_ret
    exact ⟨rfl, b4.out⟩
  have g2 : ¬ (2 : Int) < ((fl x 0).length : Int) := by omega
  go_upto_region 6 with fail
  clear x0 x1 x2 x3 u0 l0 hi0 hne0 hne1 hnil hm0 g2 hl0
  obtain ⟨c0, c1, c2⟩ := row3W gd3
  go_cut [10] (fun p wx => ∃ (g : Nat) (y : Cd), p = .pointer (some ⟨g, 0, none⟩) ∧ ValidCd y ∧ Hid (wx.heap[g]? = some (.cells #[.int .i64 y.col, .int .i64 y.lo, .int .i64 y.hi] 58 (0, 0))) ∧ Below w4.heap.size w4 wx)
  case first =>
    go_wp2_with (go_at_call 26; refine (madeCdP cd _).mono ?_; rintro e wD ⟨y, hy, rfl, hbD⟩; have HY := Lib.hid hy; have bD := Lib.hid hbD; clear hy hbD)
    go_meet
    case rel => exact ⟨_, y, rfl, HY.out, Lib.hid (heap_alloc_at rfl), bD.out.alloc bD.out.size _⟩
  obtain ⟨gy, y, rfl, hy, gY, hb⟩ := hcut
  obtain ⟨w5, hwv⟩ : ∃ x, x = wc := ⟨_, rfl⟩
  subst hwv
  have VY := Lib.hid hy
  have b5 := Lib.hid (b4.out.trans (hb.mono b4.out.size))
  replace F3 := mvF F3 hb
  replace gx := mvQ gx hb
  replace Ss := mvSt Ss hb
  clear hy hb b4 c0 c1 c2 gd3
  obtain ⟨mx, hmx⟩ : ∃ m, maxC y.col = m := ⟨_, rfl⟩
  have HMX := Lib.hid hmx
  have HW0 := Lib.hid (show (wholeC y.col).col = y.col from rfl)
  have HW1 := Lib.hid (show (wholeC y.col).lo = 0 from rfl)
  have HW2 := Lib.hid (show (wholeC y.col).hi = mx from hmx)
  clear hmx
  have zy : ∀ W, Below w5.heap.size w5 W → _ ∧ _ ∧ _ := fun W hW => row3W (mvQ gY hW)
  have lgY := heap_lt gY.out
  have br : Below w5.heap.size w5 w5 := Below.refl _ _
  have ba : ∀ W o, Below w5.heap.size w5 W → Below w5.heap.size w5 (W.alloc o) := fun W o h => h.alloc h.size o
  have bc : ∀ W W', Below w5.heap.size w5 W → Below W.heap.size W W' → Below w5.heap.size w5 W' := fun W W' h k => h.trans (k.mono h.size)
  go_upto_region 7 with fail
  go_cut [11] (fun p wx => ∃ g : Nat, p = .pointer (some ⟨g, 0, none⟩) ∧ Hid (wx.heap[g]? = some (.cells #[.int .i64 y.col, .int .i64 0, .int .i64 mx] 58 (0, 0))) ∧ Below w5.heap.size w5 wx)
  case first =>
    refine wp_region_noPanic ?_
    refine wp_region_held_drew (S := fun X => Below w5.heap.size w5 X) (by kernel_rfl) ?_ (fun hHeld => ?_)
    · (first | (repeat' (first | with_reducible assumption | exact Nat.le_refl _ | with_reducible refine Below.setCell ?_ ?_ _ | with_reducible refine Below.drew ?_ | with_reducible refine ba _ _ ?_ | omega | (simp <;> omega))) | (first | with_reducible assumption | (with_reducible refine Below.drew ?_; with_reducible assumption) | (with_reducible refine ba _ _ ?_; with_reducible assumption) | (with_reducible refine Below.drew ?_; with_reducible refine ba _ _ ?_; with_reducible assumption) | exact Below.refl _ _ | exact (Below.refl _ _).drew | exact (Below.refl _ _).alloc (Nat.le_refl _) _ | (refine bc _ _ (by assumption) (by assumption))))
    refine RegOk.begin_ (n := 8) (T := evL7A) ⟨by kernel_rfl, by kernel_rfl, by kernel_rfl, by kernel_rfl⟩ fun hR => ?_
    refine hR.take (i := 0) (oi := ?ow886_0) (v := ?vw886_0) (m' := 1) ?hw886_0 (by kernel_rfl) (by kernel_rfl) (fun _ _ _ h => h) (Or.inl ⟨?sw886_0, ?yw886_0⟩) (by assumption) ?nw886_0
    case hw886_0 => simp only [List.getElem?_toArray, List.getElem?_cons_succ, List.getElem?_cons_zero]; rfl
    case sw886_0 => rfl
    case yw886_0 => (intro w hSw; (try dsimp only at hSw); go_simp <;> with_reducible rfl)
    try simp only [Act.put, List.setIfInBounds_toArray, List.set_cons_zero, List.set_cons_succ]
    refine hR.take (i := 1) (oi := ?ow887_1) (v := ?vw887_1) (m' := 3) ?hw887_1 (by kernel_rfl) (by kernel_rfl) (fun _ _ _ h => h) (Or.inl ⟨?sw887_1, ?yw887_1⟩) (by assumption) ?nw887_1
    case hw887_1 => simp only [List.getElem?_toArray, List.getElem?_cons_succ, List.getElem?_cons_zero]; rfl
    case sw887_1 => rfl
    case yw887_1 => (intro w hSw; (try dsimp only at hSw); go_simp <;> with_reducible rfl)
    try simp only [Act.put, List.setIfInBounds_toArray, List.set_cons_zero, List.set_cons_succ]
    refine hR.take (i := 2) (oi := ?ow888_2) (v := ?vw888_2) (m' := 7) ?hw888_2 (by kernel_rfl) (by kernel_rfl) (fun _ _ _ h => h) (Or.inl ⟨?sw888_2, ?yw888_2⟩) (by assumption) ?nw888_2
    case hw888_2 => simp only [List.getElem?_toArray, List.getElem?_cons_succ, List.getElem?_cons_zero]; rfl
    case sw888_2 => rfl
    case yw888_2 => (intro w hSw; (try dsimp only at hSw); go_simp <;> with_reducible rfl)
    try simp only [Act.put, List.setIfInBounds_toArray, List.set_cons_zero, List.set_cons_succ]
    refine hR.take (i := 3) (oi := ?ow889_3) (v := ?vw889_3) (m' := 15) ?hw889_3 (by kernel_rfl) (by kernel_rfl) (fun _ _ _ h => h) (Or.inl ⟨?sw889_3, ?yw889_3⟩) (by assumption) ?nw889_3
    case hw889_3 => simp only [List.getElem?_toArray, List.getElem?_cons_succ, List.getElem?_cons_zero]; rfl
    case sw889_3 => rfl
    case yw889_3 => (intro w hSw; (try dsimp only at hSw); go_simp <;> with_reducible rfl)
    try simp only [Act.put, List.setIfInBounds_toArray, List.set_cons_zero, List.set_cons_succ]
    refine hR.come (rs := [4, 6]) (by kernel_rfl) (by simp) ?_
    refine AllReadyH.cons (o := ?o890_4) ?h890_4 (fun K hK => ?kw890_4) (AllReadyH.cons (o := ?o890_6) ?h890_6 (fun K hK => ?kw890_6) AllReadyH.nil)
    case h890_4 => simp only [List.getElem?_toArray, List.getElem?_cons_succ, List.getElem?_cons_zero]; rfl
    case h890_6 => simp only [List.getElem?_toArray, List.getElem?_cons_succ, List.getElem?_cons_zero]; rfl
    case kw890_4 =>
      go_simp
      go_at_call 27; refine (maxRef _ _).mono ?_; rw [HMX.out]; rintro e w6 ⟨rfl, rfl⟩
      refine hK.out _ _ ?_ (fun hHeld => ?_)
      · (first | (repeat' (first | with_reducible assumption | exact Nat.le_refl _ | with_reducible refine Below.setCell ?_ ?_ _ | with_reducible refine Below.drew ?_ | with_reducible refine ba _ _ ?_ | omega | (simp <;> omega))) | (first | with_reducible assumption | (with_reducible refine Below.drew ?_; with_reducible assumption) | (with_reducible refine ba _ _ ?_; with_reducible assumption) | (with_reducible refine Below.drew ?_; with_reducible refine ba _ _ ?_; with_reducible assumption) | exact Below.refl _ _ | exact (Below.refl _ _).drew | exact (Below.refl _ _).alloc (Nat.le_refl _) _ | (refine bc _ _ (by assumption) (by assumption))))
      clear hK K
      refine RegOk.put_ (m' := 31) (by kernel_rfl) ?_
      try simp only [Act.put, List.setIfInBounds_toArray, List.set_cons_zero, List.set_cons_succ]
      refine hR.take (i := 5) (oi := ?ow891_5) (v := ?vw891_5) (m' := 63) ?hw891_5 (by kernel_rfl) (by kernel_rfl) (fun _ _ _ h => h) (Or.inl ⟨?sw891_5, ?yw891_5⟩) (by assumption) ?nw891_5
      case hw891_5 => simp only [List.getElem?_toArray, List.getElem?_cons_succ, List.getElem?_cons_zero]; rfl
      case sw891_5 => rfl
      case yw891_5 => (intro w hSw; (try dsimp only at hSw); go_simp <;> with_reducible rfl)
      try simp only [Act.put, List.setIfInBounds_toArray, List.set_cons_zero, List.set_cons_succ]
      refine hR.come (rs := [6]) (by kernel_rfl) (by simp) ?_
      refine AllReadyH.cons (o := ?o892_6) ?h892_6 (fun K hK => ?kw892_6) AllReadyH.nil
      case h892_6 => simp only [List.getElem?_toArray, List.getElem?_cons_succ, List.getElem?_cons_zero]; rfl
      go_simp <;> (try go_wp2_with fail)
      refine hK.out _ _ ?_ (fun hHeld => ?_)
      · (first | (repeat' (first | with_reducible assumption | exact Nat.le_refl _ | with_reducible refine Below.setCell ?_ ?_ _ | with_reducible refine Below.drew ?_ | with_reducible refine ba _ _ ?_ | omega | (simp <;> omega))) | (first | with_reducible assumption | (with_reducible refine Below.drew ?_; with_reducible assumption) | (with_reducible refine ba _ _ ?_; with_reducible assumption) | (with_reducible refine Below.drew ?_; with_reducible refine ba _ _ ?_; with_reducible assumption) | exact Below.refl _ _ | exact (Below.refl _ _).drew | exact (Below.refl _ _).alloc (Nat.le_refl _) _ | (refine bc _ _ (by assumption) (by assumption))))
      clear hK K
      refine RegOk.put_ (m' := 127) (by kernel_rfl) ?_
      try simp only [Act.put, List.setIfInBounds_toArray, List.set_cons_zero, List.set_cons_succ]
      refine hR.come (rs := [7]) (by kernel_rfl) (by simp) ?_
      refine AllReadyH.cons (o := ?o893_7) ?h893_7 (fun K hK => ?kw893_7) AllReadyH.nil
      case h893_7 => simp only [List.getElem?_toArray, List.getElem?_cons_succ, List.getElem?_cons_zero]; rfl
      go_simp <;> (try go_wp2_with fail)
      refine hK.out _ _ ?_ (fun hHeld => ?_)
      · (first | (repeat' (first | with_reducible assumption | exact Nat.le_refl _ | with_reducible refine Below.setCell ?_ ?_ _ | with_reducible refine Below.drew ?_ | with_reducible refine ba _ _ ?_ | omega | (simp <;> omega))) | (first | with_reducible assumption | (with_reducible refine Below.drew ?_; with_reducible assumption) | (with_reducible refine ba _ _ ?_; with_reducible assumption) | (with_reducible refine Below.drew ?_; with_reducible refine ba _ _ ?_; with_reducible assumption) | exact Below.refl _ _ | exact (Below.refl _ _).drew | exact (Below.refl _ _).alloc (Nat.le_refl _) _ | (refine bc _ _ (by assumption) (by assumption))))
      clear hK K
      refine RegOk.put_ (m' := 255) (by kernel_rfl) ?_
      try simp only [Act.put, List.setIfInBounds_toArray, List.set_cons_zero, List.set_cons_succ]
      refine hR.all (by kernel_rfl) ?_ _
      refine NoPanic.normal ?_
      go_wp2_with fail
      go_meet
      case rel =>
        refine ⟨_, rfl, Lib.hid ?_, (by (first | with_reducible assumption | (with_reducible refine Below.drew ?_; with_reducible assumption) | (with_reducible refine ba _ _ ?_; with_reducible assumption) | (with_reducible refine Below.drew ?_; with_reducible refine ba _ _ ?_; with_reducible assumption) | exact Below.refl _ _ | exact (Below.refl _ _).drew | exact (Below.refl _ _).alloc (Nat.le_refl _) _ | (refine bc _ _ (by assumption) (by assumption))))⟩
        (repeat' (first | with_reducible assumption | (with_reducible refine heap_alloc_at ?_; (first | rfl | (simp [World.setCell]; done))) | with_reducible refine set3W (a := .int .i64 0) (b := .int .i64 0) (c := .int .i64 0) ?_ | (with_reducible refine (Below.heap_alloc _ _ _ ?_).trans ?_) | (with_reducible refine drew_get2 ?_) | (simp [World.setCell]; done) | omega | (simp [World.setCell] <;> omega)))
    case kw890_6 =>
      go_simp <;> (try go_wp2_with fail)
      refine hK.out _ _ ?_ (fun hHeld => ?_)
      · (first | (repeat' (first | with_reducible assumption | exact Nat.le_refl _ | with_reducible refine Below.setCell ?_ ?_ _ | with_reducible refine Below.drew ?_ | with_reducible refine ba _ _ ?_ | omega | (simp <;> omega))) | (first | with_reducible assumption | (with_reducible refine Below.drew ?_; with_reducible assumption) | (with_reducible refine ba _ _ ?_; with_reducible assumption) | (with_reducible refine Below.drew ?_; with_reducible refine ba _ _ ?_; with_reducible assumption) | exact Below.refl _ _ | exact (Below.refl _ _).drew | exact (Below.refl _ _).alloc (Nat.le_refl _) _ | (refine bc _ _ (by assumption) (by assumption))))
      clear hK K
      refine RegOk.put_ (m' := 79) (by kernel_rfl) ?_
      try simp only [Act.put, List.setIfInBounds_toArray, List.set_cons_zero, List.set_cons_succ]
      refine hR.come (rs := [4]) (by kernel_rfl) (by simp) ?_
      refine AllReadyH.cons (o := ?o894_4) ?h894_4 (fun K hK => ?kw894_4) AllReadyH.nil
      case h894_4 => simp only [List.getElem?_toArray, List.getElem?_cons_succ, List.getElem?_cons_zero]; rfl
      go_simp
      go_at_call 27; refine (maxRef _ _).mono ?_; rw [HMX.out]; rintro e w6 ⟨rfl, rfl⟩
      refine hK.out _ _ ?_ (fun hHeld => ?_)
      · (first | (repeat' (first | with_reducible assumption | exact Nat.le_refl _ | with_reducible refine Below.setCell ?_ ?_ _ | with_reducible refine Below.drew ?_ | with_reducible refine ba _ _ ?_ | omega | (simp <;> omega))) | (first | with_reducible assumption | (with_reducible refine Below.drew ?_; with_reducible assumption) | (with_reducible refine ba _ _ ?_; with_reducible assumption) | (with_reducible refine Below.drew ?_; with_reducible refine ba _ _ ?_; with_reducible assumption) | exact Below.refl _ _ | exact (Below.refl _ _).drew | exact (Below.refl _ _).alloc (Nat.le_refl _) _ | (refine bc _ _ (by assumption) (by assumption))))
      clear hK K
      refine RegOk.put_ (m' := 95) (by kernel_rfl) ?_
      try simp only [Act.put, List.setIfInBounds_toArray, List.set_cons_zero, List.set_cons_succ]
      refine hR.take (i := 5) (oi := ?ow895_5) (v := ?vw895_5) (m' := 127) ?hw895_5 (by kernel_rfl) (by kernel_rfl) (fun _ _ _ h => h) (Or.inl ⟨?sw895_5, ?yw895_5⟩) (by assumption) ?nw895_5
      case hw895_5 => simp only [List.getElem?_toArray, List.getElem?_cons_succ, List.getElem?_cons_zero]; rfl
      case sw895_5 => rfl
      case yw895_5 => (intro w hSw; (try dsimp only at hSw); go_simp <;> with_reducible rfl)
      try simp only [Act.put, List.setIfInBounds_toArray, List.set_cons_zero, List.set_cons_succ]
      refine hR.come (rs := [7]) (by kernel_rfl) (by simp) ?_
      refine AllReadyH.cons (o := ?o896_7) ?h896_7 (fun K hK => ?kw896_7) AllReadyH.nil
      case h896_7 => simp only [List.getElem?_toArray, List.getElem?_cons_succ, List.getElem?_cons_zero]; rfl
      go_simp <;> (try go_wp2_with fail)
      refine hK.out _ _ ?_ (fun hHeld => ?_)
      · (first | (repeat' (first | with_reducible assumption | exact Nat.le_refl _ | with_reducible refine Below.setCell ?_ ?_ _ | with_reducible refine Below.drew ?_ | with_reducible refine ba _ _ ?_ | omega | (simp <;> omega))) | (first | with_reducible assumption | (with_reducible refine Below.drew ?_; with_reducible assumption) | (with_reducible refine ba _ _ ?_; with_reducible assumption) | (with_reducible refine Below.drew ?_; with_reducible refine ba _ _ ?_; with_reducible assumption) | exact Below.refl _ _ | exact (Below.refl _ _).drew | exact (Below.refl _ _).alloc (Nat.le_refl _) _ | (refine bc _ _ (by assumption) (by assumption))))
      clear hK K
      refine RegOk.put_ (m' := 255) (by kernel_rfl) ?_
      try simp only [Act.put, List.setIfInBounds_toArray, List.set_cons_zero, List.set_cons_succ]
      refine hR.all (by kernel_rfl) ?_ _
      refine NoPanic.normal ?_
      go_wp2_with fail
      go_meet
      case rel =>
        refine ⟨_, rfl, Lib.hid ?_, (by (first | with_reducible assumption | (with_reducible refine Below.drew ?_; with_reducible assumption) | (with_reducible refine ba _ _ ?_; with_reducible assumption) | (with_reducible refine Below.drew ?_; with_reducible refine ba _ _ ?_; with_reducible assumption) | exact Below.refl _ _ | exact (Below.refl _ _).drew | exact (Below.refl _ _).alloc (Nat.le_refl _) _ | (refine bc _ _ (by assumption) (by assumption))))⟩
        (repeat' (first | with_reducible assumption | (with_reducible refine heap_alloc_at ?_; (first | rfl | (simp [World.setCell]; done))) | with_reducible refine set3W (a := .int .i64 0) (b := .int .i64 0) (c := .int .i64 0) ?_ | (with_reducible refine (Below.heap_alloc _ _ _ ?_).trans ?_) | (with_reducible refine drew_get2 ?_) | (simp [World.setCell]; done) | omega | (simp [World.setCell] <;> omega)))
  obtain ⟨gw, rfl, gW, hb⟩ := hcut
  obtain ⟨w6, hwv⟩ : ∃ x, x = wc := ⟨_, rfl⟩
  subst hwv
  have b6 := Lib.hid (b5.out.trans (hb.mono b5.out.size))
  replace F3 := mvF F3 hb
  replace gx := mvQ gx hb
  replace Ss := mvSt Ss hb
  replace gY := mvQ gY hb
  clear hb b5 zy lgY br ba bc
  obtain ⟨Y, hY⟩ : ∃ Y, setQ x (fl x 0 ++ [y]) = Y := ⟨_, rfl⟩
  obtain ⟨Z, hZ⟩ : ∃ Z, setQ x (fl x 0 ++ [wholeC y.col]) = Z := ⟨_, rfl⟩
  have HYq := Lib.hid hY
  have HZq := Lib.hid hZ
  have hl2' : (fl x 0).length ≤ 2 := by omega
  have VYq := Lib.hid (show ValidQ Y by rw [← hY]; exact setQ_valid HV.out (app_valid HV.out VY.out hl2'))
  have VZq := Lib.hid (show ValidQ Z by rw [← hZ]; exact setQ_valid HV.out (app_valid HV.out (whole_valid VY.out) hl2'))
  have WYq := Lib.hid (show wideB Y = false by rw [← hY]; exact HNW.out)
  have WZq := Lib.hid (show wideB Z = false by rw [← hZ]; exact HNW.out)
  have EY := Lib.hid (show Y.kind = x.kind ∧ Y.col = x.col ∧ Y.k = x.k ∧ Y.fs.length = x.fs.length by rw [← hY]; exact ⟨rfl, rfl, rfl, setQ_flen _ _⟩)
  have EZ := Lib.hid (show Z.kind = x.kind ∧ Z.col = x.col ∧ Z.k = x.k ∧ Z.fs.length = x.fs.length by rw [← hZ]; exact ⟨rfl, rfl, rfl, setQ_flen _ _⟩)
  obtain ⟨N, hN⟩ : ∃ N, nSums x = N := ⟨_, rfl⟩
  obtain ⟨xs, hxs⟩ : ∃ xs, sumsF x (liveF s) = xs := ⟨_, rfl⟩
  obtain ⟨ys, hys⟩ : ∃ ys, sumsF Y (liveF s) = ys := ⟨_, rfl⟩
  have hNY : nSums Y = N := by rw [← hN]; unfold nSums; rw [EY.out.1]
  have hNZ : nSums Z = N := by rw [← hN]; unfold nSums; rw [EZ.out.1]
  have hzs : sumsF Z (liveF s) = xs := by
    rw [← hxs]
    unfold sumsF
    rw [hNZ, hN]
    exact List.map_congr_left fun v _ => by rw [← hZ]; exact total_whole HV.out _ v (live_valid HOKs.out)
  have HXxs := Lib.hid hxs
  have HXys := Lib.hid hys
  have HXzs := Lib.hid hzs
  have HNxs := Lib.hid (sums_len2 hxs hN)
  have HNys := Lib.hid (sums_len2 hys hNY)
  have HTB := Lib.hid (show ∀ v, 0 ≤ totalF Y (liveF s) v ∧ totalF Y (liveF s) v ≤ totalF x (liveF s) v from fun v => by rw [← hY]; exact total_set HV.out y v (live_valid HOKs.out))
  have hN32 : N ≤ 32 := by have := (nSums_le HV.out).1; omega
  clear hxs hys hzs hN hNY hNZ hY hZ
  obtain ⟨x0, x1, x2, x3⟩ := row4 gx
  obtain ⟨L, cl, G, cg, hg, hsL, hsG⟩ := Ss.out
  obtain ⟨s0, s1⟩ := two2 (Lib.hid hg)
  have HSL := Lib.hid hsL
  have HSG := Lib.hid hsG
  clear hg hsL hsG
  go_upto_region 8 with fail
  go_cut [12] (fun v wx => ∃ A c, v = .slice A N c ∧ Sl .i64 (fun _ => True) wx A c xs ∧ Below w6.heap.size w6 wx)
  case first =>
    go_wp2_with (go_at_call 13; refine (sumsN (q := x) (s := s) HXxs.out rfl HNxs.out rfl rfl _ HV.out HNW.out HOKs.out hls1000 F3.out HSL.out HSG.out).mono ?_; rintro e wC ⟨A, c, rfl, h1, hbC⟩; have H1 := Lib.hid h1; have bC := Lib.hid hbC; clear h1 hbC)
    go_meet
    case rel => exact ⟨_, _, rfl, H1.out.sub (fun _ _ _ => trivial), bC.out⟩
  obtain ⟨A12, c12, rfl, hs, hb⟩ := hcut
  obtain ⟨w7, hwv⟩ : ∃ x, x = wc := ⟨_, rfl⟩
  subst hwv
  have I12 := Lib.hid hs
  have b7 := Lib.hid (b6.out.trans (hb.mono b6.out.size))
  replace F3 := mvF F3 hb
  replace gx := mvQ gx hb
  replace Ss := mvSt Ss hb
  replace gY := mvQ gY hb
  replace gW := mvQ gW hb
  clear hs hb b6 HSL HSG s0 s1 x0 x1 x2 x3
  obtain ⟨La, cla, Ga, cga, hga, hsLa, hsGa⟩ := Ss.out
  have ga := Lib.hid hga
  have za : ∀ W, Below w7.heap.size w7 W → _ ∧ _ := fun W hW => two2 (mvQ ga hW)
  have zx : ∀ W, Below w7.heap.size w7 W → _ ∧ _ ∧ _ ∧ _ := fun W hW => row4 (mvQ gx hW)
  have zc : ∀ W, Below w7.heap.size w7 W → _ ∧ _ ∧ _ := fun W hW => row3W (mvQ gY hW)
  have HLa := Lib.hid hsLa
  have HGa := Lib.hid hsGa
  have lga := heap_lt hga
  have lgx := heap_lt gx.out
  have lgc := heap_lt gY.out
  clear hga hsLa hsGa
  go_upto_region 9 with fail
  go_cut [13] (fun v wx => ∃ A c, v = .slice A N c ∧ Sl .i64 (fun _ => True) wx A c ys ∧ Below w7.heap.size w7 wx)
  case first =>
    have br : Below w7.heap.size w7 w7 := Below.refl _ _
    have ba : ∀ W o, Below w7.heap.size w7 W → Below w7.heap.size w7 (W.alloc o) := fun W o h => h.alloc h.size o
    have bc : ∀ W W', Below w7.heap.size w7 W → Below W.heap.size W W' → Below w7.heap.size w7 W' := fun W W' h k => h.trans (k.mono h.size)
    refine wp_region_noPanic ?_
    refine wp_region_held_drew (S := fun X => Below w7.heap.size w7 X) (by kernel_rfl) ?_ (fun hHeld => ?_)
    · (first | (repeat' (first | with_reducible assumption | exact Nat.le_refl _ | with_reducible refine Below.drew ?_ | with_reducible refine ba _ _ ?_ | omega | (simp <;> omega))) | (first | with_reducible assumption | (with_reducible refine Below.drew ?_; with_reducible assumption) | (with_reducible refine ba _ _ ?_; with_reducible assumption) | (with_reducible refine Below.drew ?_; with_reducible refine ba _ _ ?_; with_reducible assumption) | exact Below.refl _ _ | exact (Below.refl _ _).drew | exact (Below.refl _ _).alloc (Nat.le_refl _) _ | (refine bc _ _ (by assumption) (by assumption))))
    refine RegOk.begin_ (n := 6) (T := evL7B) ⟨by kernel_rfl, by kernel_rfl, by kernel_rfl, by kernel_rfl⟩ fun hR => ?_
    refine hR.take (i := 0) (oi := ?ow897_0) (v := ?vw897_0) (m' := 1) ?hw897_0 (by kernel_rfl) (by kernel_rfl) (fun _ _ _ h => h) (Or.inl ⟨?sw897_0, ?yw897_0⟩) (by assumption) ?nw897_0
    case hw897_0 => simp only [List.getElem?_toArray, List.getElem?_cons_succ, List.getElem?_cons_zero]; rfl
    case sw897_0 => rfl
    case yw897_0 => (intro w hSw; (try dsimp only at hSw); go_simp <;> with_reducible rfl)
    try simp only [Act.put, List.setIfInBounds_toArray, List.set_cons_zero, List.set_cons_succ]
    refine hR.take (i := 1) (oi := ?ow898_1) (v := ?vw898_1) (m' := 3) ?hw898_1 (by kernel_rfl) (by kernel_rfl) (fun _ _ _ h => h) (Or.inl ⟨?sw898_1, ?yw898_1⟩) (by assumption) ?nw898_1
    case hw898_1 => simp only [List.getElem?_toArray, List.getElem?_cons_succ, List.getElem?_cons_zero]; rfl
    case sw898_1 => rfl
    case yw898_1 => (intro w hSw; (try dsimp only at hSw); go_simp <;> with_reducible rfl)
    try simp only [Act.put, List.setIfInBounds_toArray, List.set_cons_zero, List.set_cons_succ]
    refine hR.take (i := 3) (oi := ?ow899_3) (v := ?vw899_3) (m' := 11) ?hw899_3 (by kernel_rfl) (by kernel_rfl) (fun _ _ _ h => h) (Or.inl ⟨?sw899_3, ?yw899_3⟩) (by assumption) ?nw899_3
    case hw899_3 => simp only [List.getElem?_toArray, List.getElem?_cons_succ, List.getElem?_cons_zero]; rfl
    case sw899_3 => rfl
    case yw899_3 => (intro w hSw; (try dsimp only at hSw); go_simp <;> with_reducible rfl)
    try simp only [Act.put, List.setIfInBounds_toArray, List.set_cons_zero, List.set_cons_succ]
    refine hR.come (rs := [2]) (by kernel_rfl) (by simp) ?_
    refine AllReadyH.cons (o := ?o900_2) ?h900_2 (fun K hK => ?kw900_2) AllReadyH.nil
    case h900_2 => simp only [List.getElem?_toArray, List.getElem?_cons_succ, List.getElem?_cons_zero]; rfl
    go_simp
    go_at_call 28; ((with_reducible refine (withN (x := x) (Y := Y) (cx := y) HYq.out rfl rfl rfl _ (mvF F3 (by (first | with_reducible assumption | (with_reducible refine Below.drew ?_; with_reducible assumption) | (with_reducible refine ba _ _ ?_; with_reducible assumption) | (with_reducible refine Below.drew ?_; with_reducible refine ba _ _ ?_; with_reducible assumption) | exact Below.refl _ _ | exact (Below.refl _ _).drew | exact (Below.refl _ _).alloc (Nat.le_refl _) _ | (refine bc _ _ (by assumption) (by assumption))))).out hf0 hf2 ?m91).mono ?_)); (case m91 => omega); rintro e wJ ⟨B', d', rfl, hj1, hbJ⟩; have hkJ := bc _ _ (by (first | with_reducible assumption | (with_reducible refine Below.drew ?_; with_reducible assumption) | (with_reducible refine ba _ _ ?_; with_reducible assumption) | (with_reducible refine Below.drew ?_; with_reducible refine ba _ _ ?_; with_reducible assumption) | exact Below.refl _ _ | exact (Below.refl _ _).drew | exact (Below.refl _ _).alloc (Nat.le_refl _) _ | (refine bc _ _ (by assumption) (by assumption)))) hbJ; have HJ1 := Lib.hid hj1; clear hj1
    refine hK.out _ _ ?_ (fun hHeld => ?_)
    · (first | (repeat' (first | with_reducible assumption | exact Nat.le_refl _ | with_reducible refine Below.drew ?_ | with_reducible refine ba _ _ ?_ | omega | (simp <;> omega))) | (first | with_reducible assumption | (with_reducible refine Below.drew ?_; with_reducible assumption) | (with_reducible refine ba _ _ ?_; with_reducible assumption) | (with_reducible refine Below.drew ?_; with_reducible refine ba _ _ ?_; with_reducible assumption) | exact Below.refl _ _ | exact (Below.refl _ _).drew | exact (Below.refl _ _).alloc (Nat.le_refl _) _ | (refine bc _ _ (by assumption) (by assumption))))
    clear hK K
    refine RegOk.put_ (m' := 15) (by kernel_rfl) ?_
    try simp only [Act.put, List.setIfInBounds_toArray, List.set_cons_zero, List.set_cons_succ]
    refine hR.come (rs := [4]) (by kernel_rfl) (by simp) ?_
    refine AllReadyH.cons (o := ?o901_4) ?h901_4 (fun K hK => ?kw901_4) AllReadyH.nil
    case h901_4 => simp only [List.getElem?_toArray, List.getElem?_cons_succ, List.getElem?_cons_zero]; rfl
    go_simp
    go_at_call 13; ((with_reducible refine (sumsQ (q := Y) (s := s) (S := fun _ => True) EY.out.1 EY.out.2.1 EY.out.2.2.1 HXys.out EY.out.2.2.2 HNys.out rfl rfl _ VYq.out WYq.out HOKs.out hls1000 HJ1.out (mvI HLa (by (first | with_reducible assumption | (with_reducible refine Below.drew ?_; with_reducible assumption) | (with_reducible refine ba _ _ ?_; with_reducible assumption) | (with_reducible refine Below.drew ?_; with_reducible refine ba _ _ ?_; with_reducible assumption) | exact Below.refl _ _ | exact (Below.refl _ _).drew | exact (Below.refl _ _).alloc (Nat.le_refl _) _ | (refine bc _ _ (by assumption) (by assumption))))).out (mvI HGa (by (first | with_reducible assumption | (with_reducible refine Below.drew ?_; with_reducible assumption) | (with_reducible refine ba _ _ ?_; with_reducible assumption) | (with_reducible refine Below.drew ?_; with_reducible refine ba _ _ ?_; with_reducible assumption) | exact Below.refl _ _ | exact (Below.refl _ _).drew | exact (Below.refl _ _).alloc (Nat.le_refl _) _ | (refine bc _ _ (by assumption) (by assumption))))).out).mono ?_)); rintro e wC ⟨A, c, rfl, h1, hbC⟩; have hkC := bc _ _ (by (first | with_reducible assumption | (with_reducible refine Below.drew ?_; with_reducible assumption) | (with_reducible refine ba _ _ ?_; with_reducible assumption) | (with_reducible refine Below.drew ?_; with_reducible refine ba _ _ ?_; with_reducible assumption) | exact Below.refl _ _ | exact (Below.refl _ _).drew | exact (Below.refl _ _).alloc (Nat.le_refl _) _ | (refine bc _ _ (by assumption) (by assumption)))) hbC; have H1 := Lib.hid h1; have bC := Lib.hid hkC; clear h1 hbC
    refine hK.out _ _ ?_ (fun hHeld => ?_)
    · (first | (repeat' (first | with_reducible assumption | exact Nat.le_refl _ | with_reducible refine Below.drew ?_ | with_reducible refine ba _ _ ?_ | omega | (simp <;> omega))) | (first | with_reducible assumption | (with_reducible refine Below.drew ?_; with_reducible assumption) | (with_reducible refine ba _ _ ?_; with_reducible assumption) | (with_reducible refine Below.drew ?_; with_reducible refine ba _ _ ?_; with_reducible assumption) | exact Below.refl _ _ | exact (Below.refl _ _).drew | exact (Below.refl _ _).alloc (Nat.le_refl _) _ | (refine bc _ _ (by assumption) (by assumption))))
    clear hK K
    refine RegOk.put_ (m' := 31) (by kernel_rfl) ?_
    try simp only [Act.put, List.setIfInBounds_toArray, List.set_cons_zero, List.set_cons_succ]
    refine hR.take (i := 5) (oi := ?ow902_5) (v := ?vw902_5) (m' := 63) ?hw902_5 (by kernel_rfl) (by kernel_rfl) (fun _ _ _ h => h) (Or.inl ⟨?sw902_5, ?yw902_5⟩) (by assumption) ?nw902_5
    case hw902_5 => simp only [List.getElem?_toArray, List.getElem?_cons_succ, List.getElem?_cons_zero]; rfl
    case sw902_5 => rfl
    case yw902_5 => (intro w hSw; (try dsimp only at hSw); go_simp <;> with_reducible rfl)
    try simp only [Act.put, List.setIfInBounds_toArray, List.set_cons_zero, List.set_cons_succ]
    refine hR.all (by kernel_rfl) ?_ _
    refine NoPanic.normal ?_
    go_wp2_with fail
    go_meet
    case rel => exact ⟨_, _, rfl, H1.out.sub (fun _ _ _ => trivial), bC.out⟩
  obtain ⟨A13, c13, rfl, hs, hb⟩ := hcut
  obtain ⟨w8, hwv⟩ : ∃ x, x = wc := ⟨_, rfl⟩
  subst hwv
  have I13 := Lib.hid hs
  have b8 := Lib.hid (b7.out.trans (hb.mono b7.out.size))
  replace F3 := mvF F3 hb
  replace gx := mvQ gx hb
  replace Ss := mvSt Ss hb
  replace gW := mvQ gW hb
  replace I12 := mvI I12 hb
  replace gY := mvQ gY hb
  clear hs hb b7 za zx zc ga HLa HGa lga lgx lgc
  obtain ⟨La, cla, Ga, cga, hga, hsLa, hsGa⟩ := Ss.out
  have ga := Lib.hid hga
  have za : ∀ W, Below w8.heap.size w8 W → _ ∧ _ := fun W hW => two2 (mvQ ga hW)
  have zx : ∀ W, Below w8.heap.size w8 W → _ ∧ _ ∧ _ ∧ _ := fun W hW => row4 (mvQ gx hW)
  have zc : ∀ W, Below w8.heap.size w8 W → _ ∧ _ ∧ _ := fun W hW => row3W (mvQ gW hW)
  have HLa := Lib.hid hsLa
  have HGa := Lib.hid hsGa
  have lga := heap_lt hga
  have lgx := heap_lt gx.out
  have lgc := heap_lt gW.out
  clear hga hsLa hsGa
  go_upto_region 10 with fail
  go_cut [14] (fun v wx => ∃ A c, v = .slice A N c ∧ Sl .i64 (fun _ => True) wx A c xs ∧ Below w8.heap.size w8 wx)
  case first =>
    have br : Below w8.heap.size w8 w8 := Below.refl _ _
    have ba : ∀ W o, Below w8.heap.size w8 W → Below w8.heap.size w8 (W.alloc o) := fun W o h => h.alloc h.size o
    have bc : ∀ W W', Below w8.heap.size w8 W → Below W.heap.size W W' → Below w8.heap.size w8 W' := fun W W' h k => h.trans (k.mono h.size)
    refine wp_region_noPanic ?_
    refine wp_region_held_drew (S := fun X => Below w8.heap.size w8 X) (by kernel_rfl) ?_ (fun hHeld => ?_)
    · (first | (repeat' (first | with_reducible assumption | exact Nat.le_refl _ | with_reducible refine Below.drew ?_ | with_reducible refine ba _ _ ?_ | omega | (simp <;> omega))) | (first | with_reducible assumption | (with_reducible refine Below.drew ?_; with_reducible assumption) | (with_reducible refine ba _ _ ?_; with_reducible assumption) | (with_reducible refine Below.drew ?_; with_reducible refine ba _ _ ?_; with_reducible assumption) | exact Below.refl _ _ | exact (Below.refl _ _).drew | exact (Below.refl _ _).alloc (Nat.le_refl _) _ | (refine bc _ _ (by assumption) (by assumption))))
    refine RegOk.begin_ (n := 6) (T := evL7C) ⟨by kernel_rfl, by kernel_rfl, by kernel_rfl, by kernel_rfl⟩ fun hR => ?_
    refine hR.take (i := 0) (oi := ?ow903_0) (v := ?vw903_0) (m' := 1) ?hw903_0 (by kernel_rfl) (by kernel_rfl) (fun _ _ _ h => h) (Or.inl ⟨?sw903_0, ?yw903_0⟩) (by assumption) ?nw903_0
    case hw903_0 => simp only [List.getElem?_toArray, List.getElem?_cons_succ, List.getElem?_cons_zero]; rfl
    case sw903_0 => rfl
    case yw903_0 => (intro w hSw; (try dsimp only at hSw); go_simp <;> with_reducible rfl)
    try simp only [Act.put, List.setIfInBounds_toArray, List.set_cons_zero, List.set_cons_succ]
    refine hR.take (i := 1) (oi := ?ow904_1) (v := ?vw904_1) (m' := 3) ?hw904_1 (by kernel_rfl) (by kernel_rfl) (fun _ _ _ h => h) (Or.inl ⟨?sw904_1, ?yw904_1⟩) (by assumption) ?nw904_1
    case hw904_1 => simp only [List.getElem?_toArray, List.getElem?_cons_succ, List.getElem?_cons_zero]; rfl
    case sw904_1 => rfl
    case yw904_1 => (intro w hSw; (try dsimp only at hSw); go_simp <;> with_reducible rfl)
    try simp only [Act.put, List.setIfInBounds_toArray, List.set_cons_zero, List.set_cons_succ]
    refine hR.take (i := 3) (oi := ?ow905_3) (v := ?vw905_3) (m' := 11) ?hw905_3 (by kernel_rfl) (by kernel_rfl) (fun _ _ _ h => h) (Or.inl ⟨?sw905_3, ?yw905_3⟩) (by assumption) ?nw905_3
    case hw905_3 => simp only [List.getElem?_toArray, List.getElem?_cons_succ, List.getElem?_cons_zero]; rfl
    case sw905_3 => rfl
    case yw905_3 => (intro w hSw; (try dsimp only at hSw); go_simp <;> with_reducible rfl)
    try simp only [Act.put, List.setIfInBounds_toArray, List.set_cons_zero, List.set_cons_succ]
    refine hR.come (rs := [2]) (by kernel_rfl) (by simp) ?_
    refine AllReadyH.cons (o := ?o906_2) ?h906_2 (fun K hK => ?kw906_2) AllReadyH.nil
    case h906_2 => simp only [List.getElem?_toArray, List.getElem?_cons_succ, List.getElem?_cons_zero]; rfl
    go_simp
    go_at_call 28; ((with_reducible refine (withN (x := x) (Y := Z) (cx := wholeC y.col) HZq.out HW0.out HW1.out HW2.out _ (mvF F3 (by (first | with_reducible assumption | (with_reducible refine Below.drew ?_; with_reducible assumption) | (with_reducible refine ba _ _ ?_; with_reducible assumption) | (with_reducible refine Below.drew ?_; with_reducible refine ba _ _ ?_; with_reducible assumption) | exact Below.refl _ _ | exact (Below.refl _ _).drew | exact (Below.refl _ _).alloc (Nat.le_refl _) _ | (refine bc _ _ (by assumption) (by assumption))))).out hf0 hf2 ?m101).mono ?_)); (case m101 => omega); rintro e wJ ⟨B', d', rfl, hj1, hbJ⟩; have hkJ := bc _ _ (by (first | with_reducible assumption | (with_reducible refine Below.drew ?_; with_reducible assumption) | (with_reducible refine ba _ _ ?_; with_reducible assumption) | (with_reducible refine Below.drew ?_; with_reducible refine ba _ _ ?_; with_reducible assumption) | exact Below.refl _ _ | exact (Below.refl _ _).drew | exact (Below.refl _ _).alloc (Nat.le_refl _) _ | (refine bc _ _ (by assumption) (by assumption)))) hbJ; have HJ1 := Lib.hid hj1; clear hj1
    refine hK.out _ _ ?_ (fun hHeld => ?_)
    · (first | (repeat' (first | with_reducible assumption | exact Nat.le_refl _ | with_reducible refine Below.drew ?_ | with_reducible refine ba _ _ ?_ | omega | (simp <;> omega))) | (first | with_reducible assumption | (with_reducible refine Below.drew ?_; with_reducible assumption) | (with_reducible refine ba _ _ ?_; with_reducible assumption) | (with_reducible refine Below.drew ?_; with_reducible refine ba _ _ ?_; with_reducible assumption) | exact Below.refl _ _ | exact (Below.refl _ _).drew | exact (Below.refl _ _).alloc (Nat.le_refl _) _ | (refine bc _ _ (by assumption) (by assumption))))
    clear hK K
    refine RegOk.put_ (m' := 15) (by kernel_rfl) ?_
    try simp only [Act.put, List.setIfInBounds_toArray, List.set_cons_zero, List.set_cons_succ]
    refine hR.come (rs := [4]) (by kernel_rfl) (by simp) ?_
    refine AllReadyH.cons (o := ?o907_4) ?h907_4 (fun K hK => ?kw907_4) AllReadyH.nil
    case h907_4 => simp only [List.getElem?_toArray, List.getElem?_cons_succ, List.getElem?_cons_zero]; rfl
    go_simp
    go_at_call 13; ((with_reducible refine (sumsQ (q := Z) (s := s) (S := fun _ => True) EZ.out.1 EZ.out.2.1 EZ.out.2.2.1 HXzs.out EZ.out.2.2.2 HNxs.out rfl rfl _ VZq.out WZq.out HOKs.out hls1000 HJ1.out (mvI HLa (by (first | with_reducible assumption | (with_reducible refine Below.drew ?_; with_reducible assumption) | (with_reducible refine ba _ _ ?_; with_reducible assumption) | (with_reducible refine Below.drew ?_; with_reducible refine ba _ _ ?_; with_reducible assumption) | exact Below.refl _ _ | exact (Below.refl _ _).drew | exact (Below.refl _ _).alloc (Nat.le_refl _) _ | (refine bc _ _ (by assumption) (by assumption))))).out (mvI HGa (by (first | with_reducible assumption | (with_reducible refine Below.drew ?_; with_reducible assumption) | (with_reducible refine ba _ _ ?_; with_reducible assumption) | (with_reducible refine Below.drew ?_; with_reducible refine ba _ _ ?_; with_reducible assumption) | exact Below.refl _ _ | exact (Below.refl _ _).drew | exact (Below.refl _ _).alloc (Nat.le_refl _) _ | (refine bc _ _ (by assumption) (by assumption))))).out).mono ?_)); rintro e wC ⟨A, c, rfl, h1, hbC⟩; have hkC := bc _ _ (by (first | with_reducible assumption | (with_reducible refine Below.drew ?_; with_reducible assumption) | (with_reducible refine ba _ _ ?_; with_reducible assumption) | (with_reducible refine Below.drew ?_; with_reducible refine ba _ _ ?_; with_reducible assumption) | exact Below.refl _ _ | exact (Below.refl _ _).drew | exact (Below.refl _ _).alloc (Nat.le_refl _) _ | (refine bc _ _ (by assumption) (by assumption)))) hbC; have H1 := Lib.hid h1; have bC := Lib.hid hkC; clear h1 hbC
    refine hK.out _ _ ?_ (fun hHeld => ?_)
    · (first | (repeat' (first | with_reducible assumption | exact Nat.le_refl _ | with_reducible refine Below.drew ?_ | with_reducible refine ba _ _ ?_ | omega | (simp <;> omega))) | (first | with_reducible assumption | (with_reducible refine Below.drew ?_; with_reducible assumption) | (with_reducible refine ba _ _ ?_; with_reducible assumption) | (with_reducible refine Below.drew ?_; with_reducible refine ba _ _ ?_; with_reducible assumption) | exact Below.refl _ _ | exact (Below.refl _ _).drew | exact (Below.refl _ _).alloc (Nat.le_refl _) _ | (refine bc _ _ (by assumption) (by assumption))))
    clear hK K
    refine RegOk.put_ (m' := 31) (by kernel_rfl) ?_
    try simp only [Act.put, List.setIfInBounds_toArray, List.set_cons_zero, List.set_cons_succ]
    refine hR.take (i := 5) (oi := ?ow908_5) (v := ?vw908_5) (m' := 63) ?hw908_5 (by kernel_rfl) (by kernel_rfl) (fun _ _ _ h => h) (Or.inl ⟨?sw908_5, ?yw908_5⟩) (by assumption) ?nw908_5
    case hw908_5 => simp only [List.getElem?_toArray, List.getElem?_cons_succ, List.getElem?_cons_zero]; rfl
    case sw908_5 => rfl
    case yw908_5 => (intro w hSw; (try dsimp only at hSw); go_simp <;> with_reducible rfl)
    try simp only [Act.put, List.setIfInBounds_toArray, List.set_cons_zero, List.set_cons_succ]
    refine hR.all (by kernel_rfl) ?_ _
    refine NoPanic.normal ?_
    go_wp2_with fail
    go_meet
    case rel => exact ⟨_, _, rfl, H1.out.sub (fun _ _ _ => trivial), bC.out⟩
  obtain ⟨A14, c14, rfl, hs, hb⟩ := hcut
  obtain ⟨w9, hwv⟩ : ∃ x, x = wc := ⟨_, rfl⟩
  subst hwv
  have I14 := Lib.hid hs
  have b9 := Lib.hid (b8.out.trans (hb.mono b8.out.size))
  replace F3 := mvF F3 hb
  replace gx := mvQ gx hb
  replace Ss := mvSt Ss hb
  replace gW := mvQ gW hb
  replace I12 := mvI I12 hb
  replace I13 := mvI I13 hb
  clear hs hb b8 za zx zc ga HLa HGa lga lgx lgc
  clear gx F3 Ss gW
  have hnn : ((N : Int) != (N : Int)) = false := by simp
  go_wp2_with fail
  go_loopw [15] (fun i wr => ∃ v : Nat, v ≤ N ∧ i = .int .i64 v ∧ Hid (Below w9.heap.size w9 wr)) (fun i _ => N - (intOf i).toNat)
  case atStart => exact ⟨0, Nat.zero_le _, rfl, Lib.hid (Below.refl _ _)⟩
  case round =>
    obtain ⟨v, hv, rfl, hbr⟩ := hrel
    have hkr := hbr.out
    have hv0 : (0 : Int) ≤ (v : Int) := by omega
    by_cases hlt : v < N
    · have hv1 : (v : Int) < (N : Int) := by omega
      have hb := HTB.out v
      have xa := sums_at HXxs.out HNxs.out hlt
      have xb := sums_at HXys.out HNys.out hlt
      generalize totalF x (liveF s) v = av at hb xa
      generalize totalF Y (liveF s) v = bv at hb xb
      obtain ⟨b5, o5, rfl, -, l5, v5⟩ := i64_at (mvI I12 hkr).out xa
      obtain ⟨b6, o6, rfl, -, l6, v6⟩ := i64_at (mvI I13 hkr).out xb
      have g1 : decide (av < bv) = false := decide_eq_false (by omega)
      have g2 : decide (bv < 0) = false := decide_eq_false (by omega)
      clear xa xb hb
      go_wp2_with fail
      go_quiet (fail)
      go_wp2_with fail
      go_roundw
      case rel => exact ⟨v + 1, by omega, by go_num, Lib.hid (below_drewN hkr _)⟩
      case measure => simp [intOf]; omega
    · have hv1 : ¬ (v : Int) < (N : Int) := by omega
      go_wp2_with (go_at_call 17; ((with_reducible refine (same15N (A := A12) (xs := xs) (n := N) (S := fun _ => True) (T := fun _ => True) HNxs.out _ (mvI I12 hkr).out (mvI I14 hkr).out).mono ?_)); rintro e wS ⟨rfl, hS⟩)
      go_ret
      exact ⟨rfl, b9.out.trans ((hkr.trans (hS.mono hkr.size)).mono b9.out.size)⟩
end Go.Proofs.YtmkpaolbejlodaaDoor
