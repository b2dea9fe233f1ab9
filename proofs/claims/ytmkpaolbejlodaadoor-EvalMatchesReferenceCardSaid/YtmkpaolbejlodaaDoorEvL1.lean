/-
  The law 'EvalMatchesReference', walked: it returns true for every input, and nothing that existed changes. No condition.
-/
import Derived.Lib.Mul64
import Derived.Laws.Bits64b
import Derived.Shelf.Bits.Mul64
import Derived.Test.YtmkpaolbejlodaaDoorB1
import Derived.Test.YtmkpaolbejlodaaDoorB2
import Derived.Test.YtmkpaolbejlodaaDoorB3
import Derived.Test.YtmkpaolbejlodaaDoorB4
import Derived.Test.YtmkpaolbejlodaaDoorB5
import Derived.Test.YtmkpaolbejlodaaDoorB6
import Derived.Test.YtmkpaolbejlodaaDoorB7
import Derived.Test.YtmkpaolbejlodaaDoorB8
import Derived.Test.YtmkpaolbejlodaaDoorB9
import Derived.Test.YtmkpaolbejlodaaDoorB10
import Derived.Test.YtmkpaolbejlodaaDoorB11
import Derived.Test.YtmkpaolbejlodaaDoorB12
import Derived.Test.YtmkpaolbejlodaaDoorB13
import Derived.Test.YtmkpaolbejlodaaDoorB14
import Derived.Test.YtmkpaolbejlodaaDoorB15
import Derived.Test.YtmkpaolbejlodaaDoorB16
import Derived.Test.YtmkpaolbejlodaaDoorB17
set_option linter.unusedSimpArgs false
set_option linter.unusedVariables false
namespace Go.Proofs.YtmkpaolbejlodaaDoor
open Go.RowKit

theorem mvI {α : Type} {E : Enc α} {S : Nat → Prop} {w w' : World} {A : Option Addr} {c : Nat} {l : List α} (h : Hid (Sl E S w A c l)) (hb : Below w.heap.size w w') : Hid (Sl E S w' A c l) := Lib.hid (h.out.keep (Below.agree hb))
def evL1 : List FRow := [(0, ([], (30, [5]))), (1, ([0], (31, [29]))), (2, ([1], (32, [8, 30]))), (3, ([1], (33, [9, 30]))), (4, ([2, 3, 1, 1], (34, [31, 32, 30]))), (5, ([1, 4], (35, [30, 33]))), (6, ([5, 4], (36, [34]))), (7, ([6], (37, [6, 35]))), (8, ([6], (38, [9, 35]))), (9, ([7, 8, 6, 6], (39, [36, 37, 35]))), (10, ([6], (40, [6, 35]))), (11, ([6], (41, [9, 35]))), (12, ([10, 11, 9, 6], (42, [39, 40, 35]))), (13, ([9, 12, 12, 6], (43, [38, 41, 35]))), (14, ([6, 13], (44, [35, 42]))), (15, ([14, 13], (45, [43]))), (16, ([15], (46, [10, 44]))), (17, ([16, 15], (47, [45, 44]))), (18, ([15], (48, [11, 44]))), (19, ([18, 15], (49, [47, 44]))), (20, ([17, 19, 15, 15], (50, [46, 48, 44]))), (21, ([15, 20], (51, [44, 49]))), (22, ([21, 20], (52, [50]))), (23, ([22], (53, [10, 51]))), (24, ([23, 22], (54, [52, 51]))), (25, ([22], (55, [11, 51]))), (26, ([25, 22], (56, [54, 51]))), (27, ([24, 26, 22, 22], (57, [53, 55, 51]))), (28, ([22, 27], (58, [51, 56]))), (29, ([28, 27, 0, 1, 2, 3, 4, 5, 6, 7, 8, 9, 10, 11, 12, 13, 14, 15, 16, 17, 18, 19, 20, 21, 22, 23, 24, 25, 26, 27, 28], (5, [57])))]
set_option maxRecDepth 100000 in
set_option maxHeartbeats 8000000 in
theorem walk_EvalMatchesReference {q : Qy} {l : List ROp} {A L : Option Addr} {c cl : Nat} (w : World) (h : Sl cdE.slice (fun _ => True) w A c q.fs) (hl : Sl ropE (fun _ => True) w L cl l) :
    Calls Tryd.prog 3 #[(.agg #[.int .i64 q.kind, .int .i64 q.col, .int .i64 q.k, .slice A q.fs.length c]), .slice L l.length cl] w fun e w' => e = .returned (.bool true) ∧ Below w.heap.size w w' := by
  have H := Lib.hid h
  have HL := Lib.hid hl
  have hm := h.max
  have hml := hl.max
  clear h hl
  go_enter Tryd.func3, Tryd.ntmps3
  go_upto_region 1 with fail
  refine wp_world (F := fun wx => Below w.heap.size w wx ∧ Hid (wx.heap[w.heap.size]? = some (.cells #[.int .i64 q.kind, .int .i64 q.col, .int .i64 q.k, .slice A q.fs.length c] 24 (0, 0)))) ⟨(by repeat' (first | with_reducible exact Below.refl _ _ | with_reducible assumption | with_reducible refine Below.setCell ?_ ?_ _ | with_reducible refine Below.drew ?_ | with_reducible refine below_drewN ?_ _ | with_reducible refine Below.alloc ?_ ?_ _ | (rintro _ ⟨⟩; simp <;> omega) | omega | (simp <;> omega))), Lib.hid (heap_alloc_at rfl)⟩ ?_
  rintro w1 ⟨bb, gq⟩
  have b1 := Lib.hid bb
  clear bb
  go_upto_region 2 with (go_at_call 10; refine (sanityL15 _).mono ?_; rintro e w2 ⟨rfl, hb2⟩; have b2 := Lib.hid (b1.out.trans (hb2.mono b1.out.size)); have gq2 := mvQ gq hb2; clear hb2)
  obtain ⟨x0, x1, x2, x3⟩ := row4 gq2
  have H2 := Lib.hid (H.out.keep (Below.agree b2.out))
  have HL2 := Lib.hid (HL.out.keep (Below.agree b2.out))
  clear gq b1 H HL
  go_cut [6] (fun p wx => ∃ (g : Nat) (x : Qy) (B : Option Addr) (d : Nat), p = .pointer (some ⟨g, 0, none⟩) ∧ ValidQ x ∧ wideB x = false ∧ Hid (wx.heap[g]? = some (.cells #[.int .i64 x.kind, .int .i64 x.col, .int .i64 x.k, .slice B x.fs.length d] 24 (0, 0))) ∧ Sl cdE.slice (fun _ => True) wx B d x.fs ∧ Below w2.heap.size w2 wx)
  case first =>
    go_wp2_with (go_at_call 11; refine (made15P (q := q) _ H2.out).mono ?_; rintro e wC ⟨x, hv, hnw, B, d, rfl, hs, hbC⟩; have HC := Lib.hid hs; have bC := Lib.hid hbC; have HV := Lib.hid hv; have HN := Lib.hid hnw; clear hs hbC hv hnw)
    go_meet
    case rel => exact ⟨_, x, B, d, rfl, HV.out, HN.out, Lib.hid (heap_alloc_at rfl), (HC.out.sub (fun _ _ _ => trivial)).keep ((Agree.refl _ _).alloc _), bC.out.alloc bC.out.size _⟩
  obtain ⟨g, x, B, d, rfl, hv, hnw, gx, hs, hb⟩ := hcut
  obtain ⟨w3, hwv⟩ : ∃ x, x = wc := ⟨_, rfl⟩
  subst hwv
  have HV := Lib.hid hv
  have HNW := Lib.hid hnw
  have b3 := Lib.hid (b2.out.trans (hb.mono b2.out.size))
  have F3 := Lib.hid hs
  have HL3 := Lib.hid (HL2.out.keep (Below.agree hb))
  clear hv hnw hs hb x0 x1 x2 x3 gq2 b2 H2 HL2
  obtain ⟨s, hs⟩ : ∃ s, madeF 30 l = s := ⟨_, rfl⟩
  have hok := madeF_ok 30 l
  rw [hs] at hok
  have HMS := Lib.hid hs
  have HOK := Lib.hid hok.1
  have hl30 := hok.2
  have hl1000 : s.l.length ≤ 1000 := by omega
  clear hs hok
  go_upto_region 3 with fail
  go_cut [7] (fun p wx => ∃ g, p = .pointer (some ⟨g, 0, none⟩) ∧ StB wx g s s.l.length s.g.length ∧ Below w3.heap.size w3 wx)
  case first =>
    go_wp2_with (go_at_call 12; refine (madeR (most := 30) (l := l) _ HL3.out (by omega)).mono ?_; rw [HMS.out]; rintro e wC ⟨A', c', B', d', rfl, h1, h2, hbC⟩; have H1 := Lib.hid h1; have H2 := Lib.hid h2; have bC := Lib.hid hbC; clear h1 h2 hbC)
    go_meet
    case rel => exact ⟨_, rfl, ⟨A', c', B', d', heap_alloc_at rfl, (H1.out.alloc_ _).sub (fun _ _ _ => trivial), (H2.out.alloc_ _).sub (fun _ _ _ => trivial)⟩, bC.out.alloc bC.out.size _⟩
  obtain ⟨gs, rfl, hst, hb⟩ := hcut
  obtain ⟨w4, hwv⟩ : ∃ x, x = wc := ⟨_, rfl⟩
  subst hwv
  have S4 := Lib.hid hst
  have b4 := Lib.hid (b3.out.trans (hb.mono b3.out.size))
  have F4 := Lib.hid (F3.out.keep (Below.agree hb))
  replace gx := mvQ gx hb
  clear hst hb b3 F3 HL3
  obtain ⟨xs, hxs⟩ : ∃ xs, sumsF x (liveF s) = xs := ⟨_, rfl⟩
  obtain ⟨ys, hys⟩ : ∃ ys, resF x xs = ys := ⟨_, rfl⟩
  have HXS := Lib.hid hxs
  have HYS := Lib.hid hys
  have HR := Lib.hid (show ResOk x xs by rw [← hxs]; exact resOk_sums HV.out (Nat.le_trans (live_len s) hl1000))
  have hx32 : xs.length ≤ 1000 := by rw [← hxs, sumsF_len]; have := (nSums_le HV.out).1; omega
  clear hxs hys
  obtain ⟨x0, x1, x2, x3⟩ := row4 gx
  obtain ⟨L4, cl4, G4, cg4, hg, hsL, hsG⟩ := S4.out
  obtain ⟨s0, s1⟩ := two2 (Lib.hid hg)
  have HSL := Lib.hid hsL
  have HSG := Lib.hid hsG
  clear hg hsL hsG
  go_upto_region 4 with fail
  go_cut [8] (fun v wx => ∃ A c, v = .slice A xs.length c ∧ Sl .i64 (fun _ => True) wx A c xs ∧ Below w4.heap.size w4 wx)
  case first =>
    go_wp2_with (go_at_call 13; refine (sumsN (q := x) (s := s) HXS.out rfl rfl rfl rfl _ HV.out HNW.out HOK.out hl1000 F4.out HSL.out HSG.out).mono ?_; rintro e wC ⟨A, c, rfl, h1, hbC⟩; have H1 := Lib.hid h1; have bC := Lib.hid hbC; clear h1 hbC)
    go_meet
    case rel => exact ⟨_, _, rfl, H1.out.sub (fun _ _ _ => trivial), bC.out⟩
  obtain ⟨A5, c5, rfl, hs5, hb⟩ := hcut
  obtain ⟨w5, hwv⟩ : ∃ x, x = wc := ⟨_, rfl⟩
  subst hwv
  have H5 := Lib.hid hs5
  (try replace H5 := mvI H5 hb)
  have S5 := mvSt S4 hb
  have F5 := mvF F4 hb
  replace gx := mvQ gx hb
  have b5 := Lib.hid (b4.out.trans (hb.mono b4.out.size))
  clear hs5 hb b4 HSL HSG s0 s1 x0 x1 x2 x3 S4 F4
  obtain ⟨x0, x1, x2, x3⟩ := row4 gx
  obtain ⟨L5, cl5, G5, cg5, hg, hsL, hsG⟩ := S5.out
  obtain ⟨s0, s1⟩ := two2 (Lib.hid hg)
  have HSL := Lib.hid hsL
  have HSG := Lib.hid hsG
  clear hg hsL hsG
  go_upto_region 5 with fail
  go_cut [9] (fun v wx => ∃ A c, v = .slice A xs.length c ∧ Sl .i64 (fun _ => True) wx A c xs ∧ Below w5.heap.size w5 wx)
  case first =>
    go_wp2_with (go_at_call 14; refine (sumsRN (q := x) (s := s) HXS.out rfl rfl rfl rfl _ HV.out HNW.out HOK.out hl1000 F5.out HSL.out HSG.out).mono ?_; rintro e wC ⟨A, c, rfl, h1, hbC⟩; have H1 := Lib.hid h1; have bC := Lib.hid hbC; clear h1 hbC)
    go_meet
    case rel => exact ⟨_, _, rfl, H1.out.sub (fun _ _ _ => trivial), bC.out⟩
  obtain ⟨A6, c6, rfl, hs6, hb⟩ := hcut
  obtain ⟨w6, hwv⟩ : ∃ x, x = wc := ⟨_, rfl⟩
  subst hwv
  have H6 := Lib.hid hs6
  (try replace H5 := mvI H5 hb)
  have S6 := mvSt S5 hb
  have F6 := mvF F5 hb
  replace gx := mvQ gx hb
  have b6 := Lib.hid (b5.out.trans (hb.mono b5.out.size))
  clear hs6 hb b5 HSL HSG s0 s1 x0 x1 x2 x3 S5 F5
  obtain ⟨x0, x1, x2, x3⟩ := row4 gx
  obtain ⟨L6, cl6, G6, cg6, hg, hsL, hsG⟩ := S6.out
  obtain ⟨s0, s1⟩ := two2 (Lib.hid hg)
  have HSL := Lib.hid hsL
  have HSG := Lib.hid hsG
  clear hg hsL hsG
  go_upto_region 6 with fail
  go_cut [10] (fun p wx => ∃ g, p = .pointer (some ⟨g, 0, none⟩) ∧ An wx g xs ys xs.length ys.length ∧ Below w6.heap.size w6 wx)
  case first =>
    go_wp2_with (go_at_call 15; refine (answerN (q := x) (s := s) HXS.out HYS.out rfl rfl rfl rfl rfl _ HV.out HNW.out HOK.out hl1000 F6.out HSL.out HSG.out).mono ?_; rintro e wC ⟨A, c, B, d, rfl, h1, h2, hbC⟩; have H1 := Lib.hid h1; have H2 := Lib.hid h2; have bC := Lib.hid hbC; clear h1 h2 hbC)
    go_meet
    case rel => exact ⟨_, rfl, ⟨A, c, B, d, heap_alloc_at rfl, (H1.out.alloc_ _).sub (fun _ _ _ => trivial), (H2.out.alloc_ _).sub (fun _ _ _ => trivial)⟩, bC.out.alloc bC.out.size _⟩
  obtain ⟨g7, rfl, ha, hb⟩ := hcut
  obtain ⟨w7, hwv⟩ : ∃ x, x = wc := ⟨_, rfl⟩
  subst hwv
  have A7 := Lib.hid ha
  (try replace A7 := mvAn A7 hb)
  replace H5 := mvI H5 hb
  replace H6 := mvI H6 hb
  have S7 := mvSt S6 hb
  have F7 := mvF F6 hb
  replace gx := mvQ gx hb
  have b7 := Lib.hid (b6.out.trans (hb.mono b6.out.size))
  clear ha hb b6 HSL HSG s0 s1 x0 x1 x2 x3 S6 F6
  obtain ⟨x0, x1, x2, x3⟩ := row4 gx
  obtain ⟨L7, cl7, G7, cg7, hg, hsL, hsG⟩ := S7.out
  obtain ⟨s0, s1⟩ := two2 (Lib.hid hg)
  have HSL := Lib.hid hsL
  have HSG := Lib.hid hsG
  clear hg hsL hsG
  go_upto_region 7 with fail
  go_cut [11] (fun p wx => ∃ g, p = .pointer (some ⟨g, 0, none⟩) ∧ An wx g xs ys xs.length ys.length ∧ Below w7.heap.size w7 wx)
  case first =>
    go_wp2_with (go_at_call 16; refine (answerRN (q := x) (s := s) HXS.out HYS.out rfl rfl rfl rfl rfl _ HV.out HNW.out HOK.out hl1000 F7.out HSL.out HSG.out).mono ?_; rintro e wC ⟨A, c, B, d, rfl, h1, h2, hbC⟩; have H1 := Lib.hid h1; have H2 := Lib.hid h2; have bC := Lib.hid hbC; clear h1 h2 hbC)
    go_meet
    case rel => exact ⟨_, rfl, ⟨A, c, B, d, heap_alloc_at rfl, (H1.out.alloc_ _).sub (fun _ _ _ => trivial), (H2.out.alloc_ _).sub (fun _ _ _ => trivial)⟩, bC.out.alloc bC.out.size _⟩
  obtain ⟨g8, rfl, ha, hb⟩ := hcut
  obtain ⟨w8, hwv⟩ : ∃ x, x = wc := ⟨_, rfl⟩
  subst hwv
  have A8 := Lib.hid ha
  (try replace A7 := mvAn A7 hb)
  replace H5 := mvI H5 hb
  replace H6 := mvI H6 hb
  have S8 := mvSt S7 hb
  have F8 := mvF F7 hb
  replace gx := mvQ gx hb
  have b8 := Lib.hid (b7.out.trans (hb.mono b7.out.size))
  clear ha hb b7 HSL HSG s0 s1 x0 x1 x2 x3 S7 F7
  obtain ⟨P7, p7, Q7, r7, y, sA, sB⟩ := A7.out
  have Y7 := Lib.hid y
  have SA7 := Lib.hid sA
  have SB7 := Lib.hid sB
  clear y sA sB A7
  have z7 : ∀ W, Below w8.heap.size w8 W → _ ∧ _ ∧ _ := fun W hW => zAn Y7 hW
  obtain ⟨P8, p8, Q8, r8, y, sA, sB⟩ := A8.out
  have Y8 := Lib.hid y
  have SA8 := Lib.hid sA
  have SB8 := Lib.hid sB
  clear y sA sB A8
  have z8 : ∀ W, Below w8.heap.size w8 W → _ ∧ _ ∧ _ := fun W hW => zAn Y8 hW
  have zq : ∀ W, Below w8.heap.size w8 W → _ ∧ _ ∧ _ ∧ _ := fun W hW => row4 (mvQ gx hW)
  have lgx := heap_lt gx.out
  have br : Below w8.heap.size w8 w8 := Below.refl _ _
  have ba : ∀ W o, Below w8.heap.size w8 W → Below w8.heap.size w8 (W.alloc o) := fun W o h => h.alloc h.size o
  have bc : ∀ W W', Below w8.heap.size w8 W → Below W.heap.size W W' → Below w8.heap.size w8 W' := fun W W' h k => h.trans (k.mono h.size)
  (first | go_values | go_skip | go_guarded | go_step | go_upon | go_back)
  (first | go_values | go_skip | go_guarded | go_step | go_upon | go_back)
  refine wp_region_noPanic ?_
  refine wp_region_held_drew (S := fun X => Below w8.heap.size w8 X) (by kernel_rfl) ?_ (fun hHeld => ?_)
  · (first | (repeat' (first | with_reducible assumption | exact Nat.le_refl _ | with_reducible refine Below.drew ?_ | with_reducible refine ba _ _ ?_ | omega | (simp <;> omega))) | (first | with_reducible assumption | (with_reducible refine Below.drew ?_; with_reducible assumption) | (with_reducible refine ba _ _ ?_; with_reducible assumption) | (with_reducible refine Below.drew ?_; with_reducible refine ba _ _ ?_; with_reducible assumption) | exact Below.refl _ _ | exact (Below.refl _ _).drew | exact (Below.refl _ _).alloc (Nat.le_refl _) _ | (refine bc _ _ (by assumption) (by assumption))))
  refine RegOk.begin_ (n := 30) (T := evL1) ⟨by kernel_rfl, by kernel_rfl, by kernel_rfl, by kernel_rfl⟩ fun hR => ?_
  refine hR.take (i := 0) (oi := ?ow736_0) (v := ?vw736_0) (m' := 1) ?hw736_0 (by kernel_rfl) (by kernel_rfl) (fun _ _ _ h => h) (Or.inl ⟨?sw736_0, ?yw736_0⟩) (by assumption) ?nw736_0
  case hw736_0 => simp only [List.getElem?_toArray, List.getElem?_cons_succ, List.getElem?_cons_zero]; rfl
  case sw736_0 => rfl
  case yw736_0 => (intro w hSw; (try dsimp only at hSw); go_simp <;> with_reducible rfl)
  try simp only [Act.put, List.setIfInBounds_toArray, List.set_cons_zero, List.set_cons_succ]
  refine hR.take (i := 1) (oi := ?ow737_1) (v := ?vw737_1) (m' := 3) ?hw737_1 (by kernel_rfl) (by kernel_rfl) (fun _ _ _ h => h) (Or.inl ⟨?sw737_1, ?yw737_1⟩) (by assumption) ?nw737_1
  case hw737_1 => simp only [List.getElem?_toArray, List.getElem?_cons_succ, List.getElem?_cons_zero]; rfl
  case sw737_1 => rfl
  case yw737_1 => (intro w hSw; (try dsimp only at hSw); go_simp <;> with_reducible rfl)
  try simp only [Act.put, List.setIfInBounds_toArray, List.set_cons_zero, List.set_cons_succ]
  refine hR.take (i := 2) (oi := ?ow738_2) (v := ?vw738_2) (m' := 7) ?hw738_2 (by kernel_rfl) (by kernel_rfl) (fun _ _ _ h => h) (Or.inl ⟨?sw738_2, ?yw738_2⟩) (by assumption) ?nw738_2
  case hw738_2 => simp only [List.getElem?_toArray, List.getElem?_cons_succ, List.getElem?_cons_zero]; rfl
  case sw738_2 => rfl
  case yw738_2 => (intro w hSw; (try dsimp only at hSw); go_simp <;> with_reducible rfl)
  try simp only [Act.put, List.setIfInBounds_toArray, List.set_cons_zero, List.set_cons_succ]
  refine hR.take (i := 3) (oi := ?ow739_3) (v := ?vw739_3) (m' := 15) ?hw739_3 (by kernel_rfl) (by kernel_rfl) (fun _ _ _ h => h) (Or.inl ⟨?sw739_3, ?yw739_3⟩) (by assumption) ?nw739_3
  case hw739_3 => simp only [List.getElem?_toArray, List.getElem?_cons_succ, List.getElem?_cons_zero]; rfl
  case sw739_3 => rfl
  case yw739_3 => (intro w hSw; (try dsimp only at hSw); go_simp <;> with_reducible rfl)
  try simp only [Act.put, List.setIfInBounds_toArray, List.set_cons_zero, List.set_cons_succ]
  refine hR.come (rs := [4]) (by kernel_rfl) (by simp) ?_
  refine AllReadyH.cons (o := ?o740_4) ?h740_4 (fun K hK => ?kw740_4) AllReadyH.nil
  case h740_4 => simp only [List.getElem?_toArray, List.getElem?_cons_succ, List.getElem?_cons_zero]; rfl
  go_simp
  go_at_call 17; ((with_reducible refine (same15N (A := A5) (xs := xs) (S := fun _ => True) (T := fun _ => True) rfl _ (mvI H5 (by (first | with_reducible assumption | (with_reducible refine Below.drew ?_; with_reducible assumption) | (with_reducible refine ba _ _ ?_; with_reducible assumption) | (with_reducible refine Below.drew ?_; with_reducible refine ba _ _ ?_; with_reducible assumption) | exact Below.refl _ _ | exact (Below.refl _ _).drew | exact (Below.refl _ _).alloc (Nat.le_refl _) _ | (refine bc _ _ (by assumption) (by assumption))))).out (mvI H6 (by (first | with_reducible assumption | (with_reducible refine Below.drew ?_; with_reducible assumption) | (with_reducible refine ba _ _ ?_; with_reducible assumption) | (with_reducible refine Below.drew ?_; with_reducible refine ba _ _ ?_; with_reducible assumption) | exact Below.refl _ _ | exact (Below.refl _ _).drew | exact (Below.refl _ _).alloc (Nat.le_refl _) _ | (refine bc _ _ (by assumption) (by assumption))))).out).mono ?_)); rintro e wS0 ⟨rfl, hS0⟩; have hkS0 := bc _ _ (by (first | with_reducible assumption | (with_reducible refine Below.drew ?_; with_reducible assumption) | (with_reducible refine ba _ _ ?_; with_reducible assumption) | (with_reducible refine Below.drew ?_; with_reducible refine ba _ _ ?_; with_reducible assumption) | exact Below.refl _ _ | exact (Below.refl _ _).drew | exact (Below.refl _ _).alloc (Nat.le_refl _) _ | (refine bc _ _ (by assumption) (by assumption)))) hS0
  refine hK.out _ _ ?_ (fun hHeld => ?_)
  · (first | (repeat' (first | with_reducible assumption | exact Nat.le_refl _ | with_reducible refine Below.drew ?_ | with_reducible refine ba _ _ ?_ | omega | (simp <;> omega))) | (first | with_reducible assumption | (with_reducible refine Below.drew ?_; with_reducible assumption) | (with_reducible refine ba _ _ ?_; with_reducible assumption) | (with_reducible refine Below.drew ?_; with_reducible refine ba _ _ ?_; with_reducible assumption) | exact Below.refl _ _ | exact (Below.refl _ _).drew | exact (Below.refl _ _).alloc (Nat.le_refl _) _ | (refine bc _ _ (by assumption) (by assumption))))
  clear hK K
  refine RegOk.put_ (m' := 31) (by kernel_rfl) ?_
  try simp only [Act.put, List.setIfInBounds_toArray, List.set_cons_zero, List.set_cons_succ]
  refine hR.take (i := 5) (oi := ?ow741_5) (v := ?vw741_5) (m' := 63) ?hw741_5 (by kernel_rfl) (by kernel_rfl) (fun _ _ _ h => h) (Or.inl ⟨?sw741_5, ?yw741_5⟩) (by assumption) ?nw741_5
  case hw741_5 => simp only [List.getElem?_toArray, List.getElem?_cons_succ, List.getElem?_cons_zero]; rfl
  case sw741_5 => rfl
  case yw741_5 => (intro w hSw; (try dsimp only at hSw); go_simp <;> with_reducible rfl)
  try simp only [Act.put, List.setIfInBounds_toArray, List.set_cons_zero, List.set_cons_succ]
  refine hR.take (i := 6) (oi := ?ow742_6) (v := ?vw742_6) (m' := 127) ?hw742_6 (by kernel_rfl) (by kernel_rfl) (fun _ _ _ h => h) (Or.inl ⟨?sw742_6, ?yw742_6⟩) (by assumption) ?nw742_6
  case hw742_6 => simp only [List.getElem?_toArray, List.getElem?_cons_succ, List.getElem?_cons_zero]; rfl
  case sw742_6 => rfl
  case yw742_6 => (intro w hSw; (try dsimp only at hSw); go_simp <;> with_reducible rfl)
  try simp only [Act.put, List.setIfInBounds_toArray, List.set_cons_zero, List.set_cons_succ]
  refine hR.take (i := 7) (oi := ?ow743_7) (v := ?vw743_7) (m' := 255) ?hw743_7 (by kernel_rfl) (by kernel_rfl) (fun _ _ _ h => h) (Or.inl ⟨?sw743_7, ?yw743_7⟩) (by assumption) ?nw743_7
  case hw743_7 => simp only [List.getElem?_toArray, List.getElem?_cons_succ, List.getElem?_cons_zero]; rfl
  case sw743_7 => rfl
  case yw743_7 => (intro w hSw; (try dsimp only at hSw); go_simp <;> with_reducible rfl)
  try simp only [Act.put, List.setIfInBounds_toArray, List.set_cons_zero, List.set_cons_succ]
  refine hR.take (i := 8) (oi := ?ow744_8) (v := ?vw744_8) (m' := 511) ?hw744_8 (by kernel_rfl) (by kernel_rfl) (fun _ _ _ h => h) (Or.inl ⟨?sw744_8, ?yw744_8⟩) (by assumption) ?nw744_8
  case hw744_8 => simp only [List.getElem?_toArray, List.getElem?_cons_succ, List.getElem?_cons_zero]; rfl
  case sw744_8 => rfl
  case yw744_8 => (intro w hSw; (try dsimp only at hSw); go_simp <;> with_reducible rfl)
  try simp only [Act.put, List.setIfInBounds_toArray, List.set_cons_zero, List.set_cons_succ]
  refine hR.take (i := 10) (oi := ?ow745_10) (v := ?vw745_10) (m' := 1535) ?hw745_10 (by kernel_rfl) (by kernel_rfl) (fun _ _ _ h => h) (Or.inl ⟨?sw745_10, ?yw745_10⟩) (by assumption) ?nw745_10
  case hw745_10 => simp only [List.getElem?_toArray, List.getElem?_cons_succ, List.getElem?_cons_zero]; rfl
  case sw745_10 => rfl
  case yw745_10 => (intro w hSw; (try dsimp only at hSw); go_simp <;> with_reducible rfl)
  try simp only [Act.put, List.setIfInBounds_toArray, List.set_cons_zero, List.set_cons_succ]
  refine hR.take (i := 11) (oi := ?ow746_11) (v := ?vw746_11) (m' := 3583) ?hw746_11 (by kernel_rfl) (by kernel_rfl) (fun _ _ _ h => h) (Or.inl ⟨?sw746_11, ?yw746_11⟩) (by assumption) ?nw746_11
  case hw746_11 => simp only [List.getElem?_toArray, List.getElem?_cons_succ, List.getElem?_cons_zero]; rfl
  case sw746_11 => rfl
  case yw746_11 => (intro w hSw; (try dsimp only at hSw); go_simp <;> with_reducible rfl)
  try simp only [Act.put, List.setIfInBounds_toArray, List.set_cons_zero, List.set_cons_succ]
  refine hR.come (rs := [9]) (by kernel_rfl) (by simp) ?_
  refine AllReadyH.cons (o := ?o747_9) ?h747_9 (fun K hK => ?kw747_9) AllReadyH.nil
  case h747_9 => simp only [List.getElem?_toArray, List.getElem?_cons_succ, List.getElem?_cons_zero]; rfl
  go_simp
  go_at_call 18; ((with_reducible refine (resultEN (q := x) (xs := xs) (S := fun _ => True) HYS.out rfl rfl rfl _ HR.out hx32 (mvI H6 (by (first | with_reducible assumption | (with_reducible refine Below.drew ?_; with_reducible assumption) | (with_reducible refine ba _ _ ?_; with_reducible assumption) | (with_reducible refine Below.drew ?_; with_reducible refine ba _ _ ?_; with_reducible assumption) | exact Below.refl _ _ | exact (Below.refl _ _).drew | exact (Below.refl _ _).alloc (Nat.le_refl _) _ | (refine bc _ _ (by assumption) (by assumption))))).out).mono ?_)); rintro e wR ⟨AR, cR, rfl, hR1, hbR⟩; have hkR := bc _ _ (by (first | with_reducible assumption | (with_reducible refine Below.drew ?_; with_reducible assumption) | (with_reducible refine ba _ _ ?_; with_reducible assumption) | (with_reducible refine Below.drew ?_; with_reducible refine ba _ _ ?_; with_reducible assumption) | exact Below.refl _ _ | exact (Below.refl _ _).drew | exact (Below.refl _ _).alloc (Nat.le_refl _) _ | (refine bc _ _ (by assumption) (by assumption)))) hbR; have HR1 := Lib.hid hR1; clear hR1
  refine hK.out _ _ ?_ (fun hHeld => ?_)
  · (first | (repeat' (first | with_reducible assumption | exact Nat.le_refl _ | with_reducible refine Below.drew ?_ | with_reducible refine ba _ _ ?_ | omega | (simp <;> omega))) | (first | with_reducible assumption | (with_reducible refine Below.drew ?_; with_reducible assumption) | (with_reducible refine ba _ _ ?_; with_reducible assumption) | (with_reducible refine Below.drew ?_; with_reducible refine ba _ _ ?_; with_reducible assumption) | exact Below.refl _ _ | exact (Below.refl _ _).drew | exact (Below.refl _ _).alloc (Nat.le_refl _) _ | (refine bc _ _ (by assumption) (by assumption))))
  clear hK K
  refine RegOk.put_ (m' := 4095) (by kernel_rfl) ?_
  try simp only [Act.put, List.setIfInBounds_toArray, List.set_cons_zero, List.set_cons_succ]
  refine hR.come (rs := [12]) (by kernel_rfl) (by simp) ?_
  refine AllReadyH.cons (o := ?o748_12) ?h748_12 (fun K hK => ?kw748_12) AllReadyH.nil
  case h748_12 => simp only [List.getElem?_toArray, List.getElem?_cons_succ, List.getElem?_cons_zero]; rfl
  go_simp
  go_at_call 19; ((with_reducible refine (resultRN (q := x) (xs := xs) (S := fun _ => True) HYS.out rfl rfl rfl _ HR.out hx32 (mvI H6 (by (first | with_reducible assumption | (with_reducible refine Below.drew ?_; with_reducible assumption) | (with_reducible refine ba _ _ ?_; with_reducible assumption) | (with_reducible refine Below.drew ?_; with_reducible refine ba _ _ ?_; with_reducible assumption) | exact Below.refl _ _ | exact (Below.refl _ _).drew | exact (Below.refl _ _).alloc (Nat.le_refl _) _ | (refine bc _ _ (by assumption) (by assumption))))).out).mono ?_)); rintro e wT ⟨AT, cT, rfl, hT1, hbT⟩; have hkT := bc _ _ (by (first | with_reducible assumption | (with_reducible refine Below.drew ?_; with_reducible assumption) | (with_reducible refine ba _ _ ?_; with_reducible assumption) | (with_reducible refine Below.drew ?_; with_reducible refine ba _ _ ?_; with_reducible assumption) | exact Below.refl _ _ | exact (Below.refl _ _).drew | exact (Below.refl _ _).alloc (Nat.le_refl _) _ | (refine bc _ _ (by assumption) (by assumption)))) hbT; have HT1 := Lib.hid hT1; clear hT1
  refine hK.out _ _ ?_ (fun hHeld => ?_)
  · (first | (repeat' (first | with_reducible assumption | exact Nat.le_refl _ | with_reducible refine Below.drew ?_ | with_reducible refine ba _ _ ?_ | omega | (simp <;> omega))) | (first | with_reducible assumption | (with_reducible refine Below.drew ?_; with_reducible assumption) | (with_reducible refine ba _ _ ?_; with_reducible assumption) | (with_reducible refine Below.drew ?_; with_reducible refine ba _ _ ?_; with_reducible assumption) | exact Below.refl _ _ | exact (Below.refl _ _).drew | exact (Below.refl _ _).alloc (Nat.le_refl _) _ | (refine bc _ _ (by assumption) (by assumption))))
  clear hK K
  refine RegOk.put_ (m' := 8191) (by kernel_rfl) ?_
  try simp only [Act.put, List.setIfInBounds_toArray, List.set_cons_zero, List.set_cons_succ]
  refine hR.come (rs := [13]) (by kernel_rfl) (by simp) ?_
  refine AllReadyH.cons (o := ?o749_13) ?h749_13 (fun K hK => ?kw749_13) AllReadyH.nil
  case h749_13 => simp only [List.getElem?_toArray, List.getElem?_cons_succ, List.getElem?_cons_zero]; rfl
  go_simp
  go_at_call 17; ((with_reducible refine (same15N (A := AR) (xs := ys) (S := fun _ => True) (T := fun _ => True) rfl _ (mvI HR1 hbT).out HT1.out).mono ?_)); rintro e wS1 ⟨rfl, hS1⟩; have hkS1 := bc _ _ (by (first | with_reducible assumption | (with_reducible refine Below.drew ?_; with_reducible assumption) | (with_reducible refine ba _ _ ?_; with_reducible assumption) | (with_reducible refine Below.drew ?_; with_reducible refine ba _ _ ?_; with_reducible assumption) | exact Below.refl _ _ | exact (Below.refl _ _).drew | exact (Below.refl _ _).alloc (Nat.le_refl _) _ | (refine bc _ _ (by assumption) (by assumption)))) hS1
  refine hK.out _ _ ?_ (fun hHeld => ?_)
  · (first | (repeat' (first | with_reducible assumption | exact Nat.le_refl _ | with_reducible refine Below.drew ?_ | with_reducible refine ba _ _ ?_ | omega | (simp <;> omega))) | (first | with_reducible assumption | (with_reducible refine Below.drew ?_; with_reducible assumption) | (with_reducible refine ba _ _ ?_; with_reducible assumption) | (with_reducible refine Below.drew ?_; with_reducible refine ba _ _ ?_; with_reducible assumption) | exact Below.refl _ _ | exact (Below.refl _ _).drew | exact (Below.refl _ _).alloc (Nat.le_refl _) _ | (refine bc _ _ (by assumption) (by assumption))))
  clear hK K
  refine RegOk.put_ (m' := 16383) (by kernel_rfl) ?_
  try simp only [Act.put, List.setIfInBounds_toArray, List.set_cons_zero, List.set_cons_succ]
  refine hR.take (i := 14) (oi := ?ow750_14) (v := ?vw750_14) (m' := 32767) ?hw750_14 (by kernel_rfl) (by kernel_rfl) (fun _ _ _ h => h) (Or.inl ⟨?sw750_14, ?yw750_14⟩) (by assumption) ?nw750_14
  case hw750_14 => simp only [List.getElem?_toArray, List.getElem?_cons_succ, List.getElem?_cons_zero]; rfl
  case sw750_14 => rfl
  case yw750_14 => (intro w hSw; (try dsimp only at hSw); go_simp <;> with_reducible rfl)
  try simp only [Act.put, List.setIfInBounds_toArray, List.set_cons_zero, List.set_cons_succ]
  refine hR.take (i := 15) (oi := ?ow751_15) (v := ?vw751_15) (m' := 65535) ?hw751_15 (by kernel_rfl) (by kernel_rfl) (fun _ _ _ h => h) (Or.inl ⟨?sw751_15, ?yw751_15⟩) (by assumption) ?nw751_15
  case hw751_15 => simp only [List.getElem?_toArray, List.getElem?_cons_succ, List.getElem?_cons_zero]; rfl
  case sw751_15 => rfl
  case yw751_15 => (intro w hSw; (try dsimp only at hSw); go_simp <;> with_reducible rfl)
  try simp only [Act.put, List.setIfInBounds_toArray, List.set_cons_zero, List.set_cons_succ]
  refine hR.take (i := 16) (oi := ?ow752_16) (v := ?vw752_16) (m' := 131071) ?hw752_16 (by kernel_rfl) (by kernel_rfl) (fun _ _ _ h => h) (Or.inl ⟨?sw752_16, ?yw752_16⟩) (by assumption) ?nw752_16
  case hw752_16 => simp only [List.getElem?_toArray, List.getElem?_cons_succ, List.getElem?_cons_zero]; rfl
  case sw752_16 => rfl
  case yw752_16 => (intro w hSw; (try dsimp only at hSw); go_simp <;> with_reducible rfl)
  try simp only [Act.put, List.setIfInBounds_toArray, List.set_cons_zero, List.set_cons_succ]
  refine hR.take (i := 17) (oi := ?ow753_17) (v := ?vw753_17) (m' := 262143) ?hw753_17 (by kernel_rfl) (by kernel_rfl) (fun _ _ _ h => h) (Or.inl ⟨?sw753_17, ?yw753_17⟩) (by assumption) ?nw753_17
  case hw753_17 => simp only [List.getElem?_toArray, List.getElem?_cons_succ, List.getElem?_cons_zero]; rfl
  case sw753_17 => rfl
  case yw753_17 => (intro w hSw; (try dsimp only at hSw); go_simp <;> with_reducible rfl)
  try simp only [Act.put, List.setIfInBounds_toArray, List.set_cons_zero, List.set_cons_succ]
  refine hR.take (i := 18) (oi := ?ow754_18) (v := ?vw754_18) (m' := 524287) ?hw754_18 (by kernel_rfl) (by kernel_rfl) (fun _ _ _ h => h) (Or.inl ⟨?sw754_18, ?yw754_18⟩) (by assumption) ?nw754_18
  case hw754_18 => simp only [List.getElem?_toArray, List.getElem?_cons_succ, List.getElem?_cons_zero]; rfl
  case sw754_18 => rfl
  case yw754_18 => (intro w hSw; (try dsimp only at hSw); go_simp <;> with_reducible rfl)
  try simp only [Act.put, List.setIfInBounds_toArray, List.set_cons_zero, List.set_cons_succ]
  refine hR.take (i := 19) (oi := ?ow755_19) (v := ?vw755_19) (m' := 1048575) ?hw755_19 (by kernel_rfl) (by kernel_rfl) (fun _ _ _ h => h) (Or.inl ⟨?sw755_19, ?yw755_19⟩) (by assumption) ?nw755_19
  case hw755_19 => simp only [List.getElem?_toArray, List.getElem?_cons_succ, List.getElem?_cons_zero]; rfl
  case sw755_19 => rfl
  case yw755_19 => (intro w hSw; (try dsimp only at hSw); go_simp <;> with_reducible rfl)
  try simp only [Act.put, List.setIfInBounds_toArray, List.set_cons_zero, List.set_cons_succ]
  refine hR.come (rs := [20]) (by kernel_rfl) (by simp) ?_
  refine AllReadyH.cons (o := ?o756_20) ?h756_20 (fun K hK => ?kw756_20) AllReadyH.nil
  case h756_20 => simp only [List.getElem?_toArray, List.getElem?_cons_succ, List.getElem?_cons_zero]; rfl
  go_simp
  go_at_call 17; ((with_reducible refine (same15N (A := P7) (xs := xs) (S := fun _ => True) (T := fun _ => True) rfl _ (mvI SA7 (by (first | with_reducible assumption | (with_reducible refine Below.drew ?_; with_reducible assumption) | (with_reducible refine ba _ _ ?_; with_reducible assumption) | (with_reducible refine Below.drew ?_; with_reducible refine ba _ _ ?_; with_reducible assumption) | exact Below.refl _ _ | exact (Below.refl _ _).drew | exact (Below.refl _ _).alloc (Nat.le_refl _) _ | (refine bc _ _ (by assumption) (by assumption))))).out (mvI SA8 (by (first | with_reducible assumption | (with_reducible refine Below.drew ?_; with_reducible assumption) | (with_reducible refine ba _ _ ?_; with_reducible assumption) | (with_reducible refine Below.drew ?_; with_reducible refine ba _ _ ?_; with_reducible assumption) | exact Below.refl _ _ | exact (Below.refl _ _).drew | exact (Below.refl _ _).alloc (Nat.le_refl _) _ | (refine bc _ _ (by assumption) (by assumption))))).out).mono ?_)); rintro e wS2 ⟨rfl, hS2⟩; have hkS2 := bc _ _ (by (first | with_reducible assumption | (with_reducible refine Below.drew ?_; with_reducible assumption) | (with_reducible refine ba _ _ ?_; with_reducible assumption) | (with_reducible refine Below.drew ?_; with_reducible refine ba _ _ ?_; with_reducible assumption) | exact Below.refl _ _ | exact (Below.refl _ _).drew | exact (Below.refl _ _).alloc (Nat.le_refl _) _ | (refine bc _ _ (by assumption) (by assumption)))) hS2
  refine hK.out _ _ ?_ (fun hHeld => ?_)
  · (first | (repeat' (first | with_reducible assumption | exact Nat.le_refl _ | with_reducible refine Below.drew ?_ | with_reducible refine ba _ _ ?_ | omega | (simp <;> omega))) | (first | with_reducible assumption | (with_reducible refine Below.drew ?_; with_reducible assumption) | (with_reducible refine ba _ _ ?_; with_reducible assumption) | (with_reducible refine Below.drew ?_; with_reducible refine ba _ _ ?_; with_reducible assumption) | exact Below.refl _ _ | exact (Below.refl _ _).drew | exact (Below.refl _ _).alloc (Nat.le_refl _) _ | (refine bc _ _ (by assumption) (by assumption))))
  clear hK K
  refine RegOk.put_ (m' := 2097151) (by kernel_rfl) ?_
  try simp only [Act.put, List.setIfInBounds_toArray, List.set_cons_zero, List.set_cons_succ]
  refine hR.take (i := 21) (oi := ?ow757_21) (v := ?vw757_21) (m' := 4194303) ?hw757_21 (by kernel_rfl) (by kernel_rfl) (fun _ _ _ h => h) (Or.inl ⟨?sw757_21, ?yw757_21⟩) (by assumption) ?nw757_21
  case hw757_21 => simp only [List.getElem?_toArray, List.getElem?_cons_succ, List.getElem?_cons_zero]; rfl
  case sw757_21 => rfl
  case yw757_21 => (intro w hSw; (try dsimp only at hSw); go_simp <;> with_reducible rfl)
  try simp only [Act.put, List.setIfInBounds_toArray, List.set_cons_zero, List.set_cons_succ]
  refine hR.take (i := 22) (oi := ?ow758_22) (v := ?vw758_22) (m' := 8388607) ?hw758_22 (by kernel_rfl) (by kernel_rfl) (fun _ _ _ h => h) (Or.inl ⟨?sw758_22, ?yw758_22⟩) (by assumption) ?nw758_22
  case hw758_22 => simp only [List.getElem?_toArray, List.getElem?_cons_succ, List.getElem?_cons_zero]; rfl
  case sw758_22 => rfl
  case yw758_22 => (intro w hSw; (try dsimp only at hSw); go_simp <;> with_reducible rfl)
  try simp only [Act.put, List.setIfInBounds_toArray, List.set_cons_zero, List.set_cons_succ]
  refine hR.take (i := 23) (oi := ?ow759_23) (v := ?vw759_23) (m' := 16777215) ?hw759_23 (by kernel_rfl) (by kernel_rfl) (fun _ _ _ h => h) (Or.inl ⟨?sw759_23, ?yw759_23⟩) (by assumption) ?nw759_23
  case hw759_23 => simp only [List.getElem?_toArray, List.getElem?_cons_succ, List.getElem?_cons_zero]; rfl
  case sw759_23 => rfl
  case yw759_23 => (intro w hSw; (try dsimp only at hSw); go_simp <;> with_reducible rfl)
  try simp only [Act.put, List.setIfInBounds_toArray, List.set_cons_zero, List.set_cons_succ]
  refine hR.take (i := 24) (oi := ?ow760_24) (v := ?vw760_24) (m' := 33554431) ?hw760_24 (by kernel_rfl) (by kernel_rfl) (fun _ _ _ h => h) (Or.inl ⟨?sw760_24, ?yw760_24⟩) (by assumption) ?nw760_24
  case hw760_24 => simp only [List.getElem?_toArray, List.getElem?_cons_succ, List.getElem?_cons_zero]; rfl
  case sw760_24 => rfl
  case yw760_24 => (intro w hSw; (try dsimp only at hSw); go_simp <;> with_reducible rfl)
  try simp only [Act.put, List.setIfInBounds_toArray, List.set_cons_zero, List.set_cons_succ]
  refine hR.take (i := 25) (oi := ?ow761_25) (v := ?vw761_25) (m' := 67108863) ?hw761_25 (by kernel_rfl) (by kernel_rfl) (fun _ _ _ h => h) (Or.inl ⟨?sw761_25, ?yw761_25⟩) (by assumption) ?nw761_25
  case hw761_25 => simp only [List.getElem?_toArray, List.getElem?_cons_succ, List.getElem?_cons_zero]; rfl
  case sw761_25 => rfl
  case yw761_25 => (intro w hSw; (try dsimp only at hSw); go_simp <;> with_reducible rfl)
  try simp only [Act.put, List.setIfInBounds_toArray, List.set_cons_zero, List.set_cons_succ]
  refine hR.take (i := 26) (oi := ?ow762_26) (v := ?vw762_26) (m' := 134217727) ?hw762_26 (by kernel_rfl) (by kernel_rfl) (fun _ _ _ h => h) (Or.inl ⟨?sw762_26, ?yw762_26⟩) (by assumption) ?nw762_26
  case hw762_26 => simp only [List.getElem?_toArray, List.getElem?_cons_succ, List.getElem?_cons_zero]; rfl
  case sw762_26 => rfl
  case yw762_26 => (intro w hSw; (try dsimp only at hSw); go_simp <;> with_reducible rfl)
  try simp only [Act.put, List.setIfInBounds_toArray, List.set_cons_zero, List.set_cons_succ]
  refine hR.come (rs := [27]) (by kernel_rfl) (by simp) ?_
  refine AllReadyH.cons (o := ?o763_27) ?h763_27 (fun K hK => ?kw763_27) AllReadyH.nil
  case h763_27 => simp only [List.getElem?_toArray, List.getElem?_cons_succ, List.getElem?_cons_zero]; rfl
  go_simp
  go_at_call 17; ((with_reducible refine (same15N (A := Q7) (xs := ys) (S := fun _ => True) (T := fun _ => True) rfl _ (mvI SB7 (by (first | with_reducible assumption | (with_reducible refine Below.drew ?_; with_reducible assumption) | (with_reducible refine ba _ _ ?_; with_reducible assumption) | (with_reducible refine Below.drew ?_; with_reducible refine ba _ _ ?_; with_reducible assumption) | exact Below.refl _ _ | exact (Below.refl _ _).drew | exact (Below.refl _ _).alloc (Nat.le_refl _) _ | (refine bc _ _ (by assumption) (by assumption))))).out (mvI SB8 (by (first | with_reducible assumption | (with_reducible refine Below.drew ?_; with_reducible assumption) | (with_reducible refine ba _ _ ?_; with_reducible assumption) | (with_reducible refine Below.drew ?_; with_reducible refine ba _ _ ?_; with_reducible assumption) | exact Below.refl _ _ | exact (Below.refl _ _).drew | exact (Below.refl _ _).alloc (Nat.le_refl _) _ | (refine bc _ _ (by assumption) (by assumption))))).out).mono ?_)); rintro e wS3 ⟨rfl, hS3⟩; have hkS3 := bc _ _ (by (first | with_reducible assumption | (with_reducible refine Below.drew ?_; with_reducible assumption) | (with_reducible refine ba _ _ ?_; with_reducible assumption) | (with_reducible refine Below.drew ?_; with_reducible refine ba _ _ ?_; with_reducible assumption) | exact Below.refl _ _ | exact (Below.refl _ _).drew | exact (Below.refl _ _).alloc (Nat.le_refl _) _ | (refine bc _ _ (by assumption) (by assumption)))) hS3
  refine hK.out _ _ ?_ (fun hHeld => ?_)
  · (first | (repeat' (first | with_reducible assumption | exact Nat.le_refl _ | with_reducible refine Below.drew ?_ | with_reducible refine ba _ _ ?_ | omega | (simp <;> omega))) | (first | with_reducible assumption | (with_reducible refine Below.drew ?_; with_reducible assumption) | (with_reducible refine ba _ _ ?_; with_reducible assumption) | (with_reducible refine Below.drew ?_; with_reducible refine ba _ _ ?_; with_reducible assumption) | exact Below.refl _ _ | exact (Below.refl _ _).drew | exact (Below.refl _ _).alloc (Nat.le_refl _) _ | (refine bc _ _ (by assumption) (by assumption))))
  clear hK K
  refine RegOk.put_ (m' := 268435455) (by kernel_rfl) ?_
  try simp only [Act.put, List.setIfInBounds_toArray, List.set_cons_zero, List.set_cons_succ]
  refine hR.take (i := 28) (oi := ?ow764_28) (v := ?vw764_28) (m' := 536870911) ?hw764_28 (by kernel_rfl) (by kernel_rfl) (fun _ _ _ h => h) (Or.inl ⟨?sw764_28, ?yw764_28⟩) (by assumption) ?nw764_28
  case hw764_28 => simp only [List.getElem?_toArray, List.getElem?_cons_succ, List.getElem?_cons_zero]; rfl
  case sw764_28 => rfl
  case yw764_28 => (intro w hSw; (try dsimp only at hSw); go_simp <;> with_reducible rfl)
  try simp only [Act.put, List.setIfInBounds_toArray, List.set_cons_zero, List.set_cons_succ]
  refine hR.take (i := 29) (oi := ?ow765_29) (v := ?vw765_29) (m' := 1073741823) ?hw765_29 (by kernel_rfl) (by kernel_rfl) (fun _ _ _ h => h) (Or.inl ⟨?sw765_29, ?yw765_29⟩) (by assumption) ?nw765_29
  case hw765_29 => simp only [List.getElem?_toArray, List.getElem?_cons_succ, List.getElem?_cons_zero]; rfl
  case sw765_29 => rfl
  case yw765_29 => (intro w hSw; (try dsimp only at hSw); go_simp <;> with_reducible rfl)
  try simp only [Act.put, List.setIfInBounds_toArray, List.set_cons_zero, List.set_cons_succ]
  refine hR.all (by kernel_rfl) ?_ _
  refine NoPanic.normal ?_
  go_wp2_with fail
  go_ret
  exact ⟨rfl, b8.out.trans (Below.mono (by (first | with_reducible assumption | (with_reducible refine Below.drew ?_; with_reducible assumption) | (with_reducible refine ba _ _ ?_; with_reducible assumption) | (with_reducible refine Below.drew ?_; with_reducible refine ba _ _ ?_; with_reducible assumption) | exact Below.refl _ _ | exact (Below.refl _ _).drew | exact (Below.refl _ _).alloc (Nat.le_refl _) _ | (refine bc _ _ (by assumption) (by assumption)))) b8.out.size)⟩
end Go.Proofs.YtmkpaolbejlodaaDoor
