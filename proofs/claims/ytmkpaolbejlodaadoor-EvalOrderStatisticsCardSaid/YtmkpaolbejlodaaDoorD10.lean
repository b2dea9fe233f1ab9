/-
  Texts of this claim, merged: EvS. Conditions: as each theorem says.
-/
import Derived.Lib.Mul64
import Derived.Laws.Bits64b
import Derived.Shelf.Bits.Mul64
import Derived.Test.YtmkpaolbejlodaaDoorD1
import Derived.Test.YtmkpaolbejlodaaDoorD2
import Derived.Test.YtmkpaolbejlodaaDoorD3
import Derived.Test.YtmkpaolbejlodaaDoorD4
import Derived.Test.YtmkpaolbejlodaaDoorD5
import Derived.Test.YtmkpaolbejlodaaDoorD6
import Derived.Test.YtmkpaolbejlodaaDoorD7
import Derived.Test.YtmkpaolbejlodaaDoorD8
import Derived.Test.YtmkpaolbejlodaaDoorD9
set_option linter.unusedSimpArgs false
set_option linter.unusedVariables false
namespace Go.Proofs.YtmkpaolbejlodaaDoor
open Go.RowKit

def s15 : Str := ⟨[⟨1, 0, 5, 10⟩, ⟨1, 0, 6, 20⟩, ⟨2, 0, 5, 30⟩], [false, false, false]⟩
def g15 : Str := ⟨[⟨1, 0, 5, 10⟩, ⟨1, 0, 6, 20⟩, ⟨2, 0, 5, 30⟩], [true, false, false]⟩
theorem ok15 : OkStr s15 := ⟨rfl, by simp [s15, ValidR]⟩
theorem okg15 : OkStr g15 := ⟨rfl, by simp [g15, ValidR]⟩
def qv (q : Qy) : Bool := validQB q && !wideB q
theorem qv_ok {q : Qy} (h : qv q = true) : ValidQ q ∧ wideB q = false := by
  unfold qv at h
  simp only [Bool.and_eq_true, Bool.not_eq_true'] at h
  exact ⟨(validQB_iff q).1 h.1, h.2⟩
def q1 : Qy := ⟨1, 0, 0, [[⟨2, 5, 5⟩]]⟩
def q2 : Qy := ⟨3, 3, 2, [[⟨0, 1, 1⟩]]⟩
def q3 : Qy := ⟨2, 3, 0, [[]]⟩
def q4 : Qy := ⟨5, 2, 0, [[]]⟩
def q5 : Qy := ⟨6, 2, 3, [[]]⟩
def q6 : Qy := ⟨6, 2, 4, [[]]⟩
def q7 : Qy := ⟨7, 0, 0, [[⟨2, 5, 5⟩], [⟨2, 5, 6⟩]]⟩
def q8 : Qy := ⟨4, 2, 0, [[]]⟩
def cnt15 : List Int := [0, 0, 0, 0, 0, 2, 1, 0, 0, 0, 0, 0, 0, 0, 0, 0]
def par15 : List Int := [0, 1, 1, 0, 0, 0, 0, 0, 0, 0, 0, 0, 0, 0, 0, 0, 0, 2, 1, 0, 0, 0, 0, 0, 0, 0, 0, 0, 0, 0, 0, 0]
theorem q1_ok : qv q1 = true := by kernel_rfl
theorem q1_xs : sumsF q1 (liveF s15) = [2] := by kernel_rfl
theorem q1_ys : resF q1 [2] = [2] := by kernel_rfl
theorem q2_ok : qv q2 = true := by kernel_rfl
theorem q2_xs : sumsF q2 (liveF s15) = [500] := by kernel_rfl
theorem q2_ys : resF q2 [500] = [500] := by kernel_rfl
theorem q3_ok : qv q3 = true := by kernel_rfl
theorem q3_xs : sumsF q3 (liveF g15) = [50] := by kernel_rfl
theorem q3_ys : resF q3 [50] = [50] := by kernel_rfl
theorem q4_ok : qv q4 = true := by kernel_rfl
theorem q4_xs : sumsF q4 (liveF s15) = cnt15 := by kernel_rfl
theorem q4_ys : resF q4 cnt15 = [2] := by kernel_rfl
theorem q5_ok : qv q5 = true := by kernel_rfl
theorem q5_xs : sumsF q5 (liveF s15) = cnt15 := by kernel_rfl
theorem q5_ys : resF q5 cnt15 = [6] := by kernel_rfl
theorem q6_ok : qv q6 = true := by kernel_rfl
theorem q6_xs : sumsF q6 (liveF s15) = cnt15 := by kernel_rfl
theorem q6_ys : resF q6 cnt15 = [] := by kernel_rfl
theorem q7_ok : qv q7 = true := by kernel_rfl
theorem q7_xs : sumsF q7 (liveF s15) = par15 := by kernel_rfl
theorem q7_ys : resF q7 par15 = [3] := by kernel_rfl
theorem q8_ok : qv q8 = true := by kernel_rfl
theorem q8_xs : sumsF q8 (liveF s15) = cnt15 := by kernel_rfl
def evS4 : List FRow := [(0, ([], (25, []))), (1, ([0], (26, [24]))), (2, ([1], (27, [25]))), (3, ([], (28, [1]))), (4, ([2, 3, 0], (29, [26, 27]))), (5, ([], (5, []))), (6, ([5, 4, 4, 0, 1, 2, 3, 4, 5], (0, [4, 28])))]
def evS5 : List FRow := [(0, ([], (30, []))), (1, ([0], (31, [29]))), (2, ([1], (32, [30]))), (3, ([], (33, [1]))), (4, ([2, 3, 0], (34, [31, 32]))), (5, ([], (6, []))), (6, ([5, 4, 4, 0, 1, 2, 3, 4, 5], (0, [5, 33])))]
def evS10 : List FRow := [(0, ([], (51, []))), (1, ([], (52, []))), (2, ([1], (53, [51]))), (3, ([0, 2], (54, [50, 52]))), (4, ([3], (55, [53]))), (5, ([], (56, [1]))), (6, ([4, 5, 0], (57, [54, 55]))), (7, ([], (11, []))), (8, ([7, 6, 6, 0, 1, 2, 3, 4, 5, 6, 7], (0, [10, 56])))]
set_option maxRecDepth 100000 in
set_option maxHeartbeats 16000000 in
theorem sanityL15 (w0 : World) : Calls Tryd.prog 10 #[] w0 fun e w' => e = .returned (.bool true) ∧ Below w0.heap.size w0 w' := by
  go_enter Tryd.func10, Tryd.ntmps10
  go_upto_region 1 with fail
  go_cut [1] (fun p wx => ∃ g, p = .pointer (some ⟨g, 0, none⟩) ∧ StB wx g s15 3 3 ∧ Below w0.heap.size w0 wx)
  case first =>
    go_wp2_with fail
    go_meet
    case rel =>
      refine ⟨_, rfl, ⟨_, _, _, _, heap_alloc_at (by simp), ?_, ?_⟩, (by repeat' (first | with_reducible exact Below.refl _ _ | with_reducible assumption | with_reducible refine Below.setCell ?_ ?_ _ | with_reducible refine Below.drew ?_ | with_reducible refine below_drewN ?_ _ | with_reducible refine Below.alloc ?_ ?_ _ | (rintro _ ⟨⟩; simp <;> omega) | omega | (simp <;> omega)))⟩
      · exact Sl.ofRow (cs := [.int .i64 1, .int .i64 0, .int .i64 5, .int .i64 10, .int .i64 1, .int .i64 0, .int .i64 6, .int .i64 20, .int .i64 2, .int .i64 0, .int .i64 5, .int .i64 30]) (by repeat' (first | with_reducible assumption | (with_reducible refine heap_alloc_at ?_; (first | rfl | omega | (simp [World.setCell]; done) | (simp [World.setCell]; omega))) | with_reducible refine set2 (a := .slice none 0 0) (b := .slice none 0 0) ?_ | (with_reducible refine (Below.heap_setCell _ _ _ _ ?_).trans ?_) | (with_reducible refine (Below.heap_alloc _ _ _ ?_).trans ?_) | (with_reducible refine drew_get2 ?_) | (with_reducible refine (hbC.block _ ?_).trans ?_) | (with_reducible refine (hbO.block _ ?_).trans ?_) | (simp [World.setCell]; done) | omega | (simp [World.setCell] <;> omega))) ⟨[_, _, _, _], _, rfl, rdE_shut (r := ⟨1, 0, 5, 10⟩), [_, _, _, _], _, rfl, rdE_shut (r := ⟨1, 0, 6, 20⟩), [_, _, _, _], [], rfl, rdE_shut (r := ⟨2, 0, 5, 30⟩), rfl⟩ trivial (by unfold maxLen; simp [s15])
      · exact Sl.ofRow (cs := [.bool false, .bool false, .bool false]) (by repeat' (first | with_reducible assumption | (with_reducible refine heap_alloc_at ?_; (first | rfl | omega | (simp [World.setCell]; done) | (simp [World.setCell]; omega))) | with_reducible refine set2 (a := .slice none 0 0) (b := .slice none 0 0) ?_ | (with_reducible refine (Below.heap_setCell _ _ _ _ ?_).trans ?_) | (with_reducible refine (Below.heap_alloc _ _ _ ?_).trans ?_) | (with_reducible refine drew_get2 ?_) | (with_reducible refine (hbC.block _ ?_).trans ?_) | (with_reducible refine (hbO.block _ ?_).trans ?_) | (simp [World.setCell]; done) | omega | (simp [World.setCell] <;> omega))) ⟨[_], _, rfl, rfl, [_], _, rfl, rfl, [_], [], rfl, rfl, rfl⟩ trivial (by unfold maxLen; simp [s15])
  obtain ⟨g1, rfl, hst, hb⟩ := hcut
  obtain ⟨w1, hwv⟩ : ∃ x, x = wc := ⟨_, rfl⟩
  subst hwv
  have S1 := Lib.hid hst
  have b1 := Lib.hid hb
  clear hst hb
  obtain ⟨L, cl, G, cg, hg, hsL, -⟩ := S1.out
  obtain ⟨s0, s1⟩ := two2 (Lib.hid hg)
  have HL := Lib.hid hsL
  have lg := heap_lt hg
  have lg1 : g1 < w1.heap.size + 1 := by omega
  clear hg hsL
  go_upto_region 2 with fail
  go_cut [2] (fun p wx => ∃ g, p = .pointer (some ⟨g, 0, none⟩) ∧ StB wx g g15 3 3 ∧ Below w1.heap.size w1 wx)
  case first =>
    go_wp2_with fail
    go_meet
    case rel =>
      refine ⟨_, rfl, ⟨L, cl, _, _, heap_alloc_at (by simp), ?_, ?_⟩, (by repeat' (first | with_reducible exact Below.refl _ _ | with_reducible assumption | with_reducible refine Below.setCell ?_ ?_ _ | with_reducible refine Below.drew ?_ | with_reducible refine below_drewN ?_ _ | with_reducible refine Below.alloc ?_ ?_ _ | (rintro _ ⟨⟩; simp <;> omega) | omega | (simp <;> omega)))⟩
      · exact (HL.out.alloc_ _).alloc_ _
      · exact Sl.ofRow (cs := [.bool true, .bool false, .bool false]) (by repeat' (first | with_reducible assumption | (with_reducible refine heap_alloc_at ?_; (first | rfl | omega | (simp [World.setCell]; done) | (simp [World.setCell]; omega))) | with_reducible refine set2 (a := .slice none 0 0) (b := .slice none 0 0) ?_ | (with_reducible refine (Below.heap_setCell _ _ _ _ ?_).trans ?_) | (with_reducible refine (Below.heap_alloc _ _ _ ?_).trans ?_) | (with_reducible refine drew_get2 ?_) | (with_reducible refine (hbC.block _ ?_).trans ?_) | (with_reducible refine (hbO.block _ ?_).trans ?_) | (simp [World.setCell]; done) | omega | (simp [World.setCell] <;> omega))) ⟨[_], _, rfl, rfl, [_], _, rfl, rfl, [_], [], rfl, rfl, rfl⟩ trivial (by unfold maxLen; simp [g15])
  obtain ⟨g2, rfl, hst, hb⟩ := hcut
  obtain ⟨w2, hwv⟩ : ∃ x, x = wc := ⟨_, rfl⟩
  subst hwv
  have S2 := Lib.hid hst
  replace S1 := mvSt S1 hb
  have b2 := Lib.hid (b1.out.trans (hb.mono b1.out.size))
  clear hst hb s0 s1 lg lg1 HL b1
  go_upto_region 3 with fail
  go_cut [3] (fun p wx => ∃ F, p = .slice (some ⟨F, 0, none⟩) 1 1 ∧ Sl cdE.slice (fun _ => True) wx (some ⟨F, 0, none⟩) 1 [[]] ∧ Below w2.heap.size w2 wx)
  case first =>
    go_wp2_with fail
    go_meet
    case rel => exact ⟨_, rfl, sl_fs1 (l := []) (heap_alloc_at (by simp)) (Sl.nil_ _ _ _ _ (Nat.zero_le _)) trivial, (by repeat' (first | with_reducible exact Below.refl _ _ | with_reducible assumption | with_reducible refine Below.setCell ?_ ?_ _ | with_reducible refine Below.drew ?_ | with_reducible refine below_drewN ?_ _ | with_reducible refine Below.alloc ?_ ?_ _ | (rintro _ ⟨⟩; simp <;> omega) | omega | (simp <;> omega)))⟩
  obtain ⟨F, rfl, hf, hb⟩ := hcut
  obtain ⟨w3, hwv⟩ : ∃ x, x = wc := ⟨_, rfl⟩
  subst hwv
  have XF := Lib.hid hf
  replace S1 := mvSt S1 hb
  replace S2 := mvSt S2 hb
  have b3 := Lib.hid (b2.out.trans (hb.mono b2.out.size))
  clear hf hb b2
  obtain ⟨L, cl, G, cg, hg, hsL, hsG⟩ := S1.out
  have HG1 := Lib.hid hg
  have HSL := Lib.hid hsL
  have HSG := Lib.hid hsG
  have lg := heap_lt hg
  have zs : ∀ W, Below w3.heap.size w3 W → _ ∧ _ := fun W hW => two2 (mvQ HG1 hW)
  have br : Below w3.heap.size w3 w3 := Below.refl _ _
  have ba : ∀ W o, Below w3.heap.size w3 W → Below w3.heap.size w3 (W.alloc o) := fun W o h => h.alloc h.size o
  have bc : ∀ W W', Below w3.heap.size w3 W → Below W.heap.size W W' → Below w3.heap.size w3 W' := fun W W' h k => h.trans (k.mono h.size)
  clear hg hsL hsG
  go_upto_region 4 with fail
  go_cut [4] (fun p wx => ∃ g, p = .pointer (some ⟨g, 0, none⟩) ∧ An wx g [2] [2] 1 1 ∧ Below w3.heap.size w3 wx)
  case first =>
    refine wp_region_noPanic ?_
    refine wp_region_held_drew (S := fun X => Below w3.heap.size w3 X) (by kernel_rfl) ?_ (fun hHeld => ?_)
    · (first | (repeat' (first | with_reducible assumption | exact Nat.le_refl _ | with_reducible refine Below.setCell ?_ ?_ _ | with_reducible refine Below.drew ?_ | with_reducible refine ba _ _ ?_ | omega | (simp <;> omega))) | (first | with_reducible assumption | (with_reducible refine Below.drew ?_; with_reducible assumption) | (with_reducible refine ba _ _ ?_; with_reducible assumption) | (with_reducible refine Below.drew ?_; with_reducible refine ba _ _ ?_; with_reducible assumption) | exact Below.refl _ _ | exact (Below.refl _ _).drew | exact (Below.refl _ _).alloc (Nat.le_refl _) _ | (refine bc _ _ (by assumption) (by assumption))))
    refine RegOk.begin_ (n := 7) (T := evS4) ⟨by kernel_rfl, by kernel_rfl, by kernel_rfl, by kernel_rfl⟩ fun hR => ?_
    refine hR.take (i := 3) (oi := ?ow652_3) (v := ?vw652_3) (m' := 8) ?hw652_3 (by kernel_rfl) (by kernel_rfl) (fun _ _ _ h => h) (Or.inl ⟨?sw652_3, ?yw652_3⟩) (by assumption) ?nw652_3
    case hw652_3 => simp only [List.getElem?_toArray, List.getElem?_cons_succ, List.getElem?_cons_zero]; rfl
    case sw652_3 => rfl
    case yw652_3 => (intro w hSw; (try dsimp only at hSw); go_simp <;> with_reducible rfl)
    try simp only [Act.put, List.setIfInBounds_toArray, List.set_cons_zero, List.set_cons_succ]
    refine hR.come (rs := [0, 5]) (by kernel_rfl) (by simp) ?_
    refine AllReadyH.cons (o := ?o653_0) ?h653_0 (fun K hK => ?kw653_0) (AllReadyH.cons (o := ?o653_5) ?h653_5 (fun K hK => ?kw653_5) AllReadyH.nil)
    case h653_0 => simp only [List.getElem?_toArray, List.getElem?_cons_succ, List.getElem?_cons_zero]; rfl
    case h653_5 => simp only [List.getElem?_toArray, List.getElem?_cons_succ, List.getElem?_cons_zero]; rfl
    case kw653_0 =>
      go_simp
      go_at_call 29; refine (onlyL15 _ _ _).mono ?_; rintro e wO ⟨gO, rfl, hO, hzO, hbO⟩; have hkO := bc _ _ (by (first | with_reducible assumption | (with_reducible refine Below.drew ?_; with_reducible assumption) | (with_reducible refine ba _ _ ?_; with_reducible assumption) | (with_reducible refine Below.drew ?_; with_reducible refine ba _ _ ?_; with_reducible assumption) | exact Below.refl _ _ | exact (Below.refl _ _).drew | exact (Below.refl _ _).alloc (Nat.le_refl _) _ | (refine bc _ _ (by assumption) (by assumption)))) hbO; obtain ⟨hcO, hfO⟩ := bcell hbO; have hzP := hbO.size; (try simp at hzP); (try have hl6 : w3.heap.size < wO.heap.size := (by omega)); (try have hl7 : w3.heap.size < gO + 1 := (by omega)); (try have hl8 : w3.heap.size < gO + 1 + 1 := (by omega)); have HO := Lib.hid hO; clear hO
      refine hK.out _ _ ?_ (fun hHeld => ?_)
      · (first | (repeat' (first | with_reducible assumption | exact Nat.le_refl _ | with_reducible refine Below.setCell ?_ ?_ _ | with_reducible refine Below.drew ?_ | with_reducible refine ba _ _ ?_ | omega | (simp <;> omega))) | (first | with_reducible assumption | (with_reducible refine Below.drew ?_; with_reducible assumption) | (with_reducible refine ba _ _ ?_; with_reducible assumption) | (with_reducible refine Below.drew ?_; with_reducible refine ba _ _ ?_; with_reducible assumption) | exact Below.refl _ _ | exact (Below.refl _ _).drew | exact (Below.refl _ _).alloc (Nat.le_refl _) _ | (refine bc _ _ (by assumption) (by assumption))))
      clear hK K
      refine RegOk.put_ (m' := 9) (by kernel_rfl) ?_
      try simp only [Act.put, List.setIfInBounds_toArray, List.set_cons_zero, List.set_cons_succ]
      refine hR.come (rs := [1, 5]) (by kernel_rfl) (by simp) ?_
      refine AllReadyH.cons (o := ?o654_1) ?h654_1 (fun K hK => ?kw654_1) (AllReadyH.cons (o := ?o654_5) ?h654_5 (fun K hK => ?kw654_5) AllReadyH.nil)
      case h654_1 => simp only [List.getElem?_toArray, List.getElem?_cons_succ, List.getElem?_cons_zero]; rfl
      case h654_5 => simp only [List.getElem?_toArray, List.getElem?_cons_succ, List.getElem?_cons_zero]; rfl
      case kw654_1 =>
        go_simp <;> (try go_wp2_with fail)
        refine hK.out _ _ ?_ (fun hHeld => ?_)
        · (first | (repeat' (first | with_reducible assumption | exact Nat.le_refl _ | with_reducible refine Below.setCell ?_ ?_ _ | with_reducible refine Below.drew ?_ | with_reducible refine ba _ _ ?_ | omega | (simp <;> omega))) | (first | with_reducible assumption | (with_reducible refine Below.drew ?_; with_reducible assumption) | (with_reducible refine ba _ _ ?_; with_reducible assumption) | (with_reducible refine Below.drew ?_; with_reducible refine ba _ _ ?_; with_reducible assumption) | exact Below.refl _ _ | exact (Below.refl _ _).drew | exact (Below.refl _ _).alloc (Nat.le_refl _) _ | (refine bc _ _ (by assumption) (by assumption))))
        clear hK K
        refine RegOk.put_ (m' := 11) (by kernel_rfl) ?_
        try simp only [Act.put, List.setIfInBounds_toArray, List.set_cons_zero, List.set_cons_succ]
        refine hR.take (i := 2) (oi := ?ow655_2) (v := ?vw655_2) (m' := 15) ?hw655_2 (by kernel_rfl) (by kernel_rfl) (fun _ _ _ h => h) (Or.inl ⟨?sw655_2, ?yw655_2⟩) (by assumption) ?nw655_2
        case hw655_2 => simp only [List.getElem?_toArray, List.getElem?_cons_succ, List.getElem?_cons_zero]; rfl
        case sw655_2 => rfl
        case yw655_2 => (intro w hSw; (try dsimp only at hSw); go_simp <;> with_reducible rfl)
        try simp only [Act.put, List.setIfInBounds_toArray, List.set_cons_zero, List.set_cons_succ]
        refine hR.come (rs := [4, 5]) (by kernel_rfl) (by simp) ?_
        refine AllReadyH.cons (o := ?o656_4) ?h656_4 (fun K hK => ?kw656_4) (AllReadyH.cons (o := ?o656_5) ?h656_5 (fun K hK => ?kw656_5) AllReadyH.nil)
        case h656_4 => simp only [List.getElem?_toArray, List.getElem?_cons_succ, List.getElem?_cons_zero]; rfl
        case h656_5 => simp only [List.getElem?_toArray, List.getElem?_cons_succ, List.getElem?_cons_zero]; rfl
        case kw656_4 =>
          go_simp
          go_at_call 15; refine (answerN (q := q1) (s := s15) q1_xs q1_ys rfl rfl rfl rfl rfl _ (qv_ok q1_ok).1 (qv_ok q1_ok).2 ok15 (by decide) (sl_fs1N (S := fun _ => True) (n := 1) (t := 49) (l := [⟨2, 5, 5⟩]) rfl (by repeat' (first | with_reducible assumption | (with_reducible refine heap_alloc_at ?_; (first | rfl | omega | (simp [World.setCell]; done) | (simp [World.setCell]; omega))) | with_reducible refine set2 (a := .slice none 0 0) (b := .slice none 0 0) ?_ | (with_reducible refine (Below.heap_setCell _ _ _ _ ?_).trans ?_) | (with_reducible refine (Below.heap_alloc _ _ _ ?_).trans ?_) | (with_reducible refine drew_get2 ?_) | (with_reducible refine (hbC.block _ ?_).trans ?_) | (with_reducible refine (hbO.block _ ?_).trans ?_) | (simp [World.setCell]; done) | omega | (simp [World.setCell] <;> omega))) (by repeat' (first | with_reducible refine Sl.alloc_ ?_ _ | with_reducible refine Sl.drew ?_ | exact HO.out)) trivial) (HSL.out.keep (Below.agree (by (first | with_reducible assumption | (with_reducible refine Below.drew ?_; with_reducible assumption) | (with_reducible refine ba _ _ ?_; with_reducible assumption) | (with_reducible refine Below.drew ?_; with_reducible refine ba _ _ ?_; with_reducible assumption) | exact Below.refl _ _ | exact (Below.refl _ _).drew | exact (Below.refl _ _).alloc (Nat.le_refl _) _ | (refine bc _ _ (by assumption) (by assumption)))))) (HSG.out.keep (Below.agree (by (first | with_reducible assumption | (with_reducible refine Below.drew ?_; with_reducible assumption) | (with_reducible refine ba _ _ ?_; with_reducible assumption) | (with_reducible refine Below.drew ?_; with_reducible refine ba _ _ ?_; with_reducible assumption) | exact Below.refl _ _ | exact (Below.refl _ _).drew | exact (Below.refl _ _).alloc (Nat.le_refl _) _ | (refine bc _ _ (by assumption) (by assumption))))))).mono ?_; rintro e wC ⟨A, c, B, d, rfl, h1, h2, hbC⟩; have hkC := bc _ _ (by (first | with_reducible assumption | (with_reducible refine Below.drew ?_; with_reducible assumption) | (with_reducible refine ba _ _ ?_; with_reducible assumption) | (with_reducible refine Below.drew ?_; with_reducible refine ba _ _ ?_; with_reducible assumption) | exact Below.refl _ _ | exact (Below.refl _ _).drew | exact (Below.refl _ _).alloc (Nat.le_refl _) _ | (refine bc _ _ (by assumption) (by assumption)))) hbC; obtain ⟨hcC, hfC⟩ := bcell hbC; have hzC := hbC.size; (try simp at hzC); (try have hl0 : w3.heap.size < wC.heap.size := (by omega)); (try have hl3 : gO < wC.heap.size := (by omega)); (try have hl4 : gO + 1 < wC.heap.size := (by omega)); (try have hl5 : gO + 1 + 1 < wC.heap.size := (by omega)); (try have hl1 : w3.heap.size + 1 < wC.heap.size := (by omega)); (try have hl2 : w3.heap.size + 1 + 1 < wC.heap.size := (by omega))
          refine hK.out _ _ ?_ (fun hHeld => ?_)
          · (first | (repeat' (first | with_reducible assumption | exact Nat.le_refl _ | with_reducible refine Below.setCell ?_ ?_ _ | with_reducible refine Below.drew ?_ | with_reducible refine ba _ _ ?_ | omega | (simp <;> omega))) | (first | with_reducible assumption | (with_reducible refine Below.drew ?_; with_reducible assumption) | (with_reducible refine ba _ _ ?_; with_reducible assumption) | (with_reducible refine Below.drew ?_; with_reducible refine ba _ _ ?_; with_reducible assumption) | exact Below.refl _ _ | exact (Below.refl _ _).drew | exact (Below.refl _ _).alloc (Nat.le_refl _) _ | (refine bc _ _ (by assumption) (by assumption))))
          clear hK K
          refine RegOk.put_ (m' := 31) (by kernel_rfl) ?_
          try simp only [Act.put, List.setIfInBounds_toArray, List.set_cons_zero, List.set_cons_succ]
          refine hR.come (rs := [5]) (by kernel_rfl) (by simp) ?_
          refine AllReadyH.cons (o := ?o657_5) ?h657_5 (fun K hK => ?kw657_5) AllReadyH.nil
          case h657_5 => simp only [List.getElem?_toArray, List.getElem?_cons_succ, List.getElem?_cons_zero]; rfl
          go_simp <;> (try go_wp2_with fail)
          refine hK.out _ _ ?_ (fun hHeld => ?_)
          · (first | (repeat' (first | with_reducible assumption | exact Nat.le_refl _ | with_reducible refine Below.setCell ?_ ?_ _ | with_reducible refine Below.drew ?_ | with_reducible refine ba _ _ ?_ | omega | (simp <;> omega))) | (first | with_reducible assumption | (with_reducible refine Below.drew ?_; with_reducible assumption) | (with_reducible refine ba _ _ ?_; with_reducible assumption) | (with_reducible refine Below.drew ?_; with_reducible refine ba _ _ ?_; with_reducible assumption) | exact Below.refl _ _ | exact (Below.refl _ _).drew | exact (Below.refl _ _).alloc (Nat.le_refl _) _ | (refine bc _ _ (by assumption) (by assumption))))
          clear hK K
          refine RegOk.put_ (m' := 63) (by kernel_rfl) ?_
          try simp only [Act.put, List.setIfInBounds_toArray, List.set_cons_zero, List.set_cons_succ]
          refine hR.come (rs := [6]) (by kernel_rfl) (by simp) ?_
          refine AllReadyH.cons (o := ?o658_6) ?h658_6 (fun K hK => ?kw658_6) AllReadyH.nil
          case h658_6 => simp only [List.getElem?_toArray, List.getElem?_cons_succ, List.getElem?_cons_zero]; rfl
          go_simp <;> (try go_wp2_with fail)
          refine hK.out _ _ ?_ (fun hHeld => ?_)
          · (first | (repeat' (first | with_reducible assumption | exact Nat.le_refl _ | with_reducible refine Below.setCell ?_ ?_ _ | with_reducible refine Below.drew ?_ | with_reducible refine ba _ _ ?_ | omega | (simp <;> omega))) | (first | with_reducible assumption | (with_reducible refine Below.drew ?_; with_reducible assumption) | (with_reducible refine ba _ _ ?_; with_reducible assumption) | (with_reducible refine Below.drew ?_; with_reducible refine ba _ _ ?_; with_reducible assumption) | exact Below.refl _ _ | exact (Below.refl _ _).drew | exact (Below.refl _ _).alloc (Nat.le_refl _) _ | (refine bc _ _ (by assumption) (by assumption))))
          clear hK K
          refine RegOk.put_ (m' := 127) (by kernel_rfl) ?_
          try simp only [Act.put, List.setIfInBounds_toArray, List.set_cons_zero, List.set_cons_succ]
          refine hR.all (by kernel_rfl) ?_ _
          refine NoPanic.normal ?_
          go_wp2_with fail
          go_meet
          case rel =>
            refine ⟨_, rfl, ⟨A, c, B, d, (by repeat' (first | with_reducible assumption | (with_reducible refine heap_alloc_at ?_; (first | rfl | omega | (simp [World.setCell]; done) | (simp [World.setCell]; omega))) | with_reducible refine set2 (a := .slice none 0 0) (b := .slice none 0 0) ?_ | (with_reducible refine (Below.heap_setCell _ _ _ _ ?_).trans ?_) | (with_reducible refine (Below.heap_alloc _ _ _ ?_).trans ?_) | (with_reducible refine drew_get2 ?_) | (with_reducible refine (hbC.block _ ?_).trans ?_) | (with_reducible refine (hbO.block _ ?_).trans ?_) | (simp [World.setCell]; done) | omega | (simp [World.setCell] <;> omega))), ?_, ?_⟩, by assumption⟩
            · (first | (with_reducible refine Sl.sub (Sl.alloc_ h1 _) ?_; exact (fun _ _ _ => trivial)) | (refine Sl.two_ h1 ?_; rintro ⟨a, b⟩; simp at a; omega))
            · (first | (with_reducible refine Sl.sub (Sl.alloc_ h2 _) ?_; exact (fun _ _ _ => trivial)) | (refine Sl.two_ h2 ?_; rintro ⟨a, b⟩; simp at a; omega))
        case kw656_5 =>
          go_simp <;> (try go_wp2_with fail)
          refine hK.out _ _ ?_ (fun hHeld => ?_)
          · (first | (repeat' (first | with_reducible assumption | exact Nat.le_refl _ | with_reducible refine Below.setCell ?_ ?_ _ | with_reducible refine Below.drew ?_ | with_reducible refine ba _ _ ?_ | omega | (simp <;> omega))) | (first | with_reducible assumption | (with_reducible refine Below.drew ?_; with_reducible assumption) | (with_reducible refine ba _ _ ?_; with_reducible assumption) | (with_reducible refine Below.drew ?_; with_reducible refine ba _ _ ?_; with_reducible assumption) | exact Below.refl _ _ | exact (Below.refl _ _).drew | exact (Below.refl _ _).alloc (Nat.le_refl _) _ | (refine bc _ _ (by assumption) (by assumption))))
          clear hK K
          refine RegOk.put_ (m' := 47) (by kernel_rfl) ?_
          try simp only [Act.put, List.setIfInBounds_toArray, List.set_cons_zero, List.set_cons_succ]
          refine hR.come (rs := [4]) (by kernel_rfl) (by simp) ?_
          refine AllReadyH.cons (o := ?o659_4) ?h659_4 (fun K hK => ?kw659_4) AllReadyH.nil
          case h659_4 => simp only [List.getElem?_toArray, List.getElem?_cons_succ, List.getElem?_cons_zero]; rfl
          go_simp
          go_at_call 15; refine (answerN (q := q1) (s := s15) q1_xs q1_ys rfl rfl rfl rfl rfl _ (qv_ok q1_ok).1 (qv_ok q1_ok).2 ok15 (by decide) (sl_fs1N (S := fun _ => True) (n := 1) (t := 49) (l := [⟨2, 5, 5⟩]) rfl (by repeat' (first | with_reducible assumption | (with_reducible refine heap_alloc_at ?_; (first | rfl | omega | (simp [World.setCell]; done) | (simp [World.setCell]; omega))) | with_reducible refine set2 (a := .slice none 0 0) (b := .slice none 0 0) ?_ | (with_reducible refine (Below.heap_setCell _ _ _ _ ?_).trans ?_) | (with_reducible refine (Below.heap_alloc _ _ _ ?_).trans ?_) | (with_reducible refine drew_get2 ?_) | (with_reducible refine (hbC.block _ ?_).trans ?_) | (with_reducible refine (hbO.block _ ?_).trans ?_) | (simp [World.setCell]; done) | omega | (simp [World.setCell] <;> omega))) (by repeat' (first | with_reducible refine Sl.alloc_ ?_ _ | with_reducible refine Sl.drew ?_ | exact HO.out)) trivial) (HSL.out.keep (Below.agree (by (first | with_reducible assumption | (with_reducible refine Below.drew ?_; with_reducible assumption) | (with_reducible refine ba _ _ ?_; with_reducible assumption) | (with_reducible refine Below.drew ?_; with_reducible refine ba _ _ ?_; with_reducible assumption) | exact Below.refl _ _ | exact (Below.refl _ _).drew | exact (Below.refl _ _).alloc (Nat.le_refl _) _ | (refine bc _ _ (by assumption) (by assumption)))))) (HSG.out.keep (Below.agree (by (first | with_reducible assumption | (with_reducible refine Below.drew ?_; with_reducible assumption) | (with_reducible refine ba _ _ ?_; with_reducible assumption) | (with_reducible refine Below.drew ?_; with_reducible refine ba _ _ ?_; with_reducible assumption) | exact Below.refl _ _ | exact (Below.refl _ _).drew | exact (Below.refl _ _).alloc (Nat.le_refl _) _ | (refine bc _ _ (by assumption) (by assumption))))))).mono ?_; rintro e wC ⟨A, c, B, d, rfl, h1, h2, hbC⟩; have hkC := bc _ _ (by (first | with_reducible assumption | (with_reducible refine Below.drew ?_; with_reducible assumption) | (with_reducible refine ba _ _ ?_; with_reducible assumption) | (with_reducible refine Below.drew ?_; with_reducible refine ba _ _ ?_; with_reducible assumption) | exact Below.refl _ _ | exact (Below.refl _ _).drew | exact (Below.refl _ _).alloc (Nat.le_refl _) _ | (refine bc _ _ (by assumption) (by assumption)))) hbC; obtain ⟨hcC, hfC⟩ := bcell hbC; have hzC := hbC.size; (try simp at hzC); (try have hl0 : w3.heap.size < wC.heap.size := (by omega)); (try have hl3 : gO < wC.heap.size := (by omega)); (try have hl4 : gO + 1 < wC.heap.size := (by omega)); (try have hl5 : gO + 1 + 1 < wC.heap.size := (by omega)); (try have hl1 : w3.heap.size + 1 < wC.heap.size := (by omega)); (try have hl2 : w3.heap.size + 1 + 1 < wC.heap.size := (by omega))
          refine hK.out _ _ ?_ (fun hHeld => ?_)
          · (first | (repeat' (first | with_reducible assumption | exact Nat.le_refl _ | with_reducible refine Below.setCell ?_ ?_ _ | with_reducible refine Below.drew ?_ | with_reducible refine ba _ _ ?_ | omega | (simp <;> omega))) | (first | with_reducible assumption | (with_reducible refine Below.drew ?_; with_reducible assumption) | (with_reducible refine ba _ _ ?_; with_reducible assumption) | (with_reducible refine Below.drew ?_; with_reducible refine ba _ _ ?_; with_reducible assumption) | exact Below.refl _ _ | exact (Below.refl _ _).drew | exact (Below.refl _ _).alloc (Nat.le_refl _) _ | (refine bc _ _ (by assumption) (by assumption))))
          clear hK K
          refine RegOk.put_ (m' := 63) (by kernel_rfl) ?_
          try simp only [Act.put, List.setIfInBounds_toArray, List.set_cons_zero, List.set_cons_succ]
          refine hR.come (rs := [6]) (by kernel_rfl) (by simp) ?_
          refine AllReadyH.cons (o := ?o660_6) ?h660_6 (fun K hK => ?kw660_6) AllReadyH.nil
          case h660_6 => simp only [List.getElem?_toArray, List.getElem?_cons_succ, List.getElem?_cons_zero]; rfl
          go_simp <;> (try go_wp2_with fail)
          refine hK.out _ _ ?_ (fun hHeld => ?_)
          · (first | (repeat' (first | with_reducible assumption | exact Nat.le_refl _ | with_reducible refine Below.setCell ?_ ?_ _ | with_reducible refine Below.drew ?_ | with_reducible refine ba _ _ ?_ | omega | (simp <;> omega))) | (first | with_reducible assumption | (with_reducible refine Below.drew ?_; with_reducible assumption) | (with_reducible refine ba _ _ ?_; with_reducible assumption) | (with_reducible refine Below.drew ?_; with_reducible refine ba _ _ ?_; with_reducible assumption) | exact Below.refl _ _ | exact (Below.refl _ _).drew | exact (Below.refl _ _).alloc (Nat.le_refl _) _ | (refine bc _ _ (by assumption) (by assumption))))
          clear hK K
          refine RegOk.put_ (m' := 127) (by kernel_rfl) ?_
          try simp only [Act.put, List.setIfInBounds_toArray, List.set_cons_zero, List.set_cons_succ]
          refine hR.all (by kernel_rfl) ?_ _
          refine NoPanic.normal ?_
          go_wp2_with fail
          go_meet
          case rel =>
            refine ⟨_, rfl, ⟨A, c, B, d, (by repeat' (first | with_reducible assumption | (with_reducible refine heap_alloc_at ?_; (first | rfl | omega | (simp [World.setCell]; done) | (simp [World.setCell]; omega))) | with_reducible refine set2 (a := .slice none 0 0) (b := .slice none 0 0) ?_ | (with_reducible refine (Below.heap_setCell _ _ _ _ ?_).trans ?_) | (with_reducible refine (Below.heap_alloc _ _ _ ?_).trans ?_) | (with_reducible refine drew_get2 ?_) | (with_reducible refine (hbC.block _ ?_).trans ?_) | (with_reducible refine (hbO.block _ ?_).trans ?_) | (simp [World.setCell]; done) | omega | (simp [World.setCell] <;> omega))), ?_, ?_⟩, by assumption⟩
            · (first | (with_reducible refine Sl.sub (Sl.alloc_ h1 _) ?_; exact (fun _ _ _ => trivial)) | (refine Sl.two_ h1 ?_; rintro ⟨a, b⟩; simp at a; omega))
            · (first | (with_reducible refine Sl.sub (Sl.alloc_ h2 _) ?_; exact (fun _ _ _ => trivial)) | (refine Sl.two_ h2 ?_; rintro ⟨a, b⟩; simp at a; omega))
      case kw654_5 =>
        go_simp <;> (try go_wp2_with fail)
        refine hK.out _ _ ?_ (fun hHeld => ?_)
        · (first | (repeat' (first | with_reducible assumption | exact Nat.le_refl _ | with_reducible refine Below.setCell ?_ ?_ _ | with_reducible refine Below.drew ?_ | with_reducible refine ba _ _ ?_ | omega | (simp <;> omega))) | (first | with_reducible assumption | (with_reducible refine Below.drew ?_; with_reducible assumption) | (with_reducible refine ba _ _ ?_; with_reducible assumption) | (with_reducible refine Below.drew ?_; with_reducible refine ba _ _ ?_; with_reducible assumption) | exact Below.refl _ _ | exact (Below.refl _ _).drew | exact (Below.refl _ _).alloc (Nat.le_refl _) _ | (refine bc _ _ (by assumption) (by assumption))))
        clear hK K
        refine RegOk.put_ (m' := 41) (by kernel_rfl) ?_
        try simp only [Act.put, List.setIfInBounds_toArray, List.set_cons_zero, List.set_cons_succ]
        refine hR.come (rs := [1]) (by kernel_rfl) (by simp) ?_
        refine AllReadyH.cons (o := ?o661_1) ?h661_1 (fun K hK => ?kw661_1) AllReadyH.nil
        case h661_1 => simp only [List.getElem?_toArray, List.getElem?_cons_succ, List.getElem?_cons_zero]; rfl
        go_simp <;> (try go_wp2_with fail)
        refine hK.out _ _ ?_ (fun hHeld => ?_)
        · (first | (repeat' (first | with_reducible assumption | exact Nat.le_refl _ | with_reducible refine Below.setCell ?_ ?_ _ | with_reducible refine Below.drew ?_ | with_reducible refine ba _ _ ?_ | omega | (simp <;> omega))) | (first | with_reducible assumption | (with_reducible refine Below.drew ?_; with_reducible assumption) | (with_reducible refine ba _ _ ?_; with_reducible assumption) | (with_reducible refine Below.drew ?_; with_reducible refine ba _ _ ?_; with_reducible assumption) | exact Below.refl _ _ | exact (Below.refl _ _).drew | exact (Below.refl _ _).alloc (Nat.le_refl _) _ | (refine bc _ _ (by assumption) (by assumption))))
        clear hK K
        refine RegOk.put_ (m' := 43) (by kernel_rfl) ?_
        try simp only [Act.put, List.setIfInBounds_toArray, List.set_cons_zero, List.set_cons_succ]
        refine hR.take (i := 2) (oi := ?ow662_2) (v := ?vw662_2) (m' := 47) ?hw662_2 (by kernel_rfl) (by kernel_rfl) (fun _ _ _ h => h) (Or.inl ⟨?sw662_2, ?yw662_2⟩) (by assumption) ?nw662_2
        case hw662_2 => simp only [List.getElem?_toArray, List.getElem?_cons_succ, List.getElem?_cons_zero]; rfl
        case sw662_2 => rfl
        case yw662_2 => (intro w hSw; (try dsimp only at hSw); go_simp <;> with_reducible rfl)
        try simp only [Act.put, List.setIfInBounds_toArray, List.set_cons_zero, List.set_cons_succ]
        refine hR.come (rs := [4]) (by kernel_rfl) (by simp) ?_
        refine AllReadyH.cons (o := ?o663_4) ?h663_4 (fun K hK => ?kw663_4) AllReadyH.nil
        case h663_4 => simp only [List.getElem?_toArray, List.getElem?_cons_succ, List.getElem?_cons_zero]; rfl
        go_simp
        go_at_call 15; refine (answerN (q := q1) (s := s15) q1_xs q1_ys rfl rfl rfl rfl rfl _ (qv_ok q1_ok).1 (qv_ok q1_ok).2 ok15 (by decide) (sl_fs1N (S := fun _ => True) (n := 1) (t := 49) (l := [⟨2, 5, 5⟩]) rfl (by repeat' (first | with_reducible assumption | (with_reducible refine heap_alloc_at ?_; (first | rfl | omega | (simp [World.setCell]; done) | (simp [World.setCell]; omega))) | with_reducible refine set2 (a := .slice none 0 0) (b := .slice none 0 0) ?_ | (with_reducible refine (Below.heap_setCell _ _ _ _ ?_).trans ?_) | (with_reducible refine (Below.heap_alloc _ _ _ ?_).trans ?_) | (with_reducible refine drew_get2 ?_) | (with_reducible refine (hbC.block _ ?_).trans ?_) | (with_reducible refine (hbO.block _ ?_).trans ?_) | (simp [World.setCell]; done) | omega | (simp [World.setCell] <;> omega))) (by repeat' (first | with_reducible refine Sl.alloc_ ?_ _ | with_reducible refine Sl.drew ?_ | exact HO.out)) trivial) (HSL.out.keep (Below.agree (by (first | with_reducible assumption | (with_reducible refine Below.drew ?_; with_reducible assumption) | (with_reducible refine ba _ _ ?_; with_reducible assumption) | (with_reducible refine Below.drew ?_; with_reducible refine ba _ _ ?_; with_reducible assumption) | exact Below.refl _ _ | exact (Below.refl _ _).drew | exact (Below.refl _ _).alloc (Nat.le_refl _) _ | (refine bc _ _ (by assumption) (by assumption)))))) (HSG.out.keep (Below.agree (by (first | with_reducible assumption | (with_reducible refine Below.drew ?_; with_reducible assumption) | (with_reducible refine ba _ _ ?_; with_reducible assumption) | (with_reducible refine Below.drew ?_; with_reducible refine ba _ _ ?_; with_reducible assumption) | exact Below.refl _ _ | exact (Below.refl _ _).drew | exact (Below.refl _ _).alloc (Nat.le_refl _) _ | (refine bc _ _ (by assumption) (by assumption))))))).mono ?_; rintro e wC ⟨A, c, B, d, rfl, h1, h2, hbC⟩; have hkC := bc _ _ (by (first | with_reducible assumption | (with_reducible refine Below.drew ?_; with_reducible assumption) | (with_reducible refine ba _ _ ?_; with_reducible assumption) | (with_reducible refine Below.drew ?_; with_reducible refine ba _ _ ?_; with_reducible assumption) | exact Below.refl _ _ | exact (Below.refl _ _).drew | exact (Below.refl _ _).alloc (Nat.le_refl _) _ | (refine bc _ _ (by assumption) (by assumption)))) hbC; obtain ⟨hcC, hfC⟩ := bcell hbC; have hzC := hbC.size; (try simp at hzC); (try have hl0 : w3.heap.size < wC.heap.size := (by omega)); (try have hl3 : gO < wC.heap.size := (by omega)); (try have hl4 : gO + 1 < wC.heap.size := (by omega)); (try have hl5 : gO + 1 + 1 < wC.heap.size := (by omega)); (try have hl1 : w3.heap.size + 1 < wC.heap.size := (by omega)); (try have hl2 : w3.heap.size + 1 + 1 < wC.heap.size := (by omega))
        refine hK.out _ _ ?_ (fun hHeld => ?_)
        · (first | (repeat' (first | with_reducible assumption | exact Nat.le_refl _ | with_reducible refine Below.setCell ?_ ?_ _ | with_reducible refine Below.drew ?_ | with_reducible refine ba _ _ ?_ | omega | (simp <;> omega))) | (first | with_reducible assumption | (with_reducible refine Below.drew ?_; with_reducible assumption) | (with_reducible refine ba _ _ ?_; with_reducible assumption) | (with_reducible refine Below.drew ?_; with_reducible refine ba _ _ ?_; with_reducible assumption) | exact Below.refl _ _ | exact (Below.refl _ _).drew | exact (Below.refl _ _).alloc (Nat.le_refl _) _ | (refine bc _ _ (by assumption) (by assumption))))
        clear hK K
        refine RegOk.put_ (m' := 63) (by kernel_rfl) ?_
        try simp only [Act.put, List.setIfInBounds_toArray, List.set_cons_zero, List.set_cons_succ]
        refine hR.come (rs := [6]) (by kernel_rfl) (by simp) ?_
        refine AllReadyH.cons (o := ?o664_6) ?h664_6 (fun K hK => ?kw664_6) AllReadyH.nil
        case h664_6 => simp only [List.getElem?_toArray, List.getElem?_cons_succ, List.getElem?_cons_zero]; rfl
        go_simp <;> (try go_wp2_with fail)
        refine hK.out _ _ ?_ (fun hHeld => ?_)
        · (first | (repeat' (first | with_reducible assumption | exact Nat.le_refl _ | with_reducible refine Below.setCell ?_ ?_ _ | with_reducible refine Below.drew ?_ | with_reducible refine ba _ _ ?_ | omega | (simp <;> omega))) | (first | with_reducible assumption | (with_reducible refine Below.drew ?_; with_reducible assumption) | (with_reducible refine ba _ _ ?_; with_reducible assumption) | (with_reducible refine Below.drew ?_; with_reducible refine ba _ _ ?_; with_reducible assumption) | exact Below.refl _ _ | exact (Below.refl _ _).drew | exact (Below.refl _ _).alloc (Nat.le_refl _) _ | (refine bc _ _ (by assumption) (by assumption))))
        clear hK K
        refine RegOk.put_ (m' := 127) (by kernel_rfl) ?_
        try simp only [Act.put, List.setIfInBounds_toArray, List.set_cons_zero, List.set_cons_succ]
        refine hR.all (by kernel_rfl) ?_ _
        refine NoPanic.normal ?_
        go_wp2_with fail
        go_meet
        case rel =>
          refine ⟨_, rfl, ⟨A, c, B, d, (by repeat' (first | with_reducible assumption | (with_reducible refine heap_alloc_at ?_; (first | rfl | omega | (simp [World.setCell]; done) | (simp [World.setCell]; omega))) | with_reducible refine set2 (a := .slice none 0 0) (b := .slice none 0 0) ?_ | (with_reducible refine (Below.heap_setCell _ _ _ _ ?_).trans ?_) | (with_reducible refine (Below.heap_alloc _ _ _ ?_).trans ?_) | (with_reducible refine drew_get2 ?_) | (with_reducible refine (hbC.block _ ?_).trans ?_) | (with_reducible refine (hbO.block _ ?_).trans ?_) | (simp [World.setCell]; done) | omega | (simp [World.setCell] <;> omega))), ?_, ?_⟩, by assumption⟩
          · (first | (with_reducible refine Sl.sub (Sl.alloc_ h1 _) ?_; exact (fun _ _ _ => trivial)) | (refine Sl.two_ h1 ?_; rintro ⟨a, b⟩; simp at a; omega))
          · (first | (with_reducible refine Sl.sub (Sl.alloc_ h2 _) ?_; exact (fun _ _ _ => trivial)) | (refine Sl.two_ h2 ?_; rintro ⟨a, b⟩; simp at a; omega))
    case kw653_5 =>
      go_simp <;> (try go_wp2_with fail)
      refine hK.out _ _ ?_ (fun hHeld => ?_)
      · (first | (repeat' (first | with_reducible assumption | exact Nat.le_refl _ | with_reducible refine Below.setCell ?_ ?_ _ | with_reducible refine Below.drew ?_ | with_reducible refine ba _ _ ?_ | omega | (simp <;> omega))) | (first | with_reducible assumption | (with_reducible refine Below.drew ?_; with_reducible assumption) | (with_reducible refine ba _ _ ?_; with_reducible assumption) | (with_reducible refine Below.drew ?_; with_reducible refine ba _ _ ?_; with_reducible assumption) | exact Below.refl _ _ | exact (Below.refl _ _).drew | exact (Below.refl _ _).alloc (Nat.le_refl _) _ | (refine bc _ _ (by assumption) (by assumption))))
      clear hK K
      refine RegOk.put_ (m' := 40) (by kernel_rfl) ?_
      try simp only [Act.put, List.setIfInBounds_toArray, List.set_cons_zero, List.set_cons_succ]
      refine hR.come (rs := [0]) (by kernel_rfl) (by simp) ?_
      refine AllReadyH.cons (o := ?o665_0) ?h665_0 (fun K hK => ?kw665_0) AllReadyH.nil
      case h665_0 => simp only [List.getElem?_toArray, List.getElem?_cons_succ, List.getElem?_cons_zero]; rfl
      go_simp
      go_at_call 29; refine (onlyL15 _ _ _).mono ?_; rintro e wO ⟨gO, rfl, hO, hzO, hbO⟩; have hkO := bc _ _ (by (first | with_reducible assumption | (with_reducible refine Below.drew ?_; with_reducible assumption) | (with_reducible refine ba _ _ ?_; with_reducible assumption) | (with_reducible refine Below.drew ?_; with_reducible refine ba _ _ ?_; with_reducible assumption) | exact Below.refl _ _ | exact (Below.refl _ _).drew | exact (Below.refl _ _).alloc (Nat.le_refl _) _ | (refine bc _ _ (by assumption) (by assumption)))) hbO; obtain ⟨hcO, hfO⟩ := bcell hbO; have hzP := hbO.size; (try simp at hzP); (try have hl6 : w3.heap.size < wO.heap.size := (by omega)); (try have hl7 : w3.heap.size < gO + 1 := (by omega)); (try have hl8 : w3.heap.size < gO + 1 + 1 := (by omega)); have HO := Lib.hid hO; clear hO
      refine hK.out _ _ ?_ (fun hHeld => ?_)
      · (first | (repeat' (first | with_reducible assumption | exact Nat.le_refl _ | with_reducible refine Below.setCell ?_ ?_ _ | with_reducible refine Below.drew ?_ | with_reducible refine ba _ _ ?_ | omega | (simp <;> omega))) | (first | with_reducible assumption | (with_reducible refine Below.drew ?_; with_reducible assumption) | (with_reducible refine ba _ _ ?_; with_reducible assumption) | (with_reducible refine Below.drew ?_; with_reducible refine ba _ _ ?_; with_reducible assumption) | exact Below.refl _ _ | exact (Below.refl _ _).drew | exact (Below.refl _ _).alloc (Nat.le_refl _) _ | (refine bc _ _ (by assumption) (by assumption))))
      clear hK K
      refine RegOk.put_ (m' := 41) (by kernel_rfl) ?_
      try simp only [Act.put, List.setIfInBounds_toArray, List.set_cons_zero, List.set_cons_succ]
      refine hR.come (rs := [1]) (by kernel_rfl) (by simp) ?_
      refine AllReadyH.cons (o := ?o666_1) ?h666_1 (fun K hK => ?kw666_1) AllReadyH.nil
      case h666_1 => simp only [List.getElem?_toArray, List.getElem?_cons_succ, List.getElem?_cons_zero]; rfl
      go_simp <;> (try go_wp2_with fail)
      refine hK.out _ _ ?_ (fun hHeld => ?_)
      · (first | (repeat' (first | with_reducible assumption | exact Nat.le_refl _ | with_reducible refine Below.setCell ?_ ?_ _ | with_reducible refine Below.drew ?_ | with_reducible refine ba _ _ ?_ | omega | (simp <;> omega))) | (first | with_reducible assumption | (with_reducible refine Below.drew ?_; with_reducible assumption) | (with_reducible refine ba _ _ ?_; with_reducible assumption) | (with_reducible refine Below.drew ?_; with_reducible refine ba _ _ ?_; with_reducible assumption) | exact Below.refl _ _ | exact (Below.refl _ _).drew | exact (Below.refl _ _).alloc (Nat.le_refl _) _ | (refine bc _ _ (by assumption) (by assumption))))
      clear hK K
      refine RegOk.put_ (m' := 43) (by kernel_rfl) ?_
      try simp only [Act.put, List.setIfInBounds_toArray, List.set_cons_zero, List.set_cons_succ]
      refine hR.take (i := 2) (oi := ?ow667_2) (v := ?vw667_2) (m' := 47) ?hw667_2 (by kernel_rfl) (by kernel_rfl) (fun _ _ _ h => h) (Or.inl ⟨?sw667_2, ?yw667_2⟩) (by assumption) ?nw667_2
      case hw667_2 => simp only [List.getElem?_toArray, List.getElem?_cons_succ, List.getElem?_cons_zero]; rfl
      case sw667_2 => rfl
      case yw667_2 => (intro w hSw; (try dsimp only at hSw); go_simp <;> with_reducible rfl)
      try simp only [Act.put, List.setIfInBounds_toArray, List.set_cons_zero, List.set_cons_succ]
      refine hR.come (rs := [4]) (by kernel_rfl) (by simp) ?_
      refine AllReadyH.cons (o := ?o668_4) ?h668_4 (fun K hK => ?kw668_4) AllReadyH.nil
      case h668_4 => simp only [List.getElem?_toArray, List.getElem?_cons_succ, List.getElem?_cons_zero]; rfl
      go_simp
      go_at_call 15; refine (answerN (q := q1) (s := s15) q1_xs q1_ys rfl rfl rfl rfl rfl _ (qv_ok q1_ok).1 (qv_ok q1_ok).2 ok15 (by decide) (sl_fs1N (S := fun _ => True) (n := 1) (t := 49) (l := [⟨2, 5, 5⟩]) rfl (by repeat' (first | with_reducible assumption | (with_reducible refine heap_alloc_at ?_; (first | rfl | omega | (simp [World.setCell]; done) | (simp [World.setCell]; omega))) | with_reducible refine set2 (a := .slice none 0 0) (b := .slice none 0 0) ?_ | (with_reducible refine (Below.heap_setCell _ _ _ _ ?_).trans ?_) | (with_reducible refine (Below.heap_alloc _ _ _ ?_).trans ?_) | (with_reducible refine drew_get2 ?_) | (with_reducible refine (hbC.block _ ?_).trans ?_) | (with_reducible refine (hbO.block _ ?_).trans ?_) | (simp [World.setCell]; done) | omega | (simp [World.setCell] <;> omega))) (by repeat' (first | with_reducible refine Sl.alloc_ ?_ _ | with_reducible refine Sl.drew ?_ | exact HO.out)) trivial) (HSL.out.keep (Below.agree (by (first | with_reducible assumption | (with_reducible refine Below.drew ?_; with_reducible assumption) | (with_reducible refine ba _ _ ?_; with_reducible assumption) | (with_reducible refine Below.drew ?_; with_reducible refine ba _ _ ?_; with_reducible assumption) | exact Below.refl _ _ | exact (Below.refl _ _).drew | exact (Below.refl _ _).alloc (Nat.le_refl _) _ | (refine bc _ _ (by assumption) (by assumption)))))) (HSG.out.keep (Below.agree (by (first | with_reducible assumption | (with_reducible refine Below.drew ?_; with_reducible assumption) | (with_reducible refine ba _ _ ?_; with_reducible assumption) | (with_reducible refine Below.drew ?_; with_reducible refine ba _ _ ?_; with_reducible assumption) | exact Below.refl _ _ | exact (Below.refl _ _).drew | exact (Below.refl _ _).alloc (Nat.le_refl _) _ | (refine bc _ _ (by assumption) (by assumption))))))).mono ?_; rintro e wC ⟨A, c, B, d, rfl, h1, h2, hbC⟩; have hkC := bc _ _ (by (first | with_reducible assumption | (with_reducible refine Below.drew ?_; with_reducible assumption) | (with_reducible refine ba _ _ ?_; with_reducible assumption) | (with_reducible refine Below.drew ?_; with_reducible refine ba _ _ ?_; with_reducible assumption) | exact Below.refl _ _ | exact (Below.refl _ _).drew | exact (Below.refl _ _).alloc (Nat.le_refl _) _ | (refine bc _ _ (by assumption) (by assumption)))) hbC; obtain ⟨hcC, hfC⟩ := bcell hbC; have hzC := hbC.size; (try simp at hzC); (try have hl0 : w3.heap.size < wC.heap.size := (by omega)); (try have hl3 : gO < wC.heap.size := (by omega)); (try have hl4 : gO + 1 < wC.heap.size := (by omega)); (try have hl5 : gO + 1 + 1 < wC.heap.size := (by omega)); (try have hl1 : w3.heap.size + 1 < wC.heap.size := (by omega)); (try have hl2 : w3.heap.size + 1 + 1 < wC.heap.size := (by omega))
      refine hK.out _ _ ?_ (fun hHeld => ?_)
      · (first | (repeat' (first | with_reducible assumption | exact Nat.le_refl _ | with_reducible refine Below.setCell ?_ ?_ _ | with_reducible refine Below.drew ?_ | with_reducible refine ba _ _ ?_ | omega | (simp <;> omega))) | (first | with_reducible assumption | (with_reducible refine Below.drew ?_; with_reducible assumption) | (with_reducible refine ba _ _ ?_; with_reducible assumption) | (with_reducible refine Below.drew ?_; with_reducible refine ba _ _ ?_; with_reducible assumption) | exact Below.refl _ _ | exact (Below.refl _ _).drew | exact (Below.refl _ _).alloc (Nat.le_refl _) _ | (refine bc _ _ (by assumption) (by assumption))))
      clear hK K
      refine RegOk.put_ (m' := 63) (by kernel_rfl) ?_
      try simp only [Act.put, List.setIfInBounds_toArray, List.set_cons_zero, List.set_cons_succ]
      refine hR.come (rs := [6]) (by kernel_rfl) (by simp) ?_
      refine AllReadyH.cons (o := ?o669_6) ?h669_6 (fun K hK => ?kw669_6) AllReadyH.nil
      case h669_6 => simp only [List.getElem?_toArray, List.getElem?_cons_succ, List.getElem?_cons_zero]; rfl
      go_simp <;> (try go_wp2_with fail)
      refine hK.out _ _ ?_ (fun hHeld => ?_)
      · (first | (repeat' (first | with_reducible assumption | exact Nat.le_refl _ | with_reducible refine Below.setCell ?_ ?_ _ | with_reducible refine Below.drew ?_ | with_reducible refine ba _ _ ?_ | omega | (simp <;> omega))) | (first | with_reducible assumption | (with_reducible refine Below.drew ?_; with_reducible assumption) | (with_reducible refine ba _ _ ?_; with_reducible assumption) | (with_reducible refine Below.drew ?_; with_reducible refine ba _ _ ?_; with_reducible assumption) | exact Below.refl _ _ | exact (Below.refl _ _).drew | exact (Below.refl _ _).alloc (Nat.le_refl _) _ | (refine bc _ _ (by assumption) (by assumption))))
      clear hK K
      refine RegOk.put_ (m' := 127) (by kernel_rfl) ?_
      try simp only [Act.put, List.setIfInBounds_toArray, List.set_cons_zero, List.set_cons_succ]
      refine hR.all (by kernel_rfl) ?_ _
      refine NoPanic.normal ?_
      go_wp2_with fail
      go_meet
      case rel =>
        refine ⟨_, rfl, ⟨A, c, B, d, (by repeat' (first | with_reducible assumption | (with_reducible refine heap_alloc_at ?_; (first | rfl | omega | (simp [World.setCell]; done) | (simp [World.setCell]; omega))) | with_reducible refine set2 (a := .slice none 0 0) (b := .slice none 0 0) ?_ | (with_reducible refine (Below.heap_setCell _ _ _ _ ?_).trans ?_) | (with_reducible refine (Below.heap_alloc _ _ _ ?_).trans ?_) | (with_reducible refine drew_get2 ?_) | (with_reducible refine (hbC.block _ ?_).trans ?_) | (with_reducible refine (hbO.block _ ?_).trans ?_) | (simp [World.setCell]; done) | omega | (simp [World.setCell] <;> omega))), ?_, ?_⟩, by assumption⟩
        · (first | (with_reducible refine Sl.sub (Sl.alloc_ h1 _) ?_; exact (fun _ _ _ => trivial)) | (refine Sl.two_ h1 ?_; rintro ⟨a, b⟩; simp at a; omega))
        · (first | (with_reducible refine Sl.sub (Sl.alloc_ h2 _) ?_; exact (fun _ _ _ => trivial)) | (refine Sl.two_ h2 ?_; rintro ⟨a, b⟩; simp at a; omega))
  obtain ⟨g4, rfl, ha, hb⟩ := hcut
  obtain ⟨w4, hwv⟩ : ∃ x, x = wc := ⟨_, rfl⟩
  subst hwv
  have A4 := Lib.hid ha
  replace S1 := mvSt S1 hb
  replace S2 := mvSt S2 hb
  replace XF := mvF XF hb
  (try replace A4 := mvAn A4 hb)
  have b4 := Lib.hid (b3.out.trans (hb.mono b3.out.size))
  clear ha hb b3 zs br ba bc HG1 HSL HSG lg
  obtain ⟨L, cl, G, cg, hg, hsL, hsG⟩ := S1.out
  have HG1 := Lib.hid hg
  have HSL := Lib.hid hsL
  have HSG := Lib.hid hsG
  have lg := heap_lt hg
  have zs : ∀ W, Below w4.heap.size w4 W → _ ∧ _ := fun W hW => two2 (mvQ HG1 hW)
  have br : Below w4.heap.size w4 w4 := Below.refl _ _
  have ba : ∀ W o, Below w4.heap.size w4 W → Below w4.heap.size w4 (W.alloc o) := fun W o h => h.alloc h.size o
  have bc : ∀ W W', Below w4.heap.size w4 W → Below W.heap.size W W' → Below w4.heap.size w4 W' := fun W W' h k => h.trans (k.mono h.size)
  clear hg hsL hsG
  go_upto_region 5 with fail
  go_cut [5] (fun p wx => ∃ g, p = .pointer (some ⟨g, 0, none⟩) ∧ An wx g [500] [500] 1 1 ∧ Below w4.heap.size w4 wx)
  case first =>
    refine wp_region_noPanic ?_
    refine wp_region_held_drew (S := fun X => Below w4.heap.size w4 X) (by kernel_rfl) ?_ (fun hHeld => ?_)
    · (first | (repeat' (first | with_reducible assumption | exact Nat.le_refl _ | with_reducible refine Below.setCell ?_ ?_ _ | with_reducible refine Below.drew ?_ | with_reducible refine ba _ _ ?_ | omega | (simp <;> omega))) | (first | with_reducible assumption | (with_reducible refine Below.drew ?_; with_reducible assumption) | (with_reducible refine ba _ _ ?_; with_reducible assumption) | (with_reducible refine Below.drew ?_; with_reducible refine ba _ _ ?_; with_reducible assumption) | exact Below.refl _ _ | exact (Below.refl _ _).drew | exact (Below.refl _ _).alloc (Nat.le_refl _) _ | (refine bc _ _ (by assumption) (by assumption))))
    refine RegOk.begin_ (n := 7) (T := evS5) ⟨by kernel_rfl, by kernel_rfl, by kernel_rfl, by kernel_rfl⟩ fun hR => ?_
    refine hR.take (i := 3) (oi := ?ow670_3) (v := ?vw670_3) (m' := 8) ?hw670_3 (by kernel_rfl) (by kernel_rfl) (fun _ _ _ h => h) (Or.inl ⟨?sw670_3, ?yw670_3⟩) (by assumption) ?nw670_3
    case hw670_3 => simp only [List.getElem?_toArray, List.getElem?_cons_succ, List.getElem?_cons_zero]; rfl
    case sw670_3 => rfl
    case yw670_3 => (intro w hSw; (try dsimp only at hSw); go_simp <;> with_reducible rfl)
    try simp only [Act.put, List.setIfInBounds_toArray, List.set_cons_zero, List.set_cons_succ]
    refine hR.come (rs := [0, 5]) (by kernel_rfl) (by simp) ?_
    refine AllReadyH.cons (o := ?o671_0) ?h671_0 (fun K hK => ?kw671_0) (AllReadyH.cons (o := ?o671_5) ?h671_5 (fun K hK => ?kw671_5) AllReadyH.nil)
    case h671_0 => simp only [List.getElem?_toArray, List.getElem?_cons_succ, List.getElem?_cons_zero]; rfl
    case h671_5 => simp only [List.getElem?_toArray, List.getElem?_cons_succ, List.getElem?_cons_zero]; rfl
    case kw671_0 =>
      go_simp
      go_at_call 29; refine (onlyL15 _ _ _).mono ?_; rintro e wO ⟨gO, rfl, hO, hzO, hbO⟩; have hkO := bc _ _ (by (first | with_reducible assumption | (with_reducible refine Below.drew ?_; with_reducible assumption) | (with_reducible refine ba _ _ ?_; with_reducible assumption) | (with_reducible refine Below.drew ?_; with_reducible refine ba _ _ ?_; with_reducible assumption) | exact Below.refl _ _ | exact (Below.refl _ _).drew | exact (Below.refl _ _).alloc (Nat.le_refl _) _ | (refine bc _ _ (by assumption) (by assumption)))) hbO; obtain ⟨hcO, hfO⟩ := bcell hbO; have hzP := hbO.size; (try simp at hzP); (try have hl6 : w4.heap.size < wO.heap.size := (by omega)); (try have hl7 : w4.heap.size < gO + 1 := (by omega)); (try have hl8 : w4.heap.size < gO + 1 + 1 := (by omega)); have HO := Lib.hid hO; clear hO
      refine hK.out _ _ ?_ (fun hHeld => ?_)
      · (first | (repeat' (first | with_reducible assumption | exact Nat.le_refl _ | with_reducible refine Below.setCell ?_ ?_ _ | with_reducible refine Below.drew ?_ | with_reducible refine ba _ _ ?_ | omega | (simp <;> omega))) | (first | with_reducible assumption | (with_reducible refine Below.drew ?_; with_reducible assumption) | (with_reducible refine ba _ _ ?_; with_reducible assumption) | (with_reducible refine Below.drew ?_; with_reducible refine ba _ _ ?_; with_reducible assumption) | exact Below.refl _ _ | exact (Below.refl _ _).drew | exact (Below.refl _ _).alloc (Nat.le_refl _) _ | (refine bc _ _ (by assumption) (by assumption))))
      clear hK K
      refine RegOk.put_ (m' := 9) (by kernel_rfl) ?_
      try simp only [Act.put, List.setIfInBounds_toArray, List.set_cons_zero, List.set_cons_succ]
      refine hR.come (rs := [1, 5]) (by kernel_rfl) (by simp) ?_
      refine AllReadyH.cons (o := ?o672_1) ?h672_1 (fun K hK => ?kw672_1) (AllReadyH.cons (o := ?o672_5) ?h672_5 (fun K hK => ?kw672_5) AllReadyH.nil)
      case h672_1 => simp only [List.getElem?_toArray, List.getElem?_cons_succ, List.getElem?_cons_zero]; rfl
      case h672_5 => simp only [List.getElem?_toArray, List.getElem?_cons_succ, List.getElem?_cons_zero]; rfl
      case kw672_1 =>
        go_simp <;> (try go_wp2_with fail)
        refine hK.out _ _ ?_ (fun hHeld => ?_)
        · (first | (repeat' (first | with_reducible assumption | exact Nat.le_refl _ | with_reducible refine Below.setCell ?_ ?_ _ | with_reducible refine Below.drew ?_ | with_reducible refine ba _ _ ?_ | omega | (simp <;> omega))) | (first | with_reducible assumption | (with_reducible refine Below.drew ?_; with_reducible assumption) | (with_reducible refine ba _ _ ?_; with_reducible assumption) | (with_reducible refine Below.drew ?_; with_reducible refine ba _ _ ?_; with_reducible assumption) | exact Below.refl _ _ | exact (Below.refl _ _).drew | exact (Below.refl _ _).alloc (Nat.le_refl _) _ | (refine bc _ _ (by assumption) (by assumption))))
        clear hK K
        refine RegOk.put_ (m' := 11) (by kernel_rfl) ?_
        try simp only [Act.put, List.setIfInBounds_toArray, List.set_cons_zero, List.set_cons_succ]
        refine hR.take (i := 2) (oi := ?ow673_2) (v := ?vw673_2) (m' := 15) ?hw673_2 (by kernel_rfl) (by kernel_rfl) (fun _ _ _ h => h) (Or.inl ⟨?sw673_2, ?yw673_2⟩) (by assumption) ?nw673_2
        case hw673_2 => simp only [List.getElem?_toArray, List.getElem?_cons_succ, List.getElem?_cons_zero]; rfl
        case sw673_2 => rfl
        case yw673_2 => (intro w hSw; (try dsimp only at hSw); go_simp <;> with_reducible rfl)
        try simp only [Act.put, List.setIfInBounds_toArray, List.set_cons_zero, List.set_cons_succ]
        refine hR.come (rs := [4, 5]) (by kernel_rfl) (by simp) ?_
        refine AllReadyH.cons (o := ?o674_4) ?h674_4 (fun K hK => ?kw674_4) (AllReadyH.cons (o := ?o674_5) ?h674_5 (fun K hK => ?kw674_5) AllReadyH.nil)
        case h674_4 => simp only [List.getElem?_toArray, List.getElem?_cons_succ, List.getElem?_cons_zero]; rfl
        case h674_5 => simp only [List.getElem?_toArray, List.getElem?_cons_succ, List.getElem?_cons_zero]; rfl
        case kw674_4 =>
          go_simp
          go_at_call 15; refine (answerN (q := q2) (s := s15) q2_xs q2_ys rfl rfl rfl rfl rfl _ (qv_ok q2_ok).1 (qv_ok q2_ok).2 ok15 (by decide) (sl_fs1N (S := fun _ => True) (n := 1) (t := 49) (l := [⟨0, 1, 1⟩]) rfl (by repeat' (first | with_reducible assumption | (with_reducible refine heap_alloc_at ?_; (first | rfl | omega | (simp [World.setCell]; done) | (simp [World.setCell]; omega))) | with_reducible refine set2 (a := .slice none 0 0) (b := .slice none 0 0) ?_ | (with_reducible refine (Below.heap_setCell _ _ _ _ ?_).trans ?_) | (with_reducible refine (Below.heap_alloc _ _ _ ?_).trans ?_) | (with_reducible refine drew_get2 ?_) | (with_reducible refine (hbC.block _ ?_).trans ?_) | (with_reducible refine (hbO.block _ ?_).trans ?_) | (simp [World.setCell]; done) | omega | (simp [World.setCell] <;> omega))) (by repeat' (first | with_reducible refine Sl.alloc_ ?_ _ | with_reducible refine Sl.drew ?_ | exact HO.out)) trivial) (HSL.out.keep (Below.agree (by (first | with_reducible assumption | (with_reducible refine Below.drew ?_; with_reducible assumption) | (with_reducible refine ba _ _ ?_; with_reducible assumption) | (with_reducible refine Below.drew ?_; with_reducible refine ba _ _ ?_; with_reducible assumption) | exact Below.refl _ _ | exact (Below.refl _ _).drew | exact (Below.refl _ _).alloc (Nat.le_refl _) _ | (refine bc _ _ (by assumption) (by assumption)))))) (HSG.out.keep (Below.agree (by (first | with_reducible assumption | (with_reducible refine Below.drew ?_; with_reducible assumption) | (with_reducible refine ba _ _ ?_; with_reducible assumption) | (with_reducible refine Below.drew ?_; with_reducible refine ba _ _ ?_; with_reducible assumption) | exact Below.refl _ _ | exact (Below.refl _ _).drew | exact (Below.refl _ _).alloc (Nat.le_refl _) _ | (refine bc _ _ (by assumption) (by assumption))))))).mono ?_; rintro e wC ⟨A, c, B, d, rfl, h1, h2, hbC⟩; have hkC := bc _ _ (by (first | with_reducible assumption | (with_reducible refine Below.drew ?_; with_reducible assumption) | (with_reducible refine ba _ _ ?_; with_reducible assumption) | (with_reducible refine Below.drew ?_; with_reducible refine ba _ _ ?_; with_reducible assumption) | exact Below.refl _ _ | exact (Below.refl _ _).drew | exact (Below.refl _ _).alloc (Nat.le_refl _) _ | (refine bc _ _ (by assumption) (by assumption)))) hbC; obtain ⟨hcC, hfC⟩ := bcell hbC; have hzC := hbC.size; (try simp at hzC); (try have hl0 : w4.heap.size < wC.heap.size := (by omega)); (try have hl3 : gO < wC.heap.size := (by omega)); (try have hl4 : gO + 1 < wC.heap.size := (by omega)); (try have hl5 : gO + 1 + 1 < wC.heap.size := (by omega)); (try have hl1 : w4.heap.size + 1 < wC.heap.size := (by omega)); (try have hl2 : w4.heap.size + 1 + 1 < wC.heap.size := (by omega))
          refine hK.out _ _ ?_ (fun hHeld => ?_)
          · (first | (repeat' (first | with_reducible assumption | exact Nat.le_refl _ | with_reducible refine Below.setCell ?_ ?_ _ | with_reducible refine Below.drew ?_ | with_reducible refine ba _ _ ?_ | omega | (simp <;> omega))) | (first | with_reducible assumption | (with_reducible refine Below.drew ?_; with_reducible assumption) | (with_reducible refine ba _ _ ?_; with_reducible assumption) | (with_reducible refine Below.drew ?_; with_reducible refine ba _ _ ?_; with_reducible assumption) | exact Below.refl _ _ | exact (Below.refl _ _).drew | exact (Below.refl _ _).alloc (Nat.le_refl _) _ | (refine bc _ _ (by assumption) (by assumption))))
          clear hK K
          refine RegOk.put_ (m' := 31) (by kernel_rfl) ?_
          try simp only [Act.put, List.setIfInBounds_toArray, List.set_cons_zero, List.set_cons_succ]
          refine hR.come (rs := [5]) (by kernel_rfl) (by simp) ?_
          refine AllReadyH.cons (o := ?o675_5) ?h675_5 (fun K hK => ?kw675_5) AllReadyH.nil
          case h675_5 => simp only [List.getElem?_toArray, List.getElem?_cons_succ, List.getElem?_cons_zero]; rfl
          go_simp <;> (try go_wp2_with fail)
          refine hK.out _ _ ?_ (fun hHeld => ?_)
          · (first | (repeat' (first | with_reducible assumption | exact Nat.le_refl _ | with_reducible refine Below.setCell ?_ ?_ _ | with_reducible refine Below.drew ?_ | with_reducible refine ba _ _ ?_ | omega | (simp <;> omega))) | (first | with_reducible assumption | (with_reducible refine Below.drew ?_; with_reducible assumption) | (with_reducible refine ba _ _ ?_; with_reducible assumption) | (with_reducible refine Below.drew ?_; with_reducible refine ba _ _ ?_; with_reducible assumption) | exact Below.refl _ _ | exact (Below.refl _ _).drew | exact (Below.refl _ _).alloc (Nat.le_refl _) _ | (refine bc _ _ (by assumption) (by assumption))))
          clear hK K
          refine RegOk.put_ (m' := 63) (by kernel_rfl) ?_
          try simp only [Act.put, List.setIfInBounds_toArray, List.set_cons_zero, List.set_cons_succ]
          refine hR.come (rs := [6]) (by kernel_rfl) (by simp) ?_
          refine AllReadyH.cons (o := ?o676_6) ?h676_6 (fun K hK => ?kw676_6) AllReadyH.nil
          case h676_6 => simp only [List.getElem?_toArray, List.getElem?_cons_succ, List.getElem?_cons_zero]; rfl
          go_simp <;> (try go_wp2_with fail)
          refine hK.out _ _ ?_ (fun hHeld => ?_)
          · (first | (repeat' (first | with_reducible assumption | exact Nat.le_refl _ | with_reducible refine Below.setCell ?_ ?_ _ | with_reducible refine Below.drew ?_ | with_reducible refine ba _ _ ?_ | omega | (simp <;> omega))) | (first | with_reducible assumption | (with_reducible refine Below.drew ?_; with_reducible assumption) | (with_reducible refine ba _ _ ?_; with_reducible assumption) | (with_reducible refine Below.drew ?_; with_reducible refine ba _ _ ?_; with_reducible assumption) | exact Below.refl _ _ | exact (Below.refl _ _).drew | exact (Below.refl _ _).alloc (Nat.le_refl _) _ | (refine bc _ _ (by assumption) (by assumption))))
          clear hK K
          refine RegOk.put_ (m' := 127) (by kernel_rfl) ?_
          try simp only [Act.put, List.setIfInBounds_toArray, List.set_cons_zero, List.set_cons_succ]
          refine hR.all (by kernel_rfl) ?_ _
          refine NoPanic.normal ?_
          go_wp2_with fail
          go_meet
          case rel =>
            refine ⟨_, rfl, ⟨A, c, B, d, (by repeat' (first | with_reducible assumption | (with_reducible refine heap_alloc_at ?_; (first | rfl | omega | (simp [World.setCell]; done) | (simp [World.setCell]; omega))) | with_reducible refine set2 (a := .slice none 0 0) (b := .slice none 0 0) ?_ | (with_reducible refine (Below.heap_setCell _ _ _ _ ?_).trans ?_) | (with_reducible refine (Below.heap_alloc _ _ _ ?_).trans ?_) | (with_reducible refine drew_get2 ?_) | (with_reducible refine (hbC.block _ ?_).trans ?_) | (with_reducible refine (hbO.block _ ?_).trans ?_) | (simp [World.setCell]; done) | omega | (simp [World.setCell] <;> omega))), ?_, ?_⟩, by assumption⟩
            · (first | (with_reducible refine Sl.sub (Sl.alloc_ h1 _) ?_; exact (fun _ _ _ => trivial)) | (refine Sl.two_ h1 ?_; rintro ⟨a, b⟩; simp at a; omega))
            · (first | (with_reducible refine Sl.sub (Sl.alloc_ h2 _) ?_; exact (fun _ _ _ => trivial)) | (refine Sl.two_ h2 ?_; rintro ⟨a, b⟩; simp at a; omega))
        case kw674_5 =>
          go_simp <;> (try go_wp2_with fail)
          refine hK.out _ _ ?_ (fun hHeld => ?_)
          · (first | (repeat' (first | with_reducible assumption | exact Nat.le_refl _ | with_reducible refine Below.setCell ?_ ?_ _ | with_reducible refine Below.drew ?_ | with_reducible refine ba _ _ ?_ | omega | (simp <;> omega))) | (first | with_reducible assumption | (with_reducible refine Below.drew ?_; with_reducible assumption) | (with_reducible refine ba _ _ ?_; with_reducible assumption) | (with_reducible refine Below.drew ?_; with_reducible refine ba _ _ ?_; with_reducible assumption) | exact Below.refl _ _ | exact (Below.refl _ _).drew | exact (Below.refl _ _).alloc (Nat.le_refl _) _ | (refine bc _ _ (by assumption) (by assumption))))
          clear hK K
          refine RegOk.put_ (m' := 47) (by kernel_rfl) ?_
          try simp only [Act.put, List.setIfInBounds_toArray, List.set_cons_zero, List.set_cons_succ]
          refine hR.come (rs := [4]) (by kernel_rfl) (by simp) ?_
          refine AllReadyH.cons (o := ?o677_4) ?h677_4 (fun K hK => ?kw677_4) AllReadyH.nil
          case h677_4 => simp only [List.getElem?_toArray, List.getElem?_cons_succ, List.getElem?_cons_zero]; rfl
          go_simp
          go_at_call 15; refine (answerN (q := q2) (s := s15) q2_xs q2_ys rfl rfl rfl rfl rfl _ (qv_ok q2_ok).1 (qv_ok q2_ok).2 ok15 (by decide) (sl_fs1N (S := fun _ => True) (n := 1) (t := 49) (l := [⟨0, 1, 1⟩]) rfl (by repeat' (first | with_reducible assumption | (with_reducible refine heap_alloc_at ?_; (first | rfl | omega | (simp [World.setCell]; done) | (simp [World.setCell]; omega))) | with_reducible refine set2 (a := .slice none 0 0) (b := .slice none 0 0) ?_ | (with_reducible refine (Below.heap_setCell _ _ _ _ ?_).trans ?_) | (with_reducible refine (Below.heap_alloc _ _ _ ?_).trans ?_) | (with_reducible refine drew_get2 ?_) | (with_reducible refine (hbC.block _ ?_).trans ?_) | (with_reducible refine (hbO.block _ ?_).trans ?_) | (simp [World.setCell]; done) | omega | (simp [World.setCell] <;> omega))) (by repeat' (first | with_reducible refine Sl.alloc_ ?_ _ | with_reducible refine Sl.drew ?_ | exact HO.out)) trivial) (HSL.out.keep (Below.agree (by (first | with_reducible assumption | (with_reducible refine Below.drew ?_; with_reducible assumption) | (with_reducible refine ba _ _ ?_; with_reducible assumption) | (with_reducible refine Below.drew ?_; with_reducible refine ba _ _ ?_; with_reducible assumption) | exact Below.refl _ _ | exact (Below.refl _ _).drew | exact (Below.refl _ _).alloc (Nat.le_refl _) _ | (refine bc _ _ (by assumption) (by assumption)))))) (HSG.out.keep (Below.agree (by (first | with_reducible assumption | (with_reducible refine Below.drew ?_; with_reducible assumption) | (with_reducible refine ba _ _ ?_; with_reducible assumption) | (with_reducible refine Below.drew ?_; with_reducible refine ba _ _ ?_; with_reducible assumption) | exact Below.refl _ _ | exact (Below.refl _ _).drew | exact (Below.refl _ _).alloc (Nat.le_refl _) _ | (refine bc _ _ (by assumption) (by assumption))))))).mono ?_; rintro e wC ⟨A, c, B, d, rfl, h1, h2, hbC⟩; have hkC := bc _ _ (by (first | with_reducible assumption | (with_reducible refine Below.drew ?_; with_reducible assumption) | (with_reducible refine ba _ _ ?_; with_reducible assumption) | (with_reducible refine Below.drew ?_; with_reducible refine ba _ _ ?_; with_reducible assumption) | exact Below.refl _ _ | exact (Below.refl _ _).drew | exact (Below.refl _ _).alloc (Nat.le_refl _) _ | (refine bc _ _ (by assumption) (by assumption)))) hbC; obtain ⟨hcC, hfC⟩ := bcell hbC; have hzC := hbC.size; (try simp at hzC); (try have hl0 : w4.heap.size < wC.heap.size := (by omega)); (try have hl3 : gO < wC.heap.size := (by omega)); (try have hl4 : gO + 1 < wC.heap.size := (by omega)); (try have hl5 : gO + 1 + 1 < wC.heap.size := (by omega)); (try have hl1 : w4.heap.size + 1 < wC.heap.size := (by omega)); (try have hl2 : w4.heap.size + 1 + 1 < wC.heap.size := (by omega))
          refine hK.out _ _ ?_ (fun hHeld => ?_)
          · (first | (repeat' (first | with_reducible assumption | exact Nat.le_refl _ | with_reducible refine Below.setCell ?_ ?_ _ | with_reducible refine Below.drew ?_ | with_reducible refine ba _ _ ?_ | omega | (simp <;> omega))) | (first | with_reducible assumption | (with_reducible refine Below.drew ?_; with_reducible assumption) | (with_reducible refine ba _ _ ?_; with_reducible assumption) | (with_reducible refine Below.drew ?_; with_reducible refine ba _ _ ?_; with_reducible assumption) | exact Below.refl _ _ | exact (Below.refl _ _).drew | exact (Below.refl _ _).alloc (Nat.le_refl _) _ | (refine bc _ _ (by assumption) (by assumption))))
          clear hK K
          refine RegOk.put_ (m' := 63) (by kernel_rfl) ?_
          try simp only [Act.put, List.setIfInBounds_toArray, List.set_cons_zero, List.set_cons_succ]
          refine hR.come (rs := [6]) (by kernel_rfl) (by simp) ?_
          refine AllReadyH.cons (o := ?o678_6) ?h678_6 (fun K hK => ?kw678_6) AllReadyH.nil
          case h678_6 => simp only [List.getElem?_toArray, List.getElem?_cons_succ, List.getElem?_cons_zero]; rfl
          go_simp <;> (try go_wp2_with fail)
          refine hK.out _ _ ?_ (fun hHeld => ?_)
          · (first | (repeat' (first | with_reducible assumption | exact Nat.le_refl _ | with_reducible refine Below.setCell ?_ ?_ _ | with_reducible refine Below.drew ?_ | with_reducible refine ba _ _ ?_ | omega | (simp <;> omega))) | (first | with_reducible assumption | (with_reducible refine Below.drew ?_; with_reducible assumption) | (with_reducible refine ba _ _ ?_; with_reducible assumption) | (with_reducible refine Below.drew ?_; with_reducible refine ba _ _ ?_; with_reducible assumption) | exact Below.refl _ _ | exact (Below.refl _ _).drew | exact (Below.refl _ _).alloc (Nat.le_refl _) _ | (refine bc _ _ (by assumption) (by assumption))))
          clear hK K
          refine RegOk.put_ (m' := 127) (by kernel_rfl) ?_
          try simp only [Act.put, List.setIfInBounds_toArray, List.set_cons_zero, List.set_cons_succ]
          refine hR.all (by kernel_rfl) ?_ _
          refine NoPanic.normal ?_
          go_wp2_with fail
          go_meet
          case rel =>
            refine ⟨_, rfl, ⟨A, c, B, d, (by repeat' (first | with_reducible assumption | (with_reducible refine heap_alloc_at ?_; (first | rfl | omega | (simp [World.setCell]; done) | (simp [World.setCell]; omega))) | with_reducible refine set2 (a := .slice none 0 0) (b := .slice none 0 0) ?_ | (with_reducible refine (Below.heap_setCell _ _ _ _ ?_).trans ?_) | (with_reducible refine (Below.heap_alloc _ _ _ ?_).trans ?_) | (with_reducible refine drew_get2 ?_) | (with_reducible refine (hbC.block _ ?_).trans ?_) | (with_reducible refine (hbO.block _ ?_).trans ?_) | (simp [World.setCell]; done) | omega | (simp [World.setCell] <;> omega))), ?_, ?_⟩, by assumption⟩
            · (first | (with_reducible refine Sl.sub (Sl.alloc_ h1 _) ?_; exact (fun _ _ _ => trivial)) | (refine Sl.two_ h1 ?_; rintro ⟨a, b⟩; simp at a; omega))
            · (first | (with_reducible refine Sl.sub (Sl.alloc_ h2 _) ?_; exact (fun _ _ _ => trivial)) | (refine Sl.two_ h2 ?_; rintro ⟨a, b⟩; simp at a; omega))
      case kw672_5 =>
        go_simp <;> (try go_wp2_with fail)
        refine hK.out _ _ ?_ (fun hHeld => ?_)
        · (first | (repeat' (first | with_reducible assumption | exact Nat.le_refl _ | with_reducible refine Below.setCell ?_ ?_ _ | with_reducible refine Below.drew ?_ | with_reducible refine ba _ _ ?_ | omega | (simp <;> omega))) | (first | with_reducible assumption | (with_reducible refine Below.drew ?_; with_reducible assumption) | (with_reducible refine ba _ _ ?_; with_reducible assumption) | (with_reducible refine Below.drew ?_; with_reducible refine ba _ _ ?_; with_reducible assumption) | exact Below.refl _ _ | exact (Below.refl _ _).drew | exact (Below.refl _ _).alloc (Nat.le_refl _) _ | (refine bc _ _ (by assumption) (by assumption))))
        clear hK K
        refine RegOk.put_ (m' := 41) (by kernel_rfl) ?_
        try simp only [Act.put, List.setIfInBounds_toArray, List.set_cons_zero, List.set_cons_succ]
        refine hR.come (rs := [1]) (by kernel_rfl) (by simp) ?_
        refine AllReadyH.cons (o := ?o679_1) ?h679_1 (fun K hK => ?kw679_1) AllReadyH.nil
        case h679_1 => simp only [List.getElem?_toArray, List.getElem?_cons_succ, List.getElem?_cons_zero]; rfl
        go_simp <;> (try go_wp2_with fail)
        refine hK.out _ _ ?_ (fun hHeld => ?_)
        · (first | (repeat' (first | with_reducible assumption | exact Nat.le_refl _ | with_reducible refine Below.setCell ?_ ?_ _ | with_reducible refine Below.drew ?_ | with_reducible refine ba _ _ ?_ | omega | (simp <;> omega))) | (first | with_reducible assumption | (with_reducible refine Below.drew ?_; with_reducible assumption) | (with_reducible refine ba _ _ ?_; with_reducible assumption) | (with_reducible refine Below.drew ?_; with_reducible refine ba _ _ ?_; with_reducible assumption) | exact Below.refl _ _ | exact (Below.refl _ _).drew | exact (Below.refl _ _).alloc (Nat.le_refl _) _ | (refine bc _ _ (by assumption) (by assumption))))
        clear hK K
        refine RegOk.put_ (m' := 43) (by kernel_rfl) ?_
        try simp only [Act.put, List.setIfInBounds_toArray, List.set_cons_zero, List.set_cons_succ]
        refine hR.take (i := 2) (oi := ?ow680_2) (v := ?vw680_2) (m' := 47) ?hw680_2 (by kernel_rfl) (by kernel_rfl) (fun _ _ _ h => h) (Or.inl ⟨?sw680_2, ?yw680_2⟩) (by assumption) ?nw680_2
        case hw680_2 => simp only [List.getElem?_toArray, List.getElem?_cons_succ, List.getElem?_cons_zero]; rfl
        case sw680_2 => rfl
        case yw680_2 => (intro w hSw; (try dsimp only at hSw); go_simp <;> with_reducible rfl)
        try simp only [Act.put, List.setIfInBounds_toArray, List.set_cons_zero, List.set_cons_succ]
        refine hR.come (rs := [4]) (by kernel_rfl) (by simp) ?_
        refine AllReadyH.cons (o := ?o681_4) ?h681_4 (fun K hK => ?kw681_4) AllReadyH.nil
        case h681_4 => simp only [List.getElem?_toArray, List.getElem?_cons_succ, List.getElem?_cons_zero]; rfl
        go_simp
        go_at_call 15; refine (answerN (q := q2) (s := s15) q2_xs q2_ys rfl rfl rfl rfl rfl _ (qv_ok q2_ok).1 (qv_ok q2_ok).2 ok15 (by decide) (sl_fs1N (S := fun _ => True) (n := 1) (t := 49) (l := [⟨0, 1, 1⟩]) rfl (by repeat' (first | with_reducible assumption | (with_reducible refine heap_alloc_at ?_; (first | rfl | omega | (simp [World.setCell]; done) | (simp [World.setCell]; omega))) | with_reducible refine set2 (a := .slice none 0 0) (b := .slice none 0 0) ?_ | (with_reducible refine (Below.heap_setCell _ _ _ _ ?_).trans ?_) | (with_reducible refine (Below.heap_alloc _ _ _ ?_).trans ?_) | (with_reducible refine drew_get2 ?_) | (with_reducible refine (hbC.block _ ?_).trans ?_) | (with_reducible refine (hbO.block _ ?_).trans ?_) | (simp [World.setCell]; done) | omega | (simp [World.setCell] <;> omega))) (by repeat' (first | with_reducible refine Sl.alloc_ ?_ _ | with_reducible refine Sl.drew ?_ | exact HO.out)) trivial) (HSL.out.keep (Below.agree (by (first | with_reducible assumption | (with_reducible refine Below.drew ?_; with_reducible assumption) | (with_reducible refine ba _ _ ?_; with_reducible assumption) | (with_reducible refine Below.drew ?_; with_reducible refine ba _ _ ?_; with_reducible assumption) | exact Below.refl _ _ | exact (Below.refl _ _).drew | exact (Below.refl _ _).alloc (Nat.le_refl _) _ | (refine bc _ _ (by assumption) (by assumption)))))) (HSG.out.keep (Below.agree (by (first | with_reducible assumption | (with_reducible refine Below.drew ?_; with_reducible assumption) | (with_reducible refine ba _ _ ?_; with_reducible assumption) | (with_reducible refine Below.drew ?_; with_reducible refine ba _ _ ?_; with_reducible assumption) | exact Below.refl _ _ | exact (Below.refl _ _).drew | exact (Below.refl _ _).alloc (Nat.le_refl _) _ | (refine bc _ _ (by assumption) (by assumption))))))).mono ?_; rintro e wC ⟨A, c, B, d, rfl, h1, h2, hbC⟩; have hkC := bc _ _ (by (first | with_reducible assumption | (with_reducible refine Below.drew ?_; with_reducible assumption) | (with_reducible refine ba _ _ ?_; with_reducible assumption) | (with_reducible refine Below.drew ?_; with_reducible refine ba _ _ ?_; with_reducible assumption) | exact Below.refl _ _ | exact (Below.refl _ _).drew | exact (Below.refl _ _).alloc (Nat.le_refl _) _ | (refine bc _ _ (by assumption) (by assumption)))) hbC; obtain ⟨hcC, hfC⟩ := bcell hbC; have hzC := hbC.size; (try simp at hzC); (try have hl0 : w4.heap.size < wC.heap.size := (by omega)); (try have hl3 : gO < wC.heap.size := (by omega)); (try have hl4 : gO + 1 < wC.heap.size := (by omega)); (try have hl5 : gO + 1 + 1 < wC.heap.size := (by omega)); (try have hl1 : w4.heap.size + 1 < wC.heap.size := (by omega)); (try have hl2 : w4.heap.size + 1 + 1 < wC.heap.size := (by omega))
        refine hK.out _ _ ?_ (fun hHeld => ?_)
        · (first | (repeat' (first | with_reducible assumption | exact Nat.le_refl _ | with_reducible refine Below.setCell ?_ ?_ _ | with_reducible refine Below.drew ?_ | with_reducible refine ba _ _ ?_ | omega | (simp <;> omega))) | (first | with_reducible assumption | (with_reducible refine Below.drew ?_; with_reducible assumption) | (with_reducible refine ba _ _ ?_; with_reducible assumption) | (with_reducible refine Below.drew ?_; with_reducible refine ba _ _ ?_; with_reducible assumption) | exact Below.refl _ _ | exact (Below.refl _ _).drew | exact (Below.refl _ _).alloc (Nat.le_refl _) _ | (refine bc _ _ (by assumption) (by assumption))))
        clear hK K
        refine RegOk.put_ (m' := 63) (by kernel_rfl) ?_
        try simp only [Act.put, List.setIfInBounds_toArray, List.set_cons_zero, List.set_cons_succ]
        refine hR.come (rs := [6]) (by kernel_rfl) (by simp) ?_
        refine AllReadyH.cons (o := ?o682_6) ?h682_6 (fun K hK => ?kw682_6) AllReadyH.nil
        case h682_6 => simp only [List.getElem?_toArray, List.getElem?_cons_succ, List.getElem?_cons_zero]; rfl
        go_simp <;> (try go_wp2_with fail)
        refine hK.out _ _ ?_ (fun hHeld => ?_)
        · (first | (repeat' (first | with_reducible assumption | exact Nat.le_refl _ | with_reducible refine Below.setCell ?_ ?_ _ | with_reducible refine Below.drew ?_ | with_reducible refine ba _ _ ?_ | omega | (simp <;> omega))) | (first | with_reducible assumption | (with_reducible refine Below.drew ?_; with_reducible assumption) | (with_reducible refine ba _ _ ?_; with_reducible assumption) | (with_reducible refine Below.drew ?_; with_reducible refine ba _ _ ?_; with_reducible assumption) | exact Below.refl _ _ | exact (Below.refl _ _).drew | exact (Below.refl _ _).alloc (Nat.le_refl _) _ | (refine bc _ _ (by assumption) (by assumption))))
        clear hK K
        refine RegOk.put_ (m' := 127) (by kernel_rfl) ?_
        try simp only [Act.put, List.setIfInBounds_toArray, List.set_cons_zero, List.set_cons_succ]
        refine hR.all (by kernel_rfl) ?_ _
        refine NoPanic.normal ?_
        go_wp2_with fail
        go_meet
        case rel =>
          refine ⟨_, rfl, ⟨A, c, B, d, (by repeat' (first | with_reducible assumption | (with_reducible refine heap_alloc_at ?_; (first | rfl | omega | (simp [World.setCell]; done) | (simp [World.setCell]; omega))) | with_reducible refine set2 (a := .slice none 0 0) (b := .slice none 0 0) ?_ | (with_reducible refine (Below.heap_setCell _ _ _ _ ?_).trans ?_) | (with_reducible refine (Below.heap_alloc _ _ _ ?_).trans ?_) | (with_reducible refine drew_get2 ?_) | (with_reducible refine (hbC.block _ ?_).trans ?_) | (with_reducible refine (hbO.block _ ?_).trans ?_) | (simp [World.setCell]; done) | omega | (simp [World.setCell] <;> omega))), ?_, ?_⟩, by assumption⟩
          · (first | (with_reducible refine Sl.sub (Sl.alloc_ h1 _) ?_; exact (fun _ _ _ => trivial)) | (refine Sl.two_ h1 ?_; rintro ⟨a, b⟩; simp at a; omega))
          · (first | (with_reducible refine Sl.sub (Sl.alloc_ h2 _) ?_; exact (fun _ _ _ => trivial)) | (refine Sl.two_ h2 ?_; rintro ⟨a, b⟩; simp at a; omega))
    case kw671_5 =>
      go_simp <;> (try go_wp2_with fail)
      refine hK.out _ _ ?_ (fun hHeld => ?_)
      · (first | (repeat' (first | with_reducible assumption | exact Nat.le_refl _ | with_reducible refine Below.setCell ?_ ?_ _ | with_reducible refine Below.drew ?_ | with_reducible refine ba _ _ ?_ | omega | (simp <;> omega))) | (first | with_reducible assumption | (with_reducible refine Below.drew ?_; with_reducible assumption) | (with_reducible refine ba _ _ ?_; with_reducible assumption) | (with_reducible refine Below.drew ?_; with_reducible refine ba _ _ ?_; with_reducible assumption) | exact Below.refl _ _ | exact (Below.refl _ _).drew | exact (Below.refl _ _).alloc (Nat.le_refl _) _ | (refine bc _ _ (by assumption) (by assumption))))
      clear hK K
      refine RegOk.put_ (m' := 40) (by kernel_rfl) ?_
      try simp only [Act.put, List.setIfInBounds_toArray, List.set_cons_zero, List.set_cons_succ]
      refine hR.come (rs := [0]) (by kernel_rfl) (by simp) ?_
      refine AllReadyH.cons (o := ?o683_0) ?h683_0 (fun K hK => ?kw683_0) AllReadyH.nil
      case h683_0 => simp only [List.getElem?_toArray, List.getElem?_cons_succ, List.getElem?_cons_zero]; rfl
      go_simp
      go_at_call 29; refine (onlyL15 _ _ _).mono ?_; rintro e wO ⟨gO, rfl, hO, hzO, hbO⟩; have hkO := bc _ _ (by (first | with_reducible assumption | (with_reducible refine Below.drew ?_; with_reducible assumption) | (with_reducible refine ba _ _ ?_; with_reducible assumption) | (with_reducible refine Below.drew ?_; with_reducible refine ba _ _ ?_; with_reducible assumption) | exact Below.refl _ _ | exact (Below.refl _ _).drew | exact (Below.refl _ _).alloc (Nat.le_refl _) _ | (refine bc _ _ (by assumption) (by assumption)))) hbO; obtain ⟨hcO, hfO⟩ := bcell hbO; have hzP := hbO.size; (try simp at hzP); (try have hl6 : w4.heap.size < wO.heap.size := (by omega)); (try have hl7 : w4.heap.size < gO + 1 := (by omega)); (try have hl8 : w4.heap.size < gO + 1 + 1 := (by omega)); have HO := Lib.hid hO; clear hO
      refine hK.out _ _ ?_ (fun hHeld => ?_)
      · (first | (repeat' (first | with_reducible assumption | exact Nat.le_refl _ | with_reducible refine Below.setCell ?_ ?_ _ | with_reducible refine Below.drew ?_ | with_reducible refine ba _ _ ?_ | omega | (simp <;> omega))) | (first | with_reducible assumption | (with_reducible refine Below.drew ?_; with_reducible assumption) | (with_reducible refine ba _ _ ?_; with_reducible assumption) | (with_reducible refine Below.drew ?_; with_reducible refine ba _ _ ?_; with_reducible assumption) | exact Below.refl _ _ | exact (Below.refl _ _).drew | exact (Below.refl _ _).alloc (Nat.le_refl _) _ | (refine bc _ _ (by assumption) (by assumption))))
      clear hK K
      refine RegOk.put_ (m' := 41) (by kernel_rfl) ?_
      try simp only [Act.put, List.setIfInBounds_toArray, List.set_cons_zero, List.set_cons_succ]
      refine hR.come (rs := [1]) (by kernel_rfl) (by simp) ?_
      refine AllReadyH.cons (o := ?o684_1) ?h684_1 (fun K hK => ?kw684_1) AllReadyH.nil
      case h684_1 => simp only [List.getElem?_toArray, List.getElem?_cons_succ, List.getElem?_cons_zero]; rfl
      go_simp <;> (try go_wp2_with fail)
      refine hK.out _ _ ?_ (fun hHeld => ?_)
      · (first | (repeat' (first | with_reducible assumption | exact Nat.le_refl _ | with_reducible refine Below.setCell ?_ ?_ _ | with_reducible refine Below.drew ?_ | with_reducible refine ba _ _ ?_ | omega | (simp <;> omega))) | (first | with_reducible assumption | (with_reducible refine Below.drew ?_; with_reducible assumption) | (with_reducible refine ba _ _ ?_; with_reducible assumption) | (with_reducible refine Below.drew ?_; with_reducible refine ba _ _ ?_; with_reducible assumption) | exact Below.refl _ _ | exact (Below.refl _ _).drew | exact (Below.refl _ _).alloc (Nat.le_refl _) _ | (refine bc _ _ (by assumption) (by assumption))))
      clear hK K
      refine RegOk.put_ (m' := 43) (by kernel_rfl) ?_
      try simp only [Act.put, List.setIfInBounds_toArray, List.set_cons_zero, List.set_cons_succ]
      refine hR.take (i := 2) (oi := ?ow685_2) (v := ?vw685_2) (m' := 47) ?hw685_2 (by kernel_rfl) (by kernel_rfl) (fun _ _ _ h => h) (Or.inl ⟨?sw685_2, ?yw685_2⟩) (by assumption) ?nw685_2
      case hw685_2 => simp only [List.getElem?_toArray, List.getElem?_cons_succ, List.getElem?_cons_zero]; rfl
      case sw685_2 => rfl
      case yw685_2 => (intro w hSw; (try dsimp only at hSw); go_simp <;> with_reducible rfl)
      try simp only [Act.put, List.setIfInBounds_toArray, List.set_cons_zero, List.set_cons_succ]
      refine hR.come (rs := [4]) (by kernel_rfl) (by simp) ?_
      refine AllReadyH.cons (o := ?o686_4) ?h686_4 (fun K hK => ?kw686_4) AllReadyH.nil
      case h686_4 => simp only [List.getElem?_toArray, List.getElem?_cons_succ, List.getElem?_cons_zero]; rfl
      go_simp
      go_at_call 15; refine (answerN (q := q2) (s := s15) q2_xs q2_ys rfl rfl rfl rfl rfl _ (qv_ok q2_ok).1 (qv_ok q2_ok).2 ok15 (by decide) (sl_fs1N (S := fun _ => True) (n := 1) (t := 49) (l := [⟨0, 1, 1⟩]) rfl (by repeat' (first | with_reducible assumption | (with_reducible refine heap_alloc_at ?_; (first | rfl | omega | (simp [World.setCell]; done) | (simp [World.setCell]; omega))) | with_reducible refine set2 (a := .slice none 0 0) (b := .slice none 0 0) ?_ | (with_reducible refine (Below.heap_setCell _ _ _ _ ?_).trans ?_) | (with_reducible refine (Below.heap_alloc _ _ _ ?_).trans ?_) | (with_reducible refine drew_get2 ?_) | (with_reducible refine (hbC.block _ ?_).trans ?_) | (with_reducible refine (hbO.block _ ?_).trans ?_) | (simp [World.setCell]; done) | omega | (simp [World.setCell] <;> omega))) (by repeat' (first | with_reducible refine Sl.alloc_ ?_ _ | with_reducible refine Sl.drew ?_ | exact HO.out)) trivial) (HSL.out.keep (Below.agree (by (first | with_reducible assumption | (with_reducible refine Below.drew ?_; with_reducible assumption) | (with_reducible refine ba _ _ ?_; with_reducible assumption) | (with_reducible refine Below.drew ?_; with_reducible refine ba _ _ ?_; with_reducible assumption) | exact Below.refl _ _ | exact (Below.refl _ _).drew | exact (Below.refl _ _).alloc (Nat.le_refl _) _ | (refine bc _ _ (by assumption) (by assumption)))))) (HSG.out.keep (Below.agree (by (first | with_reducible assumption | (with_reducible refine Below.drew ?_; with_reducible assumption) | (with_reducible refine ba _ _ ?_; with_reducible assumption) | (with_reducible refine Below.drew ?_; with_reducible refine ba _ _ ?_; with_reducible assumption) | exact Below.refl _ _ | exact (Below.refl _ _).drew | exact (Below.refl _ _).alloc (Nat.le_refl _) _ | (refine bc _ _ (by assumption) (by assumption))))))).mono ?_; rintro e wC ⟨A, c, B, d, rfl, h1, h2, hbC⟩; have hkC := bc _ _ (by (first | with_reducible assumption | (with_reducible refine Below.drew ?_; with_reducible assumption) | (with_reducible refine ba _ _ ?_; with_reducible assumption) | (with_reducible refine Below.drew ?_; with_reducible refine ba _ _ ?_; with_reducible assumption) | exact Below.refl _ _ | exact (Below.refl _ _).drew | exact (Below.refl _ _).alloc (Nat.le_refl _) _ | (refine bc _ _ (by assumption) (by assumption)))) hbC; obtain ⟨hcC, hfC⟩ := bcell hbC; have hzC := hbC.size; (try simp at hzC); (try have hl0 : w4.heap.size < wC.heap.size := (by omega)); (try have hl3 : gO < wC.heap.size := (by omega)); (try have hl4 : gO + 1 < wC.heap.size := (by omega)); (try have hl5 : gO + 1 + 1 < wC.heap.size := (by omega)); (try have hl1 : w4.heap.size + 1 < wC.heap.size := (by omega)); (try have hl2 : w4.heap.size + 1 + 1 < wC.heap.size := (by omega))
      refine hK.out _ _ ?_ (fun hHeld => ?_)
      · (first | (repeat' (first | with_reducible assumption | exact Nat.le_refl _ | with_reducible refine Below.setCell ?_ ?_ _ | with_reducible refine Below.drew ?_ | with_reducible refine ba _ _ ?_ | omega | (simp <;> omega))) | (first | with_reducible assumption | (with_reducible refine Below.drew ?_; with_reducible assumption) | (with_reducible refine ba _ _ ?_; with_reducible assumption) | (with_reducible refine Below.drew ?_; with_reducible refine ba _ _ ?_; with_reducible assumption) | exact Below.refl _ _ | exact (Below.refl _ _).drew | exact (Below.refl _ _).alloc (Nat.le_refl _) _ | (refine bc _ _ (by assumption) (by assumption))))
      clear hK K
      refine RegOk.put_ (m' := 63) (by kernel_rfl) ?_
      try simp only [Act.put, List.setIfInBounds_toArray, List.set_cons_zero, List.set_cons_succ]
      refine hR.come (rs := [6]) (by kernel_rfl) (by simp) ?_
      refine AllReadyH.cons (o := ?o687_6) ?h687_6 (fun K hK => ?kw687_6) AllReadyH.nil
      case h687_6 => simp only [List.getElem?_toArray, List.getElem?_cons_succ, List.getElem?_cons_zero]; rfl
      go_simp <;> (try go_wp2_with fail)
      refine hK.out _ _ ?_ (fun hHeld => ?_)
      · (first | (repeat' (first | with_reducible assumption | exact Nat.le_refl _ | with_reducible refine Below.setCell ?_ ?_ _ | with_reducible refine Below.drew ?_ | with_reducible refine ba _ _ ?_ | omega | (simp <;> omega))) | (first | with_reducible assumption | (with_reducible refine Below.drew ?_; with_reducible assumption) | (with_reducible refine ba _ _ ?_; with_reducible assumption) | (with_reducible refine Below.drew ?_; with_reducible refine ba _ _ ?_; with_reducible assumption) | exact Below.refl _ _ | exact (Below.refl _ _).drew | exact (Below.refl _ _).alloc (Nat.le_refl _) _ | (refine bc _ _ (by assumption) (by assumption))))
      clear hK K
      refine RegOk.put_ (m' := 127) (by kernel_rfl) ?_
      try simp only [Act.put, List.setIfInBounds_toArray, List.set_cons_zero, List.set_cons_succ]
      refine hR.all (by kernel_rfl) ?_ _
      refine NoPanic.normal ?_
      go_wp2_with fail
      go_meet
      case rel =>
        refine ⟨_, rfl, ⟨A, c, B, d, (by repeat' (first | with_reducible assumption | (with_reducible refine heap_alloc_at ?_; (first | rfl | omega | (simp [World.setCell]; done) | (simp [World.setCell]; omega))) | with_reducible refine set2 (a := .slice none 0 0) (b := .slice none 0 0) ?_ | (with_reducible refine (Below.heap_setCell _ _ _ _ ?_).trans ?_) | (with_reducible refine (Below.heap_alloc _ _ _ ?_).trans ?_) | (with_reducible refine drew_get2 ?_) | (with_reducible refine (hbC.block _ ?_).trans ?_) | (with_reducible refine (hbO.block _ ?_).trans ?_) | (simp [World.setCell]; done) | omega | (simp [World.setCell] <;> omega))), ?_, ?_⟩, by assumption⟩
        · (first | (with_reducible refine Sl.sub (Sl.alloc_ h1 _) ?_; exact (fun _ _ _ => trivial)) | (refine Sl.two_ h1 ?_; rintro ⟨a, b⟩; simp at a; omega))
        · (first | (with_reducible refine Sl.sub (Sl.alloc_ h2 _) ?_; exact (fun _ _ _ => trivial)) | (refine Sl.two_ h2 ?_; rintro ⟨a, b⟩; simp at a; omega))
  obtain ⟨g5, rfl, ha, hb⟩ := hcut
  obtain ⟨w5, hwv⟩ : ∃ x, x = wc := ⟨_, rfl⟩
  subst hwv
  have A5 := Lib.hid ha
  replace S1 := mvSt S1 hb
  replace S2 := mvSt S2 hb
  replace XF := mvF XF hb
  (try replace A4 := mvAn A4 hb)
  have b5 := Lib.hid (b4.out.trans (hb.mono b4.out.size))
  clear ha hb b4 zs br ba bc HG1 HSL HSG lg
  as_aux_lemma =>
  obtain ⟨L, cl, G, cg, hg, hsL, hsG⟩ := S2.out
  obtain ⟨s0, s1⟩ := two2 (Lib.hid hg)
  have HSL := Lib.hid hsL
  have HSG := Lib.hid hsG
  clear hg hsL hsG
  go_upto_region 6 with fail
  go_cut [6] (fun p wx => ∃ g, p = .pointer (some ⟨g, 0, none⟩) ∧ An wx g [50] [50] 1 1 ∧ Below w5.heap.size w5 wx)
  case first =>
    go_wp2_with (go_at_call 15; refine (answerN (q := q3) (s := g15) (n := 1) (m := 1) q3_xs q3_ys rfl rfl rfl rfl rfl _ (qv_ok q3_ok).1 (qv_ok q3_ok).2 okg15 (by decide) XF.out HSL.out HSG.out).mono ?_; rintro e wC ⟨A, c, B, d, rfl, h1, h2, hbC⟩; have H1 := Lib.hid h1; have H2 := Lib.hid h2; have bC := Lib.hid hbC; clear h1 h2 hbC)
    go_meet
    case rel => exact ⟨_, rfl, ⟨A, c, B, d, heap_alloc_at rfl, (H1.out.alloc_ _).sub (fun _ _ _ => trivial), (H2.out.alloc_ _).sub (fun _ _ _ => trivial)⟩, bC.out.alloc bC.out.size _⟩
  obtain ⟨g6, rfl, ha, hb⟩ := hcut
  obtain ⟨w6, hwv⟩ : ∃ x, x = wc := ⟨_, rfl⟩
  subst hwv
  have A6 := Lib.hid ha
  replace S1 := mvSt S1 hb
  replace S2 := mvSt S2 hb
  replace XF := mvF XF hb
  replace A4 := mvAn A4 hb
  replace A5 := mvAn A5 hb
  (try replace A6 := mvAn A6 hb)
  (try replace A7 := mvAn A7 hb)
  (try replace A8 := mvAn A8 hb)
  have b6 := Lib.hid (b5.out.trans (hb.mono b5.out.size))
  clear ha hb b5 HSL HSG s0 s1
  obtain ⟨L, cl, G, cg, hg, hsL, hsG⟩ := S1.out
  obtain ⟨s0, s1⟩ := two2 (Lib.hid hg)
  have HSL := Lib.hid hsL
  have HSG := Lib.hid hsG
  clear hg hsL hsG
  go_upto_region 7 with fail
  go_cut [7] (fun p wx => ∃ g, p = .pointer (some ⟨g, 0, none⟩) ∧ An wx g cnt15 [2] 16 1 ∧ Below w6.heap.size w6 wx)
  case first =>
    go_wp2_with (go_at_call 15; refine (answerN (q := q4) (s := s15) (n := 16) (m := 1) q4_xs q4_ys rfl rfl rfl rfl rfl _ (qv_ok q4_ok).1 (qv_ok q4_ok).2 ok15 (by decide) XF.out HSL.out HSG.out).mono ?_; rintro e wC ⟨A, c, B, d, rfl, h1, h2, hbC⟩; have H1 := Lib.hid h1; have H2 := Lib.hid h2; have bC := Lib.hid hbC; clear h1 h2 hbC)
    go_meet
    case rel => exact ⟨_, rfl, ⟨A, c, B, d, heap_alloc_at rfl, (H1.out.alloc_ _).sub (fun _ _ _ => trivial), (H2.out.alloc_ _).sub (fun _ _ _ => trivial)⟩, bC.out.alloc bC.out.size _⟩
  obtain ⟨g7, rfl, ha, hb⟩ := hcut
  obtain ⟨w7, hwv⟩ : ∃ x, x = wc := ⟨_, rfl⟩
  subst hwv
  have A7 := Lib.hid ha
  replace S1 := mvSt S1 hb
  replace S2 := mvSt S2 hb
  replace XF := mvF XF hb
  replace A4 := mvAn A4 hb
  replace A5 := mvAn A5 hb
  (try replace A6 := mvAn A6 hb)
  (try replace A7 := mvAn A7 hb)
  (try replace A8 := mvAn A8 hb)
  have b7 := Lib.hid (b6.out.trans (hb.mono b6.out.size))
  clear ha hb b6 HSL HSG s0 s1
  obtain ⟨L, cl, G, cg, hg, hsL, hsG⟩ := S1.out
  obtain ⟨s0, s1⟩ := two2 (Lib.hid hg)
  have HSL := Lib.hid hsL
  have HSG := Lib.hid hsG
  clear hg hsL hsG
  go_upto_region 8 with fail
  go_cut [8] (fun p wx => ∃ g, p = .pointer (some ⟨g, 0, none⟩) ∧ An wx g cnt15 [6] 16 1 ∧ Below w7.heap.size w7 wx)
  case first =>
    go_wp2_with (go_at_call 15; refine (answerN (q := q5) (s := s15) (n := 16) (m := 1) q5_xs q5_ys rfl rfl rfl rfl rfl _ (qv_ok q5_ok).1 (qv_ok q5_ok).2 ok15 (by decide) XF.out HSL.out HSG.out).mono ?_; rintro e wC ⟨A, c, B, d, rfl, h1, h2, hbC⟩; have H1 := Lib.hid h1; have H2 := Lib.hid h2; have bC := Lib.hid hbC; clear h1 h2 hbC)
    go_meet
    case rel => exact ⟨_, rfl, ⟨A, c, B, d, heap_alloc_at rfl, (H1.out.alloc_ _).sub (fun _ _ _ => trivial), (H2.out.alloc_ _).sub (fun _ _ _ => trivial)⟩, bC.out.alloc bC.out.size _⟩
  obtain ⟨g8, rfl, ha, hb⟩ := hcut
  obtain ⟨w8, hwv⟩ : ∃ x, x = wc := ⟨_, rfl⟩
  subst hwv
  have A8 := Lib.hid ha
  replace S1 := mvSt S1 hb
  replace S2 := mvSt S2 hb
  replace XF := mvF XF hb
  replace A4 := mvAn A4 hb
  replace A5 := mvAn A5 hb
  (try replace A6 := mvAn A6 hb)
  (try replace A7 := mvAn A7 hb)
  (try replace A8 := mvAn A8 hb)
  have b8 := Lib.hid (b7.out.trans (hb.mono b7.out.size))
  clear ha hb b7 HSL HSG s0 s1
  obtain ⟨L, cl, G, cg, hg, hsL, hsG⟩ := S1.out
  obtain ⟨s0, s1⟩ := two2 (Lib.hid hg)
  have HSL := Lib.hid hsL
  have HSG := Lib.hid hsG
  clear hg hsL hsG
  go_upto_region 9 with fail
  go_cut [9] (fun p wx => ∃ g, p = .pointer (some ⟨g, 0, none⟩) ∧ An wx g cnt15 [] 16 0 ∧ Below w8.heap.size w8 wx)
  case first =>
    go_wp2_with (go_at_call 15; refine (answerN (q := q6) (s := s15) (n := 16) (m := 0) q6_xs q6_ys rfl rfl rfl rfl rfl _ (qv_ok q6_ok).1 (qv_ok q6_ok).2 ok15 (by decide) XF.out HSL.out HSG.out).mono ?_; rintro e wC ⟨A, c, B, d, rfl, h1, h2, hbC⟩; have H1 := Lib.hid h1; have H2 := Lib.hid h2; have bC := Lib.hid hbC; clear h1 h2 hbC)
    go_meet
    case rel => exact ⟨_, rfl, ⟨A, c, B, d, heap_alloc_at rfl, (H1.out.alloc_ _).sub (fun _ _ _ => trivial), (H2.out.alloc_ _).sub (fun _ _ _ => trivial)⟩, bC.out.alloc bC.out.size _⟩
  obtain ⟨g9, rfl, ha, hb⟩ := hcut
  obtain ⟨w9, hwv⟩ : ∃ x, x = wc := ⟨_, rfl⟩
  subst hwv
  have A9 := Lib.hid ha
  replace S1 := mvSt S1 hb
  replace S2 := mvSt S2 hb
  replace XF := mvF XF hb
  replace A4 := mvAn A4 hb
  replace A5 := mvAn A5 hb
  (try replace A6 := mvAn A6 hb)
  (try replace A7 := mvAn A7 hb)
  (try replace A8 := mvAn A8 hb)
  have b9 := Lib.hid (b8.out.trans (hb.mono b8.out.size))
  clear ha hb b8 HSL HSG s0 s1
  as_aux_lemma =>
  obtain ⟨L, cl, G, cg, hg, hsL, hsG⟩ := S1.out
  have HG1 := Lib.hid hg
  have HSL := Lib.hid hsL
  have HSG := Lib.hid hsG
  have lg := heap_lt hg
  have zs : ∀ W, Below w9.heap.size w9 W → _ ∧ _ := fun W hW => two2 (mvQ HG1 hW)
  have br : Below w9.heap.size w9 w9 := Below.refl _ _
  have ba : ∀ W o, Below w9.heap.size w9 W → Below w9.heap.size w9 (W.alloc o) := fun W o h => h.alloc h.size o
  have bc : ∀ W W', Below w9.heap.size w9 W → Below W.heap.size W W' → Below w9.heap.size w9 W' := fun W W' h k => h.trans (k.mono h.size)
  clear hg hsL hsG
  go_upto_region 10 with fail
  go_cut [10] (fun p wx => ∃ g, p = .pointer (some ⟨g, 0, none⟩) ∧ An wx g par15 [3] 32 1 ∧ Below w9.heap.size w9 wx)
  case first =>
    refine wp_region_noPanic ?_
    refine wp_region_held_drew (S := fun X => Below w9.heap.size w9 X) (by kernel_rfl) ?_ (fun hHeld => ?_)
    · (first | (repeat' (first | with_reducible assumption | exact Nat.le_refl _ | with_reducible refine Below.setCell ?_ ?_ _ | with_reducible refine Below.drew ?_ | with_reducible refine ba _ _ ?_ | omega | (simp <;> omega))) | (first | with_reducible assumption | (with_reducible refine Below.drew ?_; with_reducible assumption) | (with_reducible refine ba _ _ ?_; with_reducible assumption) | (with_reducible refine Below.drew ?_; with_reducible refine ba _ _ ?_; with_reducible assumption) | exact Below.refl _ _ | exact (Below.refl _ _).drew | exact (Below.refl _ _).alloc (Nat.le_refl _) _ | (refine bc _ _ (by assumption) (by assumption))))
    refine RegOk.begin_ (n := 9) (T := evS10) ⟨by kernel_rfl, by kernel_rfl, by kernel_rfl, by kernel_rfl⟩ fun hR => ?_
    refine hR.take (i := 1) (oi := ?ow688_1) (v := ?vw688_1) (m' := 2) ?hw688_1 (by kernel_rfl) (by kernel_rfl) (fun _ _ _ h => h) (Or.inl ⟨?sw688_1, ?yw688_1⟩) (by assumption) ?nw688_1
    case hw688_1 => simp only [List.getElem?_toArray, List.getElem?_cons_succ, List.getElem?_cons_zero]; rfl
    case sw688_1 => rfl
    case yw688_1 => (intro w hSw; (try dsimp only at hSw); go_simp <;> with_reducible rfl)
    try simp only [Act.put, List.setIfInBounds_toArray, List.set_cons_zero, List.set_cons_succ]
    refine hR.take (i := 5) (oi := ?ow689_5) (v := ?vw689_5) (m' := 34) ?hw689_5 (by kernel_rfl) (by kernel_rfl) (fun _ _ _ h => h) (Or.inl ⟨?sw689_5, ?yw689_5⟩) (by assumption) ?nw689_5
    case hw689_5 => simp only [List.getElem?_toArray, List.getElem?_cons_succ, List.getElem?_cons_zero]; rfl
    case sw689_5 => rfl
    case yw689_5 => (intro w hSw; (try dsimp only at hSw); go_simp <;> with_reducible rfl)
    try simp only [Act.put, List.setIfInBounds_toArray, List.set_cons_zero, List.set_cons_succ]
    refine hR.come (rs := [0, 2, 7]) (by kernel_rfl) (by simp) ?_
    refine AllReadyH.cons (o := ?o690_0) ?h690_0 (fun K hK => ?kw690_0) (AllReadyH.cons (o := ?o690_2) ?h690_2 (fun K hK => ?kw690_2) (AllReadyH.cons (o := ?o690_7) ?h690_7 (fun K hK => ?kw690_7) AllReadyH.nil))
    case h690_0 => simp only [List.getElem?_toArray, List.getElem?_cons_succ, List.getElem?_cons_zero]; rfl
    case h690_2 => simp only [List.getElem?_toArray, List.getElem?_cons_succ, List.getElem?_cons_zero]; rfl
    case h690_7 => simp only [List.getElem?_toArray, List.getElem?_cons_succ, List.getElem?_cons_zero]; rfl
    case kw690_0 =>
      go_simp
      go_at_call 29; refine (onlyL15 _ _ _).mono ?_; rintro e wO ⟨gO, rfl, hO, hzO, hbO⟩; have hkO := bc _ _ (by (first | with_reducible assumption | (with_reducible refine Below.drew ?_; with_reducible assumption) | (with_reducible refine ba _ _ ?_; with_reducible assumption) | (with_reducible refine Below.drew ?_; with_reducible refine ba _ _ ?_; with_reducible assumption) | exact Below.refl _ _ | exact (Below.refl _ _).drew | exact (Below.refl _ _).alloc (Nat.le_refl _) _ | (refine bc _ _ (by assumption) (by assumption)))) hbO; obtain ⟨hcO, hfO⟩ := bcell hbO; have hzP := hbO.size; (try simp at hzP); (try have hl6 : w9.heap.size < wO.heap.size := (by omega)); (try have hl7 : w9.heap.size < gO + 1 := (by omega)); (try have hl8 : w9.heap.size < gO + 1 + 1 := (by omega)); (try have hl9 : w9.heap.size < gO + 1 + 1 + 1 := (by omega)); (try have hm6 : w9.heap.size + 1 < wO.heap.size := (by omega)); (try have hm7 : w9.heap.size + 1 < gO + 1 := (by omega)); (try have hm8 : w9.heap.size + 1 < gO + 1 + 1 := (by omega)); (try have hm9 : w9.heap.size + 1 < gO + 1 + 1 + 1 := (by omega)); have HO := Lib.hid hO; clear hO
      refine hK.out _ _ ?_ (fun hHeld => ?_)
      · (first | (repeat' (first | with_reducible assumption | exact Nat.le_refl _ | with_reducible refine Below.setCell ?_ ?_ _ | with_reducible refine Below.drew ?_ | with_reducible refine ba _ _ ?_ | omega | (simp <;> omega))) | (first | with_reducible assumption | (with_reducible refine Below.drew ?_; with_reducible assumption) | (with_reducible refine ba _ _ ?_; with_reducible assumption) | (with_reducible refine Below.drew ?_; with_reducible refine ba _ _ ?_; with_reducible assumption) | exact Below.refl _ _ | exact (Below.refl _ _).drew | exact (Below.refl _ _).alloc (Nat.le_refl _) _ | (refine bc _ _ (by assumption) (by assumption))))
      clear hK K
      refine RegOk.put_ (m' := 35) (by kernel_rfl) ?_
      try simp only [Act.put, List.setIfInBounds_toArray, List.set_cons_zero, List.set_cons_succ]
      refine hR.come (rs := [2, 7]) (by kernel_rfl) (by simp) ?_
      refine AllReadyH.cons (o := ?o691_2) ?h691_2 (fun K hK => ?kw691_2) (AllReadyH.cons (o := ?o691_7) ?h691_7 (fun K hK => ?kw691_7) AllReadyH.nil)
      case h691_2 => simp only [List.getElem?_toArray, List.getElem?_cons_succ, List.getElem?_cons_zero]; rfl
      case h691_7 => simp only [List.getElem?_toArray, List.getElem?_cons_succ, List.getElem?_cons_zero]; rfl
      case kw691_2 =>
        go_simp <;> (try go_wp2_with fail)
        refine hK.out _ _ ?_ (fun hHeld => ?_)
        · (first | (repeat' (first | with_reducible assumption | exact Nat.le_refl _ | with_reducible refine Below.setCell ?_ ?_ _ | with_reducible refine Below.drew ?_ | with_reducible refine ba _ _ ?_ | omega | (simp <;> omega))) | (first | with_reducible assumption | (with_reducible refine Below.drew ?_; with_reducible assumption) | (with_reducible refine ba _ _ ?_; with_reducible assumption) | (with_reducible refine Below.drew ?_; with_reducible refine ba _ _ ?_; with_reducible assumption) | exact Below.refl _ _ | exact (Below.refl _ _).drew | exact (Below.refl _ _).alloc (Nat.le_refl _) _ | (refine bc _ _ (by assumption) (by assumption))))
        clear hK K
        refine RegOk.put_ (m' := 39) (by kernel_rfl) ?_
        try simp only [Act.put, List.setIfInBounds_toArray, List.set_cons_zero, List.set_cons_succ]
        refine hR.come (rs := [3, 7]) (by kernel_rfl) (by simp) ?_
        refine AllReadyH.cons (o := ?o692_3) ?h692_3 (fun K hK => ?kw692_3) (AllReadyH.cons (o := ?o692_7) ?h692_7 (fun K hK => ?kw692_7) AllReadyH.nil)
        case h692_3 => simp only [List.getElem?_toArray, List.getElem?_cons_succ, List.getElem?_cons_zero]; rfl
        case h692_7 => simp only [List.getElem?_toArray, List.getElem?_cons_succ, List.getElem?_cons_zero]; rfl
        case kw692_3 =>
          go_simp <;> (try go_wp2_with fail)
          refine hK.out _ _ ?_ (fun hHeld => ?_)
          · (first | (repeat' (first | with_reducible assumption | exact Nat.le_refl _ | with_reducible refine Below.setCell ?_ ?_ _ | with_reducible refine Below.drew ?_ | with_reducible refine ba _ _ ?_ | omega | (simp <;> omega))) | (first | with_reducible assumption | (with_reducible refine Below.drew ?_; with_reducible assumption) | (with_reducible refine ba _ _ ?_; with_reducible assumption) | (with_reducible refine Below.drew ?_; with_reducible refine ba _ _ ?_; with_reducible assumption) | exact Below.refl _ _ | exact (Below.refl _ _).drew | exact (Below.refl _ _).alloc (Nat.le_refl _) _ | (refine bc _ _ (by assumption) (by assumption))))
          clear hK K
          refine RegOk.put_ (m' := 47) (by kernel_rfl) ?_
          try simp only [Act.put, List.setIfInBounds_toArray, List.set_cons_zero, List.set_cons_succ]
          refine hR.take (i := 4) (oi := ?ow693_4) (v := ?vw693_4) (m' := 63) ?hw693_4 (by kernel_rfl) (by kernel_rfl) (fun _ _ _ h => h) (Or.inl ⟨?sw693_4, ?yw693_4⟩) (by assumption) ?nw693_4
          case hw693_4 => simp only [List.getElem?_toArray, List.getElem?_cons_succ, List.getElem?_cons_zero]; rfl
          case sw693_4 => rfl
          case yw693_4 => (intro w hSw; (try dsimp only at hSw); go_simp <;> with_reducible rfl)
          try simp only [Act.put, List.setIfInBounds_toArray, List.set_cons_zero, List.set_cons_succ]
          refine hR.come (rs := [6, 7]) (by kernel_rfl) (by simp) ?_
          refine AllReadyH.cons (o := ?o694_6) ?h694_6 (fun K hK => ?kw694_6) (AllReadyH.cons (o := ?o694_7) ?h694_7 (fun K hK => ?kw694_7) AllReadyH.nil)
          case h694_6 => simp only [List.getElem?_toArray, List.getElem?_cons_succ, List.getElem?_cons_zero]; rfl
          case h694_7 => simp only [List.getElem?_toArray, List.getElem?_cons_succ, List.getElem?_cons_zero]; rfl
          case kw694_6 =>
            go_simp
            go_at_call 15; refine (answerN (q := q7) (s := s15) (n := 32) (m := 1) q7_xs q7_ys rfl rfl rfl rfl rfl _ (qv_ok q7_ok).1 (qv_ok q7_ok).2 ok15 (by decide) (sl_fs2N (S := fun _ => True) (n := 1) (m := 1) (t := 49) (l := [⟨2, 5, 5⟩]) (k := [⟨2, 5, 6⟩]) rfl rfl (by repeat' (first | with_reducible assumption | (with_reducible refine heap_alloc_at ?_; (first | rfl | omega | (simp [World.setCell]; done) | (simp [World.setCell]; omega))) | with_reducible refine set2 (a := .slice none 0 0) (b := .slice none 0 0) ?_ | (with_reducible refine (Below.heap_setCell _ _ _ _ ?_).trans ?_) | (with_reducible refine (Below.heap_alloc _ _ _ ?_).trans ?_) | (with_reducible refine drew_get2 ?_) | (with_reducible refine (hbC.block _ ?_).trans ?_) | (with_reducible refine (hbO.block _ ?_).trans ?_) | (simp [World.setCell]; done) | omega | (simp [World.setCell] <;> omega))) (by repeat' (first | with_reducible refine Sl.alloc_ ?_ _ | with_reducible refine Sl.drew ?_ | exact HO.out)) (sl_cd1 (t := 58) (x := ⟨2, 5, 6⟩) (by repeat' (first | with_reducible assumption | (with_reducible refine heap_alloc_at ?_; (first | rfl | omega | (simp [World.setCell]; done) | (simp [World.setCell]; omega))) | with_reducible refine set2 (a := .slice none 0 0) (b := .slice none 0 0) ?_ | (with_reducible refine (Below.heap_setCell _ _ _ _ ?_).trans ?_) | (with_reducible refine (Below.heap_alloc _ _ _ ?_).trans ?_) | (with_reducible refine drew_get2 ?_) | (with_reducible refine (hbC.block _ ?_).trans ?_) | (with_reducible refine (hbO.block _ ?_).trans ?_) | (simp [World.setCell]; done) | omega | (simp [World.setCell] <;> omega))) trivial) trivial) (HSL.out.keep (Below.agree (by (first | with_reducible assumption | (with_reducible refine Below.drew ?_; with_reducible assumption) | (with_reducible refine ba _ _ ?_; with_reducible assumption) | (with_reducible refine Below.drew ?_; with_reducible refine ba _ _ ?_; with_reducible assumption) | exact Below.refl _ _ | exact (Below.refl _ _).drew | exact (Below.refl _ _).alloc (Nat.le_refl _) _ | (refine bc _ _ (by assumption) (by assumption)))))) (HSG.out.keep (Below.agree (by (first | with_reducible assumption | (with_reducible refine Below.drew ?_; with_reducible assumption) | (with_reducible refine ba _ _ ?_; with_reducible assumption) | (with_reducible refine Below.drew ?_; with_reducible refine ba _ _ ?_; with_reducible assumption) | exact Below.refl _ _ | exact (Below.refl _ _).drew | exact (Below.refl _ _).alloc (Nat.le_refl _) _ | (refine bc _ _ (by assumption) (by assumption))))))).mono ?_; rintro e wC ⟨A, c, B, d, rfl, h1, h2, hbC⟩; have hkC := bc _ _ (by (first | with_reducible assumption | (with_reducible refine Below.drew ?_; with_reducible assumption) | (with_reducible refine ba _ _ ?_; with_reducible assumption) | (with_reducible refine Below.drew ?_; with_reducible refine ba _ _ ?_; with_reducible assumption) | exact Below.refl _ _ | exact (Below.refl _ _).drew | exact (Below.refl _ _).alloc (Nat.le_refl _) _ | (refine bc _ _ (by assumption) (by assumption)))) hbC; obtain ⟨hcC, hfC⟩ := bcell hbC; have hzC := hbC.size; (try simp at hzC); (try have hl0 : w9.heap.size < wC.heap.size := (by omega)); (try have hl3 : gO < wC.heap.size := (by omega)); (try have hl4 : gO + 1 < wC.heap.size := (by omega)); (try have hl5 : gO + 1 + 1 < wC.heap.size := (by omega)); (try have hn5 : gO + 1 + 1 + 1 < wC.heap.size := (by omega)); (try have hl1 : w9.heap.size + 1 < wC.heap.size := (by omega)); (try have hl2 : w9.heap.size + 1 + 1 < wC.heap.size := (by omega))
            refine hK.out _ _ ?_ (fun hHeld => ?_)
            · (first | (repeat' (first | with_reducible assumption | exact Nat.le_refl _ | with_reducible refine Below.setCell ?_ ?_ _ | with_reducible refine Below.drew ?_ | with_reducible refine ba _ _ ?_ | omega | (simp <;> omega))) | (first | with_reducible assumption | (with_reducible refine Below.drew ?_; with_reducible assumption) | (with_reducible refine ba _ _ ?_; with_reducible assumption) | (with_reducible refine Below.drew ?_; with_reducible refine ba _ _ ?_; with_reducible assumption) | exact Below.refl _ _ | exact (Below.refl _ _).drew | exact (Below.refl _ _).alloc (Nat.le_refl _) _ | (refine bc _ _ (by assumption) (by assumption))))
            clear hK K
            refine RegOk.put_ (m' := 127) (by kernel_rfl) ?_
            try simp only [Act.put, List.setIfInBounds_toArray, List.set_cons_zero, List.set_cons_succ]
            refine hR.come (rs := [7]) (by kernel_rfl) (by simp) ?_
            refine AllReadyH.cons (o := ?o695_7) ?h695_7 (fun K hK => ?kw695_7) AllReadyH.nil
            case h695_7 => simp only [List.getElem?_toArray, List.getElem?_cons_succ, List.getElem?_cons_zero]; rfl
            go_simp <;> (try go_wp2_with fail)
            refine hK.out _ _ ?_ (fun hHeld => ?_)
            · (first | (repeat' (first | with_reducible assumption | exact Nat.le_refl _ | with_reducible refine Below.setCell ?_ ?_ _ | with_reducible refine Below.drew ?_ | with_reducible refine ba _ _ ?_ | omega | (simp <;> omega))) | (first | with_reducible assumption | (with_reducible refine Below.drew ?_; with_reducible assumption) | (with_reducible refine ba _ _ ?_; with_reducible assumption) | (with_reducible refine Below.drew ?_; with_reducible refine ba _ _ ?_; with_reducible assumption) | exact Below.refl _ _ | exact (Below.refl _ _).drew | exact (Below.refl _ _).alloc (Nat.le_refl _) _ | (refine bc _ _ (by assumption) (by assumption))))
            clear hK K
            refine RegOk.put_ (m' := 255) (by kernel_rfl) ?_
            try simp only [Act.put, List.setIfInBounds_toArray, List.set_cons_zero, List.set_cons_succ]
            refine hR.come (rs := [8]) (by kernel_rfl) (by simp) ?_
            refine AllReadyH.cons (o := ?o696_8) ?h696_8 (fun K hK => ?kw696_8) AllReadyH.nil
            case h696_8 => simp only [List.getElem?_toArray, List.getElem?_cons_succ, List.getElem?_cons_zero]; rfl
            go_simp <;> (try go_wp2_with fail)
            refine hK.out _ _ ?_ (fun hHeld => ?_)
            · (first | (repeat' (first | with_reducible assumption | exact Nat.le_refl _ | with_reducible refine Below.setCell ?_ ?_ _ | with_reducible refine Below.drew ?_ | with_reducible refine ba _ _ ?_ | omega | (simp <;> omega))) | (first | with_reducible assumption | (with_reducible refine Below.drew ?_; with_reducible assumption) | (with_reducible refine ba _ _ ?_; with_reducible assumption) | (with_reducible refine Below.drew ?_; with_reducible refine ba _ _ ?_; with_reducible assumption) | exact Below.refl _ _ | exact (Below.refl _ _).drew | exact (Below.refl _ _).alloc (Nat.le_refl _) _ | (refine bc _ _ (by assumption) (by assumption))))
            clear hK K
            refine RegOk.put_ (m' := 511) (by kernel_rfl) ?_
            try simp only [Act.put, List.setIfInBounds_toArray, List.set_cons_zero, List.set_cons_succ]
            refine hR.all (by kernel_rfl) ?_ _
            refine NoPanic.normal ?_
            go_wp2_with fail
            go_meet
            case rel =>
              refine ⟨_, rfl, ⟨A, c, B, d, (by repeat' (first | with_reducible assumption | (with_reducible refine heap_alloc_at ?_; (first | rfl | omega | (simp [World.setCell]; done) | (simp [World.setCell]; omega))) | with_reducible refine set2 (a := .slice none 0 0) (b := .slice none 0 0) ?_ | (with_reducible refine (Below.heap_setCell _ _ _ _ ?_).trans ?_) | (with_reducible refine (Below.heap_alloc _ _ _ ?_).trans ?_) | (with_reducible refine drew_get2 ?_) | (with_reducible refine (hbC.block _ ?_).trans ?_) | (with_reducible refine (hbO.block _ ?_).trans ?_) | (simp [World.setCell]; done) | omega | (simp [World.setCell] <;> omega))), ?_, ?_⟩, by assumption⟩
              · (first | (with_reducible refine Sl.sub (Sl.alloc_ h1 _) ?_; exact (fun _ _ _ => trivial)) | (refine Sl.two_ h1 ?_; rintro ⟨a, b⟩; simp at a; omega))
              · (first | (with_reducible refine Sl.sub (Sl.alloc_ h2 _) ?_; exact (fun _ _ _ => trivial)) | (refine Sl.two_ h2 ?_; rintro ⟨a, b⟩; simp at a; omega))
          case kw694_7 =>
            go_simp <;> (try go_wp2_with fail)
            refine hK.out _ _ ?_ (fun hHeld => ?_)
            · (first | (repeat' (first | with_reducible assumption | exact Nat.le_refl _ | with_reducible refine Below.setCell ?_ ?_ _ | with_reducible refine Below.drew ?_ | with_reducible refine ba _ _ ?_ | omega | (simp <;> omega))) | (first | with_reducible assumption | (with_reducible refine Below.drew ?_; with_reducible assumption) | (with_reducible refine ba _ _ ?_; with_reducible assumption) | (with_reducible refine Below.drew ?_; with_reducible refine ba _ _ ?_; with_reducible assumption) | exact Below.refl _ _ | exact (Below.refl _ _).drew | exact (Below.refl _ _).alloc (Nat.le_refl _) _ | (refine bc _ _ (by assumption) (by assumption))))
            clear hK K
            refine RegOk.put_ (m' := 191) (by kernel_rfl) ?_
            try simp only [Act.put, List.setIfInBounds_toArray, List.set_cons_zero, List.set_cons_succ]
            refine hR.come (rs := [6]) (by kernel_rfl) (by simp) ?_
            refine AllReadyH.cons (o := ?o697_6) ?h697_6 (fun K hK => ?kw697_6) AllReadyH.nil
            case h697_6 => simp only [List.getElem?_toArray, List.getElem?_cons_succ, List.getElem?_cons_zero]; rfl
            go_simp
            go_at_call 15; refine (answerN (q := q7) (s := s15) (n := 32) (m := 1) q7_xs q7_ys rfl rfl rfl rfl rfl _ (qv_ok q7_ok).1 (qv_ok q7_ok).2 ok15 (by decide) (sl_fs2N (S := fun _ => True) (n := 1) (m := 1) (t := 49) (l := [⟨2, 5, 5⟩]) (k := [⟨2, 5, 6⟩]) rfl rfl (by repeat' (first | with_reducible assumption | (with_reducible refine heap_alloc_at ?_; (first | rfl | omega | (simp [World.setCell]; done) | (simp [World.setCell]; omega))) | with_reducible refine set2 (a := .slice none 0 0) (b := .slice none 0 0) ?_ | (with_reducible refine (Below.heap_setCell _ _ _ _ ?_).trans ?_) | (with_reducible refine (Below.heap_alloc _ _ _ ?_).trans ?_) | (with_reducible refine drew_get2 ?_) | (with_reducible refine (hbC.block _ ?_).trans ?_) | (with_reducible refine (hbO.block _ ?_).trans ?_) | (simp [World.setCell]; done) | omega | (simp [World.setCell] <;> omega))) (by repeat' (first | with_reducible refine Sl.alloc_ ?_ _ | with_reducible refine Sl.drew ?_ | exact HO.out)) (sl_cd1 (t := 58) (x := ⟨2, 5, 6⟩) (by repeat' (first | with_reducible assumption | (with_reducible refine heap_alloc_at ?_; (first | rfl | omega | (simp [World.setCell]; done) | (simp [World.setCell]; omega))) | with_reducible refine set2 (a := .slice none 0 0) (b := .slice none 0 0) ?_ | (with_reducible refine (Below.heap_setCell _ _ _ _ ?_).trans ?_) | (with_reducible refine (Below.heap_alloc _ _ _ ?_).trans ?_) | (with_reducible refine drew_get2 ?_) | (with_reducible refine (hbC.block _ ?_).trans ?_) | (with_reducible refine (hbO.block _ ?_).trans ?_) | (simp [World.setCell]; done) | omega | (simp [World.setCell] <;> omega))) trivial) trivial) (HSL.out.keep (Below.agree (by (first | with_reducible assumption | (with_reducible refine Below.drew ?_; with_reducible assumption) | (with_reducible refine ba _ _ ?_; with_reducible assumption) | (with_reducible refine Below.drew ?_; with_reducible refine ba _ _ ?_; with_reducible assumption) | exact Below.refl _ _ | exact (Below.refl _ _).drew | exact (Below.refl _ _).alloc (Nat.le_refl _) _ | (refine bc _ _ (by assumption) (by assumption)))))) (HSG.out.keep (Below.agree (by (first | with_reducible assumption | (with_reducible refine Below.drew ?_; with_reducible assumption) | (with_reducible refine ba _ _ ?_; with_reducible assumption) | (with_reducible refine Below.drew ?_; with_reducible refine ba _ _ ?_; with_reducible assumption) | exact Below.refl _ _ | exact (Below.refl _ _).drew | exact (Below.refl _ _).alloc (Nat.le_refl _) _ | (refine bc _ _ (by assumption) (by assumption))))))).mono ?_; rintro e wC ⟨A, c, B, d, rfl, h1, h2, hbC⟩; have hkC := bc _ _ (by (first | with_reducible assumption | (with_reducible refine Below.drew ?_; with_reducible assumption) | (with_reducible refine ba _ _ ?_; with_reducible assumption) | (with_reducible refine Below.drew ?_; with_reducible refine ba _ _ ?_; with_reducible assumption) | exact Below.refl _ _ | exact (Below.refl _ _).drew | exact (Below.refl _ _).alloc (Nat.le_refl _) _ | (refine bc _ _ (by assumption) (by assumption)))) hbC; obtain ⟨hcC, hfC⟩ := bcell hbC; have hzC := hbC.size; (try simp at hzC); (try have hl0 : w9.heap.size < wC.heap.size := (by omega)); (try have hl3 : gO < wC.heap.size := (by omega)); (try have hl4 : gO + 1 < wC.heap.size := (by omega)); (try have hl5 : gO + 1 + 1 < wC.heap.size := (by omega)); (try have hn5 : gO + 1 + 1 + 1 < wC.heap.size := (by omega)); (try have hl1 : w9.heap.size + 1 < wC.heap.size := (by omega)); (try have hl2 : w9.heap.size + 1 + 1 < wC.heap.size := (by omega))
            refine hK.out _ _ ?_ (fun hHeld => ?_)
            · (first | (repeat' (first | with_reducible assumption | exact Nat.le_refl _ | with_reducible refine Below.setCell ?_ ?_ _ | with_reducible refine Below.drew ?_ | with_reducible refine ba _ _ ?_ | omega | (simp <;> omega))) | (first | with_reducible assumption | (with_reducible refine Below.drew ?_; with_reducible assumption) | (with_reducible refine ba _ _ ?_; with_reducible assumption) | (with_reducible refine Below.drew ?_; with_reducible refine ba _ _ ?_; with_reducible assumption) | exact Below.refl _ _ | exact (Below.refl _ _).drew | exact (Below.refl _ _).alloc (Nat.le_refl _) _ | (refine bc _ _ (by assumption) (by assumption))))
            clear hK K
            refine RegOk.put_ (m' := 255) (by kernel_rfl) ?_
            try simp only [Act.put, List.setIfInBounds_toArray, List.set_cons_zero, List.set_cons_succ]
            refine hR.come (rs := [8]) (by kernel_rfl) (by simp) ?_
            refine AllReadyH.cons (o := ?o698_8) ?h698_8 (fun K hK => ?kw698_8) AllReadyH.nil
            case h698_8 => simp only [List.getElem?_toArray, List.getElem?_cons_succ, List.getElem?_cons_zero]; rfl
            go_simp <;> (try go_wp2_with fail)
            refine hK.out _ _ ?_ (fun hHeld => ?_)
            · (first | (repeat' (first | with_reducible assumption | exact Nat.le_refl _ | with_reducible refine Below.setCell ?_ ?_ _ | with_reducible refine Below.drew ?_ | with_reducible refine ba _ _ ?_ | omega | (simp <;> omega))) | (first | with_reducible assumption | (with_reducible refine Below.drew ?_; with_reducible assumption) | (with_reducible refine ba _ _ ?_; with_reducible assumption) | (with_reducible refine Below.drew ?_; with_reducible refine ba _ _ ?_; with_reducible assumption) | exact Below.refl _ _ | exact (Below.refl _ _).drew | exact (Below.refl _ _).alloc (Nat.le_refl _) _ | (refine bc _ _ (by assumption) (by assumption))))
            clear hK K
            refine RegOk.put_ (m' := 511) (by kernel_rfl) ?_
            try simp only [Act.put, List.setIfInBounds_toArray, List.set_cons_zero, List.set_cons_succ]
            refine hR.all (by kernel_rfl) ?_ _
            refine NoPanic.normal ?_
            go_wp2_with fail
            go_meet
            case rel =>
              refine ⟨_, rfl, ⟨A, c, B, d, (by repeat' (first | with_reducible assumption | (with_reducible refine heap_alloc_at ?_; (first | rfl | omega | (simp [World.setCell]; done) | (simp [World.setCell]; omega))) | with_reducible refine set2 (a := .slice none 0 0) (b := .slice none 0 0) ?_ | (with_reducible refine (Below.heap_setCell _ _ _ _ ?_).trans ?_) | (with_reducible refine (Below.heap_alloc _ _ _ ?_).trans ?_) | (with_reducible refine drew_get2 ?_) | (with_reducible refine (hbC.block _ ?_).trans ?_) | (with_reducible refine (hbO.block _ ?_).trans ?_) | (simp [World.setCell]; done) | omega | (simp [World.setCell] <;> omega))), ?_, ?_⟩, by assumption⟩
              · (first | (with_reducible refine Sl.sub (Sl.alloc_ h1 _) ?_; exact (fun _ _ _ => trivial)) | (refine Sl.two_ h1 ?_; rintro ⟨a, b⟩; simp at a; omega))
              · (first | (with_reducible refine Sl.sub (Sl.alloc_ h2 _) ?_; exact (fun _ _ _ => trivial)) | (refine Sl.two_ h2 ?_; rintro ⟨a, b⟩; simp at a; omega))
        case kw692_7 =>
          go_simp <;> (try go_wp2_with fail)
          refine hK.out _ _ ?_ (fun hHeld => ?_)
          · (first | (repeat' (first | with_reducible assumption | exact Nat.le_refl _ | with_reducible refine Below.setCell ?_ ?_ _ | with_reducible refine Below.drew ?_ | with_reducible refine ba _ _ ?_ | omega | (simp <;> omega))) | (first | with_reducible assumption | (with_reducible refine Below.drew ?_; with_reducible assumption) | (with_reducible refine ba _ _ ?_; with_reducible assumption) | (with_reducible refine Below.drew ?_; with_reducible refine ba _ _ ?_; with_reducible assumption) | exact Below.refl _ _ | exact (Below.refl _ _).drew | exact (Below.refl _ _).alloc (Nat.le_refl _) _ | (refine bc _ _ (by assumption) (by assumption))))
          clear hK K
          refine RegOk.put_ (m' := 167) (by kernel_rfl) ?_
          try simp only [Act.put, List.setIfInBounds_toArray, List.set_cons_zero, List.set_cons_succ]
          refine hR.come (rs := [3]) (by kernel_rfl) (by simp) ?_
          refine AllReadyH.cons (o := ?o699_3) ?h699_3 (fun K hK => ?kw699_3) AllReadyH.nil
          case h699_3 => simp only [List.getElem?_toArray, List.getElem?_cons_succ, List.getElem?_cons_zero]; rfl
          go_simp <;> (try go_wp2_with fail)
          refine hK.out _ _ ?_ (fun hHeld => ?_)
          · (first | (repeat' (first | with_reducible assumption | exact Nat.le_refl _ | with_reducible refine Below.setCell ?_ ?_ _ | with_reducible refine Below.drew ?_ | with_reducible refine ba _ _ ?_ | omega | (simp <;> omega))) | (first | with_reducible assumption | (with_reducible refine Below.drew ?_; with_reducible assumption) | (with_reducible refine ba _ _ ?_; with_reducible assumption) | (with_reducible refine Below.drew ?_; with_reducible refine ba _ _ ?_; with_reducible assumption) | exact Below.refl _ _ | exact (Below.refl _ _).drew | exact (Below.refl _ _).alloc (Nat.le_refl _) _ | (refine bc _ _ (by assumption) (by assumption))))
          clear hK K
          refine RegOk.put_ (m' := 175) (by kernel_rfl) ?_
          try simp only [Act.put, List.setIfInBounds_toArray, List.set_cons_zero, List.set_cons_succ]
          refine hR.take (i := 4) (oi := ?ow700_4) (v := ?vw700_4) (m' := 191) ?hw700_4 (by kernel_rfl) (by kernel_rfl) (fun _ _ _ h => h) (Or.inl ⟨?sw700_4, ?yw700_4⟩) (by assumption) ?nw700_4
          case hw700_4 => simp only [List.getElem?_toArray, List.getElem?_cons_succ, List.getElem?_cons_zero]; rfl
          case sw700_4 => rfl
          case yw700_4 => (intro w hSw; (try dsimp only at hSw); go_simp <;> with_reducible rfl)
          try simp only [Act.put, List.setIfInBounds_toArray, List.set_cons_zero, List.set_cons_succ]
          refine hR.come (rs := [6]) (by kernel_rfl) (by simp) ?_
          refine AllReadyH.cons (o := ?o701_6) ?h701_6 (fun K hK => ?kw701_6) AllReadyH.nil
          case h701_6 => simp only [List.getElem?_toArray, List.getElem?_cons_succ, List.getElem?_cons_zero]; rfl
          go_simp
          go_at_call 15; refine (answerN (q := q7) (s := s15) (n := 32) (m := 1) q7_xs q7_ys rfl rfl rfl rfl rfl _ (qv_ok q7_ok).1 (qv_ok q7_ok).2 ok15 (by decide) (sl_fs2N (S := fun _ => True) (n := 1) (m := 1) (t := 49) (l := [⟨2, 5, 5⟩]) (k := [⟨2, 5, 6⟩]) rfl rfl (by repeat' (first | with_reducible assumption | (with_reducible refine heap_alloc_at ?_; (first | rfl | omega | (simp [World.setCell]; done) | (simp [World.setCell]; omega))) | with_reducible refine set2 (a := .slice none 0 0) (b := .slice none 0 0) ?_ | (with_reducible refine (Below.heap_setCell _ _ _ _ ?_).trans ?_) | (with_reducible refine (Below.heap_alloc _ _ _ ?_).trans ?_) | (with_reducible refine drew_get2 ?_) | (with_reducible refine (hbC.block _ ?_).trans ?_) | (with_reducible refine (hbO.block _ ?_).trans ?_) | (simp [World.setCell]; done) | omega | (simp [World.setCell] <;> omega))) (by repeat' (first | with_reducible refine Sl.alloc_ ?_ _ | with_reducible refine Sl.drew ?_ | exact HO.out)) (sl_cd1 (t := 58) (x := ⟨2, 5, 6⟩) (by repeat' (first | with_reducible assumption | (with_reducible refine heap_alloc_at ?_; (first | rfl | omega | (simp [World.setCell]; done) | (simp [World.setCell]; omega))) | with_reducible refine set2 (a := .slice none 0 0) (b := .slice none 0 0) ?_ | (with_reducible refine (Below.heap_setCell _ _ _ _ ?_).trans ?_) | (with_reducible refine (Below.heap_alloc _ _ _ ?_).trans ?_) | (with_reducible refine drew_get2 ?_) | (with_reducible refine (hbC.block _ ?_).trans ?_) | (with_reducible refine (hbO.block _ ?_).trans ?_) | (simp [World.setCell]; done) | omega | (simp [World.setCell] <;> omega))) trivial) trivial) (HSL.out.keep (Below.agree (by (first | with_reducible assumption | (with_reducible refine Below.drew ?_; with_reducible assumption) | (with_reducible refine ba _ _ ?_; with_reducible assumption) | (with_reducible refine Below.drew ?_; with_reducible refine ba _ _ ?_; with_reducible assumption) | exact Below.refl _ _ | exact (Below.refl _ _).drew | exact (Below.refl _ _).alloc (Nat.le_refl _) _ | (refine bc _ _ (by assumption) (by assumption)))))) (HSG.out.keep (Below.agree (by (first | with_reducible assumption | (with_reducible refine Below.drew ?_; with_reducible assumption) | (with_reducible refine ba _ _ ?_; with_reducible assumption) | (with_reducible refine Below.drew ?_; with_reducible refine ba _ _ ?_; with_reducible assumption) | exact Below.refl _ _ | exact (Below.refl _ _).drew | exact (Below.refl _ _).alloc (Nat.le_refl _) _ | (refine bc _ _ (by assumption) (by assumption))))))).mono ?_; rintro e wC ⟨A, c, B, d, rfl, h1, h2, hbC⟩; have hkC := bc _ _ (by (first | with_reducible assumption | (with_reducible refine Below.drew ?_; with_reducible assumption) | (with_reducible refine ba _ _ ?_; with_reducible assumption) | (with_reducible refine Below.drew ?_; with_reducible refine ba _ _ ?_; with_reducible assumption) | exact Below.refl _ _ | exact (Below.refl _ _).drew | exact (Below.refl _ _).alloc (Nat.le_refl _) _ | (refine bc _ _ (by assumption) (by assumption)))) hbC; obtain ⟨hcC, hfC⟩ := bcell hbC; have hzC := hbC.size; (try simp at hzC); (try have hl0 : w9.heap.size < wC.heap.size := (by omega)); (try have hl3 : gO < wC.heap.size := (by omega)); (try have hl4 : gO + 1 < wC.heap.size := (by omega)); (try have hl5 : gO + 1 + 1 < wC.heap.size := (by omega)); (try have hn5 : gO + 1 + 1 + 1 < wC.heap.size := (by omega)); (try have hl1 : w9.heap.size + 1 < wC.heap.size := (by omega)); (try have hl2 : w9.heap.size + 1 + 1 < wC.heap.size := (by omega))
          refine hK.out _ _ ?_ (fun hHeld => ?_)
          · (first | (repeat' (first | with_reducible assumption | exact Nat.le_refl _ | with_reducible refine Below.setCell ?_ ?_ _ | with_reducible refine Below.drew ?_ | with_reducible refine ba _ _ ?_ | omega | (simp <;> omega))) | (first | with_reducible assumption | (with_reducible refine Below.drew ?_; with_reducible assumption) | (with_reducible refine ba _ _ ?_; with_reducible assumption) | (with_reducible refine Below.drew ?_; with_reducible refine ba _ _ ?_; with_reducible assumption) | exact Below.refl _ _ | exact (Below.refl _ _).drew | exact (Below.refl _ _).alloc (Nat.le_refl _) _ | (refine bc _ _ (by assumption) (by assumption))))
          clear hK K
          refine RegOk.put_ (m' := 255) (by kernel_rfl) ?_
          try simp only [Act.put, List.setIfInBounds_toArray, List.set_cons_zero, List.set_cons_succ]
          refine hR.come (rs := [8]) (by kernel_rfl) (by simp) ?_
          refine AllReadyH.cons (o := ?o702_8) ?h702_8 (fun K hK => ?kw702_8) AllReadyH.nil
          case h702_8 => simp only [List.getElem?_toArray, List.getElem?_cons_succ, List.getElem?_cons_zero]; rfl
          go_simp <;> (try go_wp2_with fail)
          refine hK.out _ _ ?_ (fun hHeld => ?_)
          · (first | (repeat' (first | with_reducible assumption | exact Nat.le_refl _ | with_reducible refine Below.setCell ?_ ?_ _ | with_reducible refine Below.drew ?_ | with_reducible refine ba _ _ ?_ | omega | (simp <;> omega))) | (first | with_reducible assumption | (with_reducible refine Below.drew ?_; with_reducible assumption) | (with_reducible refine ba _ _ ?_; with_reducible assumption) | (with_reducible refine Below.drew ?_; with_reducible refine ba _ _ ?_; with_reducible assumption) | exact Below.refl _ _ | exact (Below.refl _ _).drew | exact (Below.refl _ _).alloc (Nat.le_refl _) _ | (refine bc _ _ (by assumption) (by assumption))))
          clear hK K
          refine RegOk.put_ (m' := 511) (by kernel_rfl) ?_
          try simp only [Act.put, List.setIfInBounds_toArray, List.set_cons_zero, List.set_cons_succ]
          refine hR.all (by kernel_rfl) ?_ _
          refine NoPanic.normal ?_
          go_wp2_with fail
          go_meet
          case rel =>
            refine ⟨_, rfl, ⟨A, c, B, d, (by repeat' (first | with_reducible assumption | (with_reducible refine heap_alloc_at ?_; (first | rfl | omega | (simp [World.setCell]; done) | (simp [World.setCell]; omega))) | with_reducible refine set2 (a := .slice none 0 0) (b := .slice none 0 0) ?_ | (with_reducible refine (Below.heap_setCell _ _ _ _ ?_).trans ?_) | (with_reducible refine (Below.heap_alloc _ _ _ ?_).trans ?_) | (with_reducible refine drew_get2 ?_) | (with_reducible refine (hbC.block _ ?_).trans ?_) | (with_reducible refine (hbO.block _ ?_).trans ?_) | (simp [World.setCell]; done) | omega | (simp [World.setCell] <;> omega))), ?_, ?_⟩, by assumption⟩
            · (first | (with_reducible refine Sl.sub (Sl.alloc_ h1 _) ?_; exact (fun _ _ _ => trivial)) | (refine Sl.two_ h1 ?_; rintro ⟨a, b⟩; simp at a; omega))
            · (first | (with_reducible refine Sl.sub (Sl.alloc_ h2 _) ?_; exact (fun _ _ _ => trivial)) | (refine Sl.two_ h2 ?_; rintro ⟨a, b⟩; simp at a; omega))
      case kw691_7 =>
        go_simp <;> (try go_wp2_with fail)
        refine hK.out _ _ ?_ (fun hHeld => ?_)
        · (first | (repeat' (first | with_reducible assumption | exact Nat.le_refl _ | with_reducible refine Below.setCell ?_ ?_ _ | with_reducible refine Below.drew ?_ | with_reducible refine ba _ _ ?_ | omega | (simp <;> omega))) | (first | with_reducible assumption | (with_reducible refine Below.drew ?_; with_reducible assumption) | (with_reducible refine ba _ _ ?_; with_reducible assumption) | (with_reducible refine Below.drew ?_; with_reducible refine ba _ _ ?_; with_reducible assumption) | exact Below.refl _ _ | exact (Below.refl _ _).drew | exact (Below.refl _ _).alloc (Nat.le_refl _) _ | (refine bc _ _ (by assumption) (by assumption))))
        clear hK K
        refine RegOk.put_ (m' := 163) (by kernel_rfl) ?_
        try simp only [Act.put, List.setIfInBounds_toArray, List.set_cons_zero, List.set_cons_succ]
        refine hR.come (rs := [2]) (by kernel_rfl) (by simp) ?_
        refine AllReadyH.cons (o := ?o703_2) ?h703_2 (fun K hK => ?kw703_2) AllReadyH.nil
        case h703_2 => simp only [List.getElem?_toArray, List.getElem?_cons_succ, List.getElem?_cons_zero]; rfl
        go_simp <;> (try go_wp2_with fail)
        refine hK.out _ _ ?_ (fun hHeld => ?_)
        · (first | (repeat' (first | with_reducible assumption | exact Nat.le_refl _ | with_reducible refine Below.setCell ?_ ?_ _ | with_reducible refine Below.drew ?_ | with_reducible refine ba _ _ ?_ | omega | (simp <;> omega))) | (first | with_reducible assumption | (with_reducible refine Below.drew ?_; with_reducible assumption) | (with_reducible refine ba _ _ ?_; with_reducible assumption) | (with_reducible refine Below.drew ?_; with_reducible refine ba _ _ ?_; with_reducible assumption) | exact Below.refl _ _ | exact (Below.refl _ _).drew | exact (Below.refl _ _).alloc (Nat.le_refl _) _ | (refine bc _ _ (by assumption) (by assumption))))
        clear hK K
        refine RegOk.put_ (m' := 167) (by kernel_rfl) ?_
        try simp only [Act.put, List.setIfInBounds_toArray, List.set_cons_zero, List.set_cons_succ]
        refine hR.come (rs := [3]) (by kernel_rfl) (by simp) ?_
        refine AllReadyH.cons (o := ?o704_3) ?h704_3 (fun K hK => ?kw704_3) AllReadyH.nil
        case h704_3 => simp only [List.getElem?_toArray, List.getElem?_cons_succ, List.getElem?_cons_zero]; rfl
        go_simp <;> (try go_wp2_with fail)
        refine hK.out _ _ ?_ (fun hHeld => ?_)
        · (first | (repeat' (first | with_reducible assumption | exact Nat.le_refl _ | with_reducible refine Below.setCell ?_ ?_ _ | with_reducible refine Below.drew ?_ | with_reducible refine ba _ _ ?_ | omega | (simp <;> omega))) | (first | with_reducible assumption | (with_reducible refine Below.drew ?_; with_reducible assumption) | (with_reducible refine ba _ _ ?_; with_reducible assumption) | (with_reducible refine Below.drew ?_; with_reducible refine ba _ _ ?_; with_reducible assumption) | exact Below.refl _ _ | exact (Below.refl _ _).drew | exact (Below.refl _ _).alloc (Nat.le_refl _) _ | (refine bc _ _ (by assumption) (by assumption))))
        clear hK K
        refine RegOk.put_ (m' := 175) (by kernel_rfl) ?_
        try simp only [Act.put, List.setIfInBounds_toArray, List.set_cons_zero, List.set_cons_succ]
        refine hR.take (i := 4) (oi := ?ow705_4) (v := ?vw705_4) (m' := 191) ?hw705_4 (by kernel_rfl) (by kernel_rfl) (fun _ _ _ h => h) (Or.inl ⟨?sw705_4, ?yw705_4⟩) (by assumption) ?nw705_4
        case hw705_4 => simp only [List.getElem?_toArray, List.getElem?_cons_succ, List.getElem?_cons_zero]; rfl
        case sw705_4 => rfl
        case yw705_4 => (intro w hSw; (try dsimp only at hSw); go_simp <;> with_reducible rfl)
        try simp only [Act.put, List.setIfInBounds_toArray, List.set_cons_zero, List.set_cons_succ]
        refine hR.come (rs := [6]) (by kernel_rfl) (by simp) ?_
        refine AllReadyH.cons (o := ?o706_6) ?h706_6 (fun K hK => ?kw706_6) AllReadyH.nil
        case h706_6 => simp only [List.getElem?_toArray, List.getElem?_cons_succ, List.getElem?_cons_zero]; rfl
        go_simp
        go_at_call 15; refine (answerN (q := q7) (s := s15) (n := 32) (m := 1) q7_xs q7_ys rfl rfl rfl rfl rfl _ (qv_ok q7_ok).1 (qv_ok q7_ok).2 ok15 (by decide) (sl_fs2N (S := fun _ => True) (n := 1) (m := 1) (t := 49) (l := [⟨2, 5, 5⟩]) (k := [⟨2, 5, 6⟩]) rfl rfl (by repeat' (first | with_reducible assumption | (with_reducible refine heap_alloc_at ?_; (first | rfl | omega | (simp [World.setCell]; done) | (simp [World.setCell]; omega))) | with_reducible refine set2 (a := .slice none 0 0) (b := .slice none 0 0) ?_ | (with_reducible refine (Below.heap_setCell _ _ _ _ ?_).trans ?_) | (with_reducible refine (Below.heap_alloc _ _ _ ?_).trans ?_) | (with_reducible refine drew_get2 ?_) | (with_reducible refine (hbC.block _ ?_).trans ?_) | (with_reducible refine (hbO.block _ ?_).trans ?_) | (simp [World.setCell]; done) | omega | (simp [World.setCell] <;> omega))) (by repeat' (first | with_reducible refine Sl.alloc_ ?_ _ | with_reducible refine Sl.drew ?_ | exact HO.out)) (sl_cd1 (t := 58) (x := ⟨2, 5, 6⟩) (by repeat' (first | with_reducible assumption | (with_reducible refine heap_alloc_at ?_; (first | rfl | omega | (simp [World.setCell]; done) | (simp [World.setCell]; omega))) | with_reducible refine set2 (a := .slice none 0 0) (b := .slice none 0 0) ?_ | (with_reducible refine (Below.heap_setCell _ _ _ _ ?_).trans ?_) | (with_reducible refine (Below.heap_alloc _ _ _ ?_).trans ?_) | (with_reducible refine drew_get2 ?_) | (with_reducible refine (hbC.block _ ?_).trans ?_) | (with_reducible refine (hbO.block _ ?_).trans ?_) | (simp [World.setCell]; done) | omega | (simp [World.setCell] <;> omega))) trivial) trivial) (HSL.out.keep (Below.agree (by (first | with_reducible assumption | (with_reducible refine Below.drew ?_; with_reducible assumption) | (with_reducible refine ba _ _ ?_; with_reducible assumption) | (with_reducible refine Below.drew ?_; with_reducible refine ba _ _ ?_; with_reducible assumption) | exact Below.refl _ _ | exact (Below.refl _ _).drew | exact (Below.refl _ _).alloc (Nat.le_refl _) _ | (refine bc _ _ (by assumption) (by assumption)))))) (HSG.out.keep (Below.agree (by (first | with_reducible assumption | (with_reducible refine Below.drew ?_; with_reducible assumption) | (with_reducible refine ba _ _ ?_; with_reducible assumption) | (with_reducible refine Below.drew ?_; with_reducible refine ba _ _ ?_; with_reducible assumption) | exact Below.refl _ _ | exact (Below.refl _ _).drew | exact (Below.refl _ _).alloc (Nat.le_refl _) _ | (refine bc _ _ (by assumption) (by assumption))))))).mono ?_; rintro e wC ⟨A, c, B, d, rfl, h1, h2, hbC⟩; have hkC := bc _ _ (by (first | with_reducible assumption | (with_reducible refine Below.drew ?_; with_reducible assumption) | (with_reducible refine ba _ _ ?_; with_reducible assumption) | (with_reducible refine Below.drew ?_; with_reducible refine ba _ _ ?_; with_reducible assumption) | exact Below.refl _ _ | exact (Below.refl _ _).drew | exact (Below.refl _ _).alloc (Nat.le_refl _) _ | (refine bc _ _ (by assumption) (by assumption)))) hbC; obtain ⟨hcC, hfC⟩ := bcell hbC; have hzC := hbC.size; (try simp at hzC); (try have hl0 : w9.heap.size < wC.heap.size := (by omega)); (try have hl3 : gO < wC.heap.size := (by omega)); (try have hl4 : gO + 1 < wC.heap.size := (by omega)); (try have hl5 : gO + 1 + 1 < wC.heap.size := (by omega)); (try have hn5 : gO + 1 + 1 + 1 < wC.heap.size := (by omega)); (try have hl1 : w9.heap.size + 1 < wC.heap.size := (by omega)); (try have hl2 : w9.heap.size + 1 + 1 < wC.heap.size := (by omega))
        refine hK.out _ _ ?_ (fun hHeld => ?_)
        · (first | (repeat' (first | with_reducible assumption | exact Nat.le_refl _ | with_reducible refine Below.setCell ?_ ?_ _ | with_reducible refine Below.drew ?_ | with_reducible refine ba _ _ ?_ | omega | (simp <;> omega))) | (first | with_reducible assumption | (with_reducible refine Below.drew ?_; with_reducible assumption) | (with_reducible refine ba _ _ ?_; with_reducible assumption) | (with_reducible refine Below.drew ?_; with_reducible refine ba _ _ ?_; with_reducible assumption) | exact Below.refl _ _ | exact (Below.refl _ _).drew | exact (Below.refl _ _).alloc (Nat.le_refl _) _ | (refine bc _ _ (by assumption) (by assumption))))
        clear hK K
        refine RegOk.put_ (m' := 255) (by kernel_rfl) ?_
        try simp only [Act.put, List.setIfInBounds_toArray, List.set_cons_zero, List.set_cons_succ]
        refine hR.come (rs := [8]) (by kernel_rfl) (by simp) ?_
        refine AllReadyH.cons (o := ?o707_8) ?h707_8 (fun K hK => ?kw707_8) AllReadyH.nil
        case h707_8 => simp only [List.getElem?_toArray, List.getElem?_cons_succ, List.getElem?_cons_zero]; rfl
        go_simp <;> (try go_wp2_with fail)
        refine hK.out _ _ ?_ (fun hHeld => ?_)
        · (first | (repeat' (first | with_reducible assumption | exact Nat.le_refl _ | with_reducible refine Below.setCell ?_ ?_ _ | with_reducible refine Below.drew ?_ | with_reducible refine ba _ _ ?_ | omega | (simp <;> omega))) | (first | with_reducible assumption | (with_reducible refine Below.drew ?_; with_reducible assumption) | (with_reducible refine ba _ _ ?_; with_reducible assumption) | (with_reducible refine Below.drew ?_; with_reducible refine ba _ _ ?_; with_reducible assumption) | exact Below.refl _ _ | exact (Below.refl _ _).drew | exact (Below.refl _ _).alloc (Nat.le_refl _) _ | (refine bc _ _ (by assumption) (by assumption))))
        clear hK K
        refine RegOk.put_ (m' := 511) (by kernel_rfl) ?_
        try simp only [Act.put, List.setIfInBounds_toArray, List.set_cons_zero, List.set_cons_succ]
        refine hR.all (by kernel_rfl) ?_ _
        refine NoPanic.normal ?_
        go_wp2_with fail
        go_meet
        case rel =>
          refine ⟨_, rfl, ⟨A, c, B, d, (by repeat' (first | with_reducible assumption | (with_reducible refine heap_alloc_at ?_; (first | rfl | omega | (simp [World.setCell]; done) | (simp [World.setCell]; omega))) | with_reducible refine set2 (a := .slice none 0 0) (b := .slice none 0 0) ?_ | (with_reducible refine (Below.heap_setCell _ _ _ _ ?_).trans ?_) | (with_reducible refine (Below.heap_alloc _ _ _ ?_).trans ?_) | (with_reducible refine drew_get2 ?_) | (with_reducible refine (hbC.block _ ?_).trans ?_) | (with_reducible refine (hbO.block _ ?_).trans ?_) | (simp [World.setCell]; done) | omega | (simp [World.setCell] <;> omega))), ?_, ?_⟩, by assumption⟩
          · (first | (with_reducible refine Sl.sub (Sl.alloc_ h1 _) ?_; exact (fun _ _ _ => trivial)) | (refine Sl.two_ h1 ?_; rintro ⟨a, b⟩; simp at a; omega))
          · (first | (with_reducible refine Sl.sub (Sl.alloc_ h2 _) ?_; exact (fun _ _ _ => trivial)) | (refine Sl.two_ h2 ?_; rintro ⟨a, b⟩; simp at a; omega))
    case kw690_2 =>
      go_simp <;> (try go_wp2_with fail)
      refine hK.out _ _ ?_ (fun hHeld => ?_)
      · (first | (repeat' (first | with_reducible assumption | exact Nat.le_refl _ | with_reducible refine Below.setCell ?_ ?_ _ | with_reducible refine Below.drew ?_ | with_reducible refine ba _ _ ?_ | omega | (simp <;> omega))) | (first | with_reducible assumption | (with_reducible refine Below.drew ?_; with_reducible assumption) | (with_reducible refine ba _ _ ?_; with_reducible assumption) | (with_reducible refine Below.drew ?_; with_reducible refine ba _ _ ?_; with_reducible assumption) | exact Below.refl _ _ | exact (Below.refl _ _).drew | exact (Below.refl _ _).alloc (Nat.le_refl _) _ | (refine bc _ _ (by assumption) (by assumption))))
      clear hK K
      refine RegOk.put_ (m' := 38) (by kernel_rfl) ?_
      try simp only [Act.put, List.setIfInBounds_toArray, List.set_cons_zero, List.set_cons_succ]
      refine hR.come (rs := [0, 7]) (by kernel_rfl) (by simp) ?_
      refine AllReadyH.cons (o := ?o708_0) ?h708_0 (fun K hK => ?kw708_0) (AllReadyH.cons (o := ?o708_7) ?h708_7 (fun K hK => ?kw708_7) AllReadyH.nil)
      case h708_0 => simp only [List.getElem?_toArray, List.getElem?_cons_succ, List.getElem?_cons_zero]; rfl
      case h708_7 => simp only [List.getElem?_toArray, List.getElem?_cons_succ, List.getElem?_cons_zero]; rfl
      case kw708_0 =>
        go_simp
        go_at_call 29; refine (onlyL15 _ _ _).mono ?_; rintro e wO ⟨gO, rfl, hO, hzO, hbO⟩; have hkO := bc _ _ (by (first | with_reducible assumption | (with_reducible refine Below.drew ?_; with_reducible assumption) | (with_reducible refine ba _ _ ?_; with_reducible assumption) | (with_reducible refine Below.drew ?_; with_reducible refine ba _ _ ?_; with_reducible assumption) | exact Below.refl _ _ | exact (Below.refl _ _).drew | exact (Below.refl _ _).alloc (Nat.le_refl _) _ | (refine bc _ _ (by assumption) (by assumption)))) hbO; obtain ⟨hcO, hfO⟩ := bcell hbO; have hzP := hbO.size; (try simp at hzP); (try have hl6 : w9.heap.size < wO.heap.size := (by omega)); (try have hl7 : w9.heap.size < gO + 1 := (by omega)); (try have hl8 : w9.heap.size < gO + 1 + 1 := (by omega)); (try have hl9 : w9.heap.size < gO + 1 + 1 + 1 := (by omega)); (try have hm6 : w9.heap.size + 1 < wO.heap.size := (by omega)); (try have hm7 : w9.heap.size + 1 < gO + 1 := (by omega)); (try have hm8 : w9.heap.size + 1 < gO + 1 + 1 := (by omega)); (try have hm9 : w9.heap.size + 1 < gO + 1 + 1 + 1 := (by omega)); have HO := Lib.hid hO; clear hO
        refine hK.out _ _ ?_ (fun hHeld => ?_)
        · (first | (repeat' (first | with_reducible assumption | exact Nat.le_refl _ | with_reducible refine Below.setCell ?_ ?_ _ | with_reducible refine Below.drew ?_ | with_reducible refine ba _ _ ?_ | omega | (simp <;> omega))) | (first | with_reducible assumption | (with_reducible refine Below.drew ?_; with_reducible assumption) | (with_reducible refine ba _ _ ?_; with_reducible assumption) | (with_reducible refine Below.drew ?_; with_reducible refine ba _ _ ?_; with_reducible assumption) | exact Below.refl _ _ | exact (Below.refl _ _).drew | exact (Below.refl _ _).alloc (Nat.le_refl _) _ | (refine bc _ _ (by assumption) (by assumption))))
        clear hK K
        refine RegOk.put_ (m' := 39) (by kernel_rfl) ?_
        try simp only [Act.put, List.setIfInBounds_toArray, List.set_cons_zero, List.set_cons_succ]
        refine hR.come (rs := [3, 7]) (by kernel_rfl) (by simp) ?_
        refine AllReadyH.cons (o := ?o709_3) ?h709_3 (fun K hK => ?kw709_3) (AllReadyH.cons (o := ?o709_7) ?h709_7 (fun K hK => ?kw709_7) AllReadyH.nil)
        case h709_3 => simp only [List.getElem?_toArray, List.getElem?_cons_succ, List.getElem?_cons_zero]; rfl
        case h709_7 => simp only [List.getElem?_toArray, List.getElem?_cons_succ, List.getElem?_cons_zero]; rfl
        case kw709_3 =>
          go_simp <;> (try go_wp2_with fail)
          refine hK.out _ _ ?_ (fun hHeld => ?_)
          · (first | (repeat' (first | with_reducible assumption | exact Nat.le_refl _ | with_reducible refine Below.setCell ?_ ?_ _ | with_reducible refine Below.drew ?_ | with_reducible refine ba _ _ ?_ | omega | (simp <;> omega))) | (first | with_reducible assumption | (with_reducible refine Below.drew ?_; with_reducible assumption) | (with_reducible refine ba _ _ ?_; with_reducible assumption) | (with_reducible refine Below.drew ?_; with_reducible refine ba _ _ ?_; with_reducible assumption) | exact Below.refl _ _ | exact (Below.refl _ _).drew | exact (Below.refl _ _).alloc (Nat.le_refl _) _ | (refine bc _ _ (by assumption) (by assumption))))
          clear hK K
          refine RegOk.put_ (m' := 47) (by kernel_rfl) ?_
          try simp only [Act.put, List.setIfInBounds_toArray, List.set_cons_zero, List.set_cons_succ]
          refine hR.take (i := 4) (oi := ?ow710_4) (v := ?vw710_4) (m' := 63) ?hw710_4 (by kernel_rfl) (by kernel_rfl) (fun _ _ _ h => h) (Or.inl ⟨?sw710_4, ?yw710_4⟩) (by assumption) ?nw710_4
          case hw710_4 => simp only [List.getElem?_toArray, List.getElem?_cons_succ, List.getElem?_cons_zero]; rfl
          case sw710_4 => rfl
          case yw710_4 => (intro w hSw; (try dsimp only at hSw); go_simp <;> with_reducible rfl)
          try simp only [Act.put, List.setIfInBounds_toArray, List.set_cons_zero, List.set_cons_succ]
          refine hR.come (rs := [6, 7]) (by kernel_rfl) (by simp) ?_
          refine AllReadyH.cons (o := ?o711_6) ?h711_6 (fun K hK => ?kw711_6) (AllReadyH.cons (o := ?o711_7) ?h711_7 (fun K hK => ?kw711_7) AllReadyH.nil)
          case h711_6 => simp only [List.getElem?_toArray, List.getElem?_cons_succ, List.getElem?_cons_zero]; rfl
          case h711_7 => simp only [List.getElem?_toArray, List.getElem?_cons_succ, List.getElem?_cons_zero]; rfl
          case kw711_6 =>
            go_simp
            go_at_call 15; refine (answerN (q := q7) (s := s15) (n := 32) (m := 1) q7_xs q7_ys rfl rfl rfl rfl rfl _ (qv_ok q7_ok).1 (qv_ok q7_ok).2 ok15 (by decide) (sl_fs2N (S := fun _ => True) (n := 1) (m := 1) (t := 49) (l := [⟨2, 5, 5⟩]) (k := [⟨2, 5, 6⟩]) rfl rfl (by repeat' (first | with_reducible assumption | (with_reducible refine heap_alloc_at ?_; (first | rfl | omega | (simp [World.setCell]; done) | (simp [World.setCell]; omega))) | with_reducible refine set2 (a := .slice none 0 0) (b := .slice none 0 0) ?_ | (with_reducible refine (Below.heap_setCell _ _ _ _ ?_).trans ?_) | (with_reducible refine (Below.heap_alloc _ _ _ ?_).trans ?_) | (with_reducible refine drew_get2 ?_) | (with_reducible refine (hbC.block _ ?_).trans ?_) | (with_reducible refine (hbO.block _ ?_).trans ?_) | (simp [World.setCell]; done) | omega | (simp [World.setCell] <;> omega))) (by repeat' (first | with_reducible refine Sl.alloc_ ?_ _ | with_reducible refine Sl.drew ?_ | exact HO.out)) (sl_cd1 (t := 58) (x := ⟨2, 5, 6⟩) (by repeat' (first | with_reducible assumption | (with_reducible refine heap_alloc_at ?_; (first | rfl | omega | (simp [World.setCell]; done) | (simp [World.setCell]; omega))) | with_reducible refine set2 (a := .slice none 0 0) (b := .slice none 0 0) ?_ | (with_reducible refine (Below.heap_setCell _ _ _ _ ?_).trans ?_) | (with_reducible refine (Below.heap_alloc _ _ _ ?_).trans ?_) | (with_reducible refine drew_get2 ?_) | (with_reducible refine (hbC.block _ ?_).trans ?_) | (with_reducible refine (hbO.block _ ?_).trans ?_) | (simp [World.setCell]; done) | omega | (simp [World.setCell] <;> omega))) trivial) trivial) (HSL.out.keep (Below.agree (by (first | with_reducible assumption | (with_reducible refine Below.drew ?_; with_reducible assumption) | (with_reducible refine ba _ _ ?_; with_reducible assumption) | (with_reducible refine Below.drew ?_; with_reducible refine ba _ _ ?_; with_reducible assumption) | exact Below.refl _ _ | exact (Below.refl _ _).drew | exact (Below.refl _ _).alloc (Nat.le_refl _) _ | (refine bc _ _ (by assumption) (by assumption)))))) (HSG.out.keep (Below.agree (by (first | with_reducible assumption | (with_reducible refine Below.drew ?_; with_reducible assumption) | (with_reducible refine ba _ _ ?_; with_reducible assumption) | (with_reducible refine Below.drew ?_; with_reducible refine ba _ _ ?_; with_reducible assumption) | exact Below.refl _ _ | exact (Below.refl _ _).drew | exact (Below.refl _ _).alloc (Nat.le_refl _) _ | (refine bc _ _ (by assumption) (by assumption))))))).mono ?_; rintro e wC ⟨A, c, B, d, rfl, h1, h2, hbC⟩; have hkC := bc _ _ (by (first | with_reducible assumption | (with_reducible refine Below.drew ?_; with_reducible assumption) | (with_reducible refine ba _ _ ?_; with_reducible assumption) | (with_reducible refine Below.drew ?_; with_reducible refine ba _ _ ?_; with_reducible assumption) | exact Below.refl _ _ | exact (Below.refl _ _).drew | exact (Below.refl _ _).alloc (Nat.le_refl _) _ | (refine bc _ _ (by assumption) (by assumption)))) hbC; obtain ⟨hcC, hfC⟩ := bcell hbC; have hzC := hbC.size; (try simp at hzC); (try have hl0 : w9.heap.size < wC.heap.size := (by omega)); (try have hl3 : gO < wC.heap.size := (by omega)); (try have hl4 : gO + 1 < wC.heap.size := (by omega)); (try have hl5 : gO + 1 + 1 < wC.heap.size := (by omega)); (try have hn5 : gO + 1 + 1 + 1 < wC.heap.size := (by omega)); (try have hl1 : w9.heap.size + 1 < wC.heap.size := (by omega)); (try have hl2 : w9.heap.size + 1 + 1 < wC.heap.size := (by omega))
            refine hK.out _ _ ?_ (fun hHeld => ?_)
            · (first | (repeat' (first | with_reducible assumption | exact Nat.le_refl _ | with_reducible refine Below.setCell ?_ ?_ _ | with_reducible refine Below.drew ?_ | with_reducible refine ba _ _ ?_ | omega | (simp <;> omega))) | (first | with_reducible assumption | (with_reducible refine Below.drew ?_; with_reducible assumption) | (with_reducible refine ba _ _ ?_; with_reducible assumption) | (with_reducible refine Below.drew ?_; with_reducible refine ba _ _ ?_; with_reducible assumption) | exact Below.refl _ _ | exact (Below.refl _ _).drew | exact (Below.refl _ _).alloc (Nat.le_refl _) _ | (refine bc _ _ (by assumption) (by assumption))))
            clear hK K
            refine RegOk.put_ (m' := 127) (by kernel_rfl) ?_
            try simp only [Act.put, List.setIfInBounds_toArray, List.set_cons_zero, List.set_cons_succ]
            refine hR.come (rs := [7]) (by kernel_rfl) (by simp) ?_
            refine AllReadyH.cons (o := ?o712_7) ?h712_7 (fun K hK => ?kw712_7) AllReadyH.nil
            case h712_7 => simp only [List.getElem?_toArray, List.getElem?_cons_succ, List.getElem?_cons_zero]; rfl
            go_simp <;> (try go_wp2_with fail)
            refine hK.out _ _ ?_ (fun hHeld => ?_)
            · (first | (repeat' (first | with_reducible assumption | exact Nat.le_refl _ | with_reducible refine Below.setCell ?_ ?_ _ | with_reducible refine Below.drew ?_ | with_reducible refine ba _ _ ?_ | omega | (simp <;> omega))) | (first | with_reducible assumption | (with_reducible refine Below.drew ?_; with_reducible assumption) | (with_reducible refine ba _ _ ?_; with_reducible assumption) | (with_reducible refine Below.drew ?_; with_reducible refine ba _ _ ?_; with_reducible assumption) | exact Below.refl _ _ | exact (Below.refl _ _).drew | exact (Below.refl _ _).alloc (Nat.le_refl _) _ | (refine bc _ _ (by assumption) (by assumption))))
            clear hK K
            refine RegOk.put_ (m' := 255) (by kernel_rfl) ?_
            try simp only [Act.put, List.setIfInBounds_toArray, List.set_cons_zero, List.set_cons_succ]
            refine hR.come (rs := [8]) (by kernel_rfl) (by simp) ?_
            refine AllReadyH.cons (o := ?o713_8) ?h713_8 (fun K hK => ?kw713_8) AllReadyH.nil
            case h713_8 => simp only [List.getElem?_toArray, List.getElem?_cons_succ, List.getElem?_cons_zero]; rfl
            go_simp <;> (try go_wp2_with fail)
            refine hK.out _ _ ?_ (fun hHeld => ?_)
            · (first | (repeat' (first | with_reducible assumption | exact Nat.le_refl _ | with_reducible refine Below.setCell ?_ ?_ _ | with_reducible refine Below.drew ?_ | with_reducible refine ba _ _ ?_ | omega | (simp <;> omega))) | (first | with_reducible assumption | (with_reducible refine Below.drew ?_; with_reducible assumption) | (with_reducible refine ba _ _ ?_; with_reducible assumption) | (with_reducible refine Below.drew ?_; with_reducible refine ba _ _ ?_; with_reducible assumption) | exact Below.refl _ _ | exact (Below.refl _ _).drew | exact (Below.refl _ _).alloc (Nat.le_refl _) _ | (refine bc _ _ (by assumption) (by assumption))))
            clear hK K
            refine RegOk.put_ (m' := 511) (by kernel_rfl) ?_
            try simp only [Act.put, List.setIfInBounds_toArray, List.set_cons_zero, List.set_cons_succ]
            refine hR.all (by kernel_rfl) ?_ _
            refine NoPanic.normal ?_
            go_wp2_with fail
            go_meet
            case rel =>
              refine ⟨_, rfl, ⟨A, c, B, d, (by repeat' (first | with_reducible assumption | (with_reducible refine heap_alloc_at ?_; (first | rfl | omega | (simp [World.setCell]; done) | (simp [World.setCell]; omega))) | with_reducible refine set2 (a := .slice none 0 0) (b := .slice none 0 0) ?_ | (with_reducible refine (Below.heap_setCell _ _ _ _ ?_).trans ?_) | (with_reducible refine (Below.heap_alloc _ _ _ ?_).trans ?_) | (with_reducible refine drew_get2 ?_) | (with_reducible refine (hbC.block _ ?_).trans ?_) | (with_reducible refine (hbO.block _ ?_).trans ?_) | (simp [World.setCell]; done) | omega | (simp [World.setCell] <;> omega))), ?_, ?_⟩, by assumption⟩
              · (first | (with_reducible refine Sl.sub (Sl.alloc_ h1 _) ?_; exact (fun _ _ _ => trivial)) | (refine Sl.two_ h1 ?_; rintro ⟨a, b⟩; simp at a; omega))
              · (first | (with_reducible refine Sl.sub (Sl.alloc_ h2 _) ?_; exact (fun _ _ _ => trivial)) | (refine Sl.two_ h2 ?_; rintro ⟨a, b⟩; simp at a; omega))
          case kw711_7 =>
            go_simp <;> (try go_wp2_with fail)
            refine hK.out _ _ ?_ (fun hHeld => ?_)
            · (first | (repeat' (first | with_reducible assumption | exact Nat.le_refl _ | with_reducible refine Below.setCell ?_ ?_ _ | with_reducible refine Below.drew ?_ | with_reducible refine ba _ _ ?_ | omega | (simp <;> omega))) | (first | with_reducible assumption | (with_reducible refine Below.drew ?_; with_reducible assumption) | (with_reducible refine ba _ _ ?_; with_reducible assumption) | (with_reducible refine Below.drew ?_; with_reducible refine ba _ _ ?_; with_reducible assumption) | exact Below.refl _ _ | exact (Below.refl _ _).drew | exact (Below.refl _ _).alloc (Nat.le_refl _) _ | (refine bc _ _ (by assumption) (by assumption))))
            clear hK K
            refine RegOk.put_ (m' := 191) (by kernel_rfl) ?_
            try simp only [Act.put, List.setIfInBounds_toArray, List.set_cons_zero, List.set_cons_succ]
            refine hR.come (rs := [6]) (by kernel_rfl) (by simp) ?_
            refine AllReadyH.cons (o := ?o714_6) ?h714_6 (fun K hK => ?kw714_6) AllReadyH.nil
            case h714_6 => simp only [List.getElem?_toArray, List.getElem?_cons_succ, List.getElem?_cons_zero]; rfl
            go_simp
            go_at_call 15; refine (answerN (q := q7) (s := s15) (n := 32) (m := 1) q7_xs q7_ys rfl rfl rfl rfl rfl _ (qv_ok q7_ok).1 (qv_ok q7_ok).2 ok15 (by decide) (sl_fs2N (S := fun _ => True) (n := 1) (m := 1) (t := 49) (l := [⟨2, 5, 5⟩]) (k := [⟨2, 5, 6⟩]) rfl rfl (by repeat' (first | with_reducible assumption | (with_reducible refine heap_alloc_at ?_; (first | rfl | omega | (simp [World.setCell]; done) | (simp [World.setCell]; omega))) | with_reducible refine set2 (a := .slice none 0 0) (b := .slice none 0 0) ?_ | (with_reducible refine (Below.heap_setCell _ _ _ _ ?_).trans ?_) | (with_reducible refine (Below.heap_alloc _ _ _ ?_).trans ?_) | (with_reducible refine drew_get2 ?_) | (with_reducible refine (hbC.block _ ?_).trans ?_) | (with_reducible refine (hbO.block _ ?_).trans ?_) | (simp [World.setCell]; done) | omega | (simp [World.setCell] <;> omega))) (by repeat' (first | with_reducible refine Sl.alloc_ ?_ _ | with_reducible refine Sl.drew ?_ | exact HO.out)) (sl_cd1 (t := 58) (x := ⟨2, 5, 6⟩) (by repeat' (first | with_reducible assumption | (with_reducible refine heap_alloc_at ?_; (first | rfl | omega | (simp [World.setCell]; done) | (simp [World.setCell]; omega))) | with_reducible refine set2 (a := .slice none 0 0) (b := .slice none 0 0) ?_ | (with_reducible refine (Below.heap_setCell _ _ _ _ ?_).trans ?_) | (with_reducible refine (Below.heap_alloc _ _ _ ?_).trans ?_) | (with_reducible refine drew_get2 ?_) | (with_reducible refine (hbC.block _ ?_).trans ?_) | (with_reducible refine (hbO.block _ ?_).trans ?_) | (simp [World.setCell]; done) | omega | (simp [World.setCell] <;> omega))) trivial) trivial) (HSL.out.keep (Below.agree (by (first | with_reducible assumption | (with_reducible refine Below.drew ?_; with_reducible assumption) | (with_reducible refine ba _ _ ?_; with_reducible assumption) | (with_reducible refine Below.drew ?_; with_reducible refine ba _ _ ?_; with_reducible assumption) | exact Below.refl _ _ | exact (Below.refl _ _).drew | exact (Below.refl _ _).alloc (Nat.le_refl _) _ | (refine bc _ _ (by assumption) (by assumption)))))) (HSG.out.keep (Below.agree (by (first | with_reducible assumption | (with_reducible refine Below.drew ?_; with_reducible assumption) | (with_reducible refine ba _ _ ?_; with_reducible assumption) | (with_reducible refine Below.drew ?_; with_reducible refine ba _ _ ?_; with_reducible assumption) | exact Below.refl _ _ | exact (Below.refl _ _).drew | exact (Below.refl _ _).alloc (Nat.le_refl _) _ | (refine bc _ _ (by assumption) (by assumption))))))).mono ?_; rintro e wC ⟨A, c, B, d, rfl, h1, h2, hbC⟩; have hkC := bc _ _ (by (first | with_reducible assumption | (with_reducible refine Below.drew ?_; with_reducible assumption) | (with_reducible refine ba _ _ ?_; with_reducible assumption) | (with_reducible refine Below.drew ?_; with_reducible refine ba _ _ ?_; with_reducible assumption) | exact Below.refl _ _ | exact (Below.refl _ _).drew | exact (Below.refl _ _).alloc (Nat.le_refl _) _ | (refine bc _ _ (by assumption) (by assumption)))) hbC; obtain ⟨hcC, hfC⟩ := bcell hbC; have hzC := hbC.size; (try simp at hzC); (try have hl0 : w9.heap.size < wC.heap.size := (by omega)); (try have hl3 : gO < wC.heap.size := (by omega)); (try have hl4 : gO + 1 < wC.heap.size := (by omega)); (try have hl5 : gO + 1 + 1 < wC.heap.size := (by omega)); (try have hn5 : gO + 1 + 1 + 1 < wC.heap.size := (by omega)); (try have hl1 : w9.heap.size + 1 < wC.heap.size := (by omega)); (try have hl2 : w9.heap.size + 1 + 1 < wC.heap.size := (by omega))
            refine hK.out _ _ ?_ (fun hHeld => ?_)
            · (first | (repeat' (first | with_reducible assumption | exact Nat.le_refl _ | with_reducible refine Below.setCell ?_ ?_ _ | with_reducible refine Below.drew ?_ | with_reducible refine ba _ _ ?_ | omega | (simp <;> omega))) | (first | with_reducible assumption | (with_reducible refine Below.drew ?_; with_reducible assumption) | (with_reducible refine ba _ _ ?_; with_reducible assumption) | (with_reducible refine Below.drew ?_; with_reducible refine ba _ _ ?_; with_reducible assumption) | exact Below.refl _ _ | exact (Below.refl _ _).drew | exact (Below.refl _ _).alloc (Nat.le_refl _) _ | (refine bc _ _ (by assumption) (by assumption))))
            clear hK K
            refine RegOk.put_ (m' := 255) (by kernel_rfl) ?_
            try simp only [Act.put, List.setIfInBounds_toArray, List.set_cons_zero, List.set_cons_succ]
            refine hR.come (rs := [8]) (by kernel_rfl) (by simp) ?_
            refine AllReadyH.cons (o := ?o715_8) ?h715_8 (fun K hK => ?kw715_8) AllReadyH.nil
            case h715_8 => simp only [List.getElem?_toArray, List.getElem?_cons_succ, List.getElem?_cons_zero]; rfl
            go_simp <;> (try go_wp2_with fail)
            refine hK.out _ _ ?_ (fun hHeld => ?_)
            · (first | (repeat' (first | with_reducible assumption | exact Nat.le_refl _ | with_reducible refine Below.setCell ?_ ?_ _ | with_reducible refine Below.drew ?_ | with_reducible refine ba _ _ ?_ | omega | (simp <;> omega))) | (first | with_reducible assumption | (with_reducible refine Below.drew ?_; with_reducible assumption) | (with_reducible refine ba _ _ ?_; with_reducible assumption) | (with_reducible refine Below.drew ?_; with_reducible refine ba _ _ ?_; with_reducible assumption) | exact Below.refl _ _ | exact (Below.refl _ _).drew | exact (Below.refl _ _).alloc (Nat.le_refl _) _ | (refine bc _ _ (by assumption) (by assumption))))
            clear hK K
            refine RegOk.put_ (m' := 511) (by kernel_rfl) ?_
            try simp only [Act.put, List.setIfInBounds_toArray, List.set_cons_zero, List.set_cons_succ]
            refine hR.all (by kernel_rfl) ?_ _
            refine NoPanic.normal ?_
            go_wp2_with fail
            go_meet
            case rel =>
              refine ⟨_, rfl, ⟨A, c, B, d, (by repeat' (first | with_reducible assumption | (with_reducible refine heap_alloc_at ?_; (first | rfl | omega | (simp [World.setCell]; done) | (simp [World.setCell]; omega))) | with_reducible refine set2 (a := .slice none 0 0) (b := .slice none 0 0) ?_ | (with_reducible refine (Below.heap_setCell _ _ _ _ ?_).trans ?_) | (with_reducible refine (Below.heap_alloc _ _ _ ?_).trans ?_) | (with_reducible refine drew_get2 ?_) | (with_reducible refine (hbC.block _ ?_).trans ?_) | (with_reducible refine (hbO.block _ ?_).trans ?_) | (simp [World.setCell]; done) | omega | (simp [World.setCell] <;> omega))), ?_, ?_⟩, by assumption⟩
              · (first | (with_reducible refine Sl.sub (Sl.alloc_ h1 _) ?_; exact (fun _ _ _ => trivial)) | (refine Sl.two_ h1 ?_; rintro ⟨a, b⟩; simp at a; omega))
              · (first | (with_reducible refine Sl.sub (Sl.alloc_ h2 _) ?_; exact (fun _ _ _ => trivial)) | (refine Sl.two_ h2 ?_; rintro ⟨a, b⟩; simp at a; omega))
        case kw709_7 =>
          go_simp <;> (try go_wp2_with fail)
          refine hK.out _ _ ?_ (fun hHeld => ?_)
          · (first | (repeat' (first | with_reducible assumption | exact Nat.le_refl _ | with_reducible refine Below.setCell ?_ ?_ _ | with_reducible refine Below.drew ?_ | with_reducible refine ba _ _ ?_ | omega | (simp <;> omega))) | (first | with_reducible assumption | (with_reducible refine Below.drew ?_; with_reducible assumption) | (with_reducible refine ba _ _ ?_; with_reducible assumption) | (with_reducible refine Below.drew ?_; with_reducible refine ba _ _ ?_; with_reducible assumption) | exact Below.refl _ _ | exact (Below.refl _ _).drew | exact (Below.refl _ _).alloc (Nat.le_refl _) _ | (refine bc _ _ (by assumption) (by assumption))))
          clear hK K
          refine RegOk.put_ (m' := 167) (by kernel_rfl) ?_
          try simp only [Act.put, List.setIfInBounds_toArray, List.set_cons_zero, List.set_cons_succ]
          refine hR.come (rs := [3]) (by kernel_rfl) (by simp) ?_
          refine AllReadyH.cons (o := ?o716_3) ?h716_3 (fun K hK => ?kw716_3) AllReadyH.nil
          case h716_3 => simp only [List.getElem?_toArray, List.getElem?_cons_succ, List.getElem?_cons_zero]; rfl
          go_simp <;> (try go_wp2_with fail)
          refine hK.out _ _ ?_ (fun hHeld => ?_)
          · (first | (repeat' (first | with_reducible assumption | exact Nat.le_refl _ | with_reducible refine Below.setCell ?_ ?_ _ | with_reducible refine Below.drew ?_ | with_reducible refine ba _ _ ?_ | omega | (simp <;> omega))) | (first | with_reducible assumption | (with_reducible refine Below.drew ?_; with_reducible assumption) | (with_reducible refine ba _ _ ?_; with_reducible assumption) | (with_reducible refine Below.drew ?_; with_reducible refine ba _ _ ?_; with_reducible assumption) | exact Below.refl _ _ | exact (Below.refl _ _).drew | exact (Below.refl _ _).alloc (Nat.le_refl _) _ | (refine bc _ _ (by assumption) (by assumption))))
          clear hK K
          refine RegOk.put_ (m' := 175) (by kernel_rfl) ?_
          try simp only [Act.put, List.setIfInBounds_toArray, List.set_cons_zero, List.set_cons_succ]
          refine hR.take (i := 4) (oi := ?ow717_4) (v := ?vw717_4) (m' := 191) ?hw717_4 (by kernel_rfl) (by kernel_rfl) (fun _ _ _ h => h) (Or.inl ⟨?sw717_4, ?yw717_4⟩) (by assumption) ?nw717_4
          case hw717_4 => simp only [List.getElem?_toArray, List.getElem?_cons_succ, List.getElem?_cons_zero]; rfl
          case sw717_4 => rfl
          case yw717_4 => (intro w hSw; (try dsimp only at hSw); go_simp <;> with_reducible rfl)
          try simp only [Act.put, List.setIfInBounds_toArray, List.set_cons_zero, List.set_cons_succ]
          refine hR.come (rs := [6]) (by kernel_rfl) (by simp) ?_
          refine AllReadyH.cons (o := ?o718_6) ?h718_6 (fun K hK => ?kw718_6) AllReadyH.nil
          case h718_6 => simp only [List.getElem?_toArray, List.getElem?_cons_succ, List.getElem?_cons_zero]; rfl
          go_simp
          go_at_call 15; refine (answerN (q := q7) (s := s15) (n := 32) (m := 1) q7_xs q7_ys rfl rfl rfl rfl rfl _ (qv_ok q7_ok).1 (qv_ok q7_ok).2 ok15 (by decide) (sl_fs2N (S := fun _ => True) (n := 1) (m := 1) (t := 49) (l := [⟨2, 5, 5⟩]) (k := [⟨2, 5, 6⟩]) rfl rfl (by repeat' (first | with_reducible assumption | (with_reducible refine heap_alloc_at ?_; (first | rfl | omega | (simp [World.setCell]; done) | (simp [World.setCell]; omega))) | with_reducible refine set2 (a := .slice none 0 0) (b := .slice none 0 0) ?_ | (with_reducible refine (Below.heap_setCell _ _ _ _ ?_).trans ?_) | (with_reducible refine (Below.heap_alloc _ _ _ ?_).trans ?_) | (with_reducible refine drew_get2 ?_) | (with_reducible refine (hbC.block _ ?_).trans ?_) | (with_reducible refine (hbO.block _ ?_).trans ?_) | (simp [World.setCell]; done) | omega | (simp [World.setCell] <;> omega))) (by repeat' (first | with_reducible refine Sl.alloc_ ?_ _ | with_reducible refine Sl.drew ?_ | exact HO.out)) (sl_cd1 (t := 58) (x := ⟨2, 5, 6⟩) (by repeat' (first | with_reducible assumption | (with_reducible refine heap_alloc_at ?_; (first | rfl | omega | (simp [World.setCell]; done) | (simp [World.setCell]; omega))) | with_reducible refine set2 (a := .slice none 0 0) (b := .slice none 0 0) ?_ | (with_reducible refine (Below.heap_setCell _ _ _ _ ?_).trans ?_) | (with_reducible refine (Below.heap_alloc _ _ _ ?_).trans ?_) | (with_reducible refine drew_get2 ?_) | (with_reducible refine (hbC.block _ ?_).trans ?_) | (with_reducible refine (hbO.block _ ?_).trans ?_) | (simp [World.setCell]; done) | omega | (simp [World.setCell] <;> omega))) trivial) trivial) (HSL.out.keep (Below.agree (by (first | with_reducible assumption | (with_reducible refine Below.drew ?_; with_reducible assumption) | (with_reducible refine ba _ _ ?_; with_reducible assumption) | (with_reducible refine Below.drew ?_; with_reducible refine ba _ _ ?_; with_reducible assumption) | exact Below.refl _ _ | exact (Below.refl _ _).drew | exact (Below.refl _ _).alloc (Nat.le_refl _) _ | (refine bc _ _ (by assumption) (by assumption)))))) (HSG.out.keep (Below.agree (by (first | with_reducible assumption | (with_reducible refine Below.drew ?_; with_reducible assumption) | (with_reducible refine ba _ _ ?_; with_reducible assumption) | (with_reducible refine Below.drew ?_; with_reducible refine ba _ _ ?_; with_reducible assumption) | exact Below.refl _ _ | exact (Below.refl _ _).drew | exact (Below.refl _ _).alloc (Nat.le_refl _) _ | (refine bc _ _ (by assumption) (by assumption))))))).mono ?_; rintro e wC ⟨A, c, B, d, rfl, h1, h2, hbC⟩; have hkC := bc _ _ (by (first | with_reducible assumption | (with_reducible refine Below.drew ?_; with_reducible assumption) | (with_reducible refine ba _ _ ?_; with_reducible assumption) | (with_reducible refine Below.drew ?_; with_reducible refine ba _ _ ?_; with_reducible assumption) | exact Below.refl _ _ | exact (Below.refl _ _).drew | exact (Below.refl _ _).alloc (Nat.le_refl _) _ | (refine bc _ _ (by assumption) (by assumption)))) hbC; obtain ⟨hcC, hfC⟩ := bcell hbC; have hzC := hbC.size; (try simp at hzC); (try have hl0 : w9.heap.size < wC.heap.size := (by omega)); (try have hl3 : gO < wC.heap.size := (by omega)); (try have hl4 : gO + 1 < wC.heap.size := (by omega)); (try have hl5 : gO + 1 + 1 < wC.heap.size := (by omega)); (try have hn5 : gO + 1 + 1 + 1 < wC.heap.size := (by omega)); (try have hl1 : w9.heap.size + 1 < wC.heap.size := (by omega)); (try have hl2 : w9.heap.size + 1 + 1 < wC.heap.size := (by omega))
          refine hK.out _ _ ?_ (fun hHeld => ?_)
          · (first | (repeat' (first | with_reducible assumption | exact Nat.le_refl _ | with_reducible refine Below.setCell ?_ ?_ _ | with_reducible refine Below.drew ?_ | with_reducible refine ba _ _ ?_ | omega | (simp <;> omega))) | (first | with_reducible assumption | (with_reducible refine Below.drew ?_; with_reducible assumption) | (with_reducible refine ba _ _ ?_; with_reducible assumption) | (with_reducible refine Below.drew ?_; with_reducible refine ba _ _ ?_; with_reducible assumption) | exact Below.refl _ _ | exact (Below.refl _ _).drew | exact (Below.refl _ _).alloc (Nat.le_refl _) _ | (refine bc _ _ (by assumption) (by assumption))))
          clear hK K
          refine RegOk.put_ (m' := 255) (by kernel_rfl) ?_
          try simp only [Act.put, List.setIfInBounds_toArray, List.set_cons_zero, List.set_cons_succ]
          refine hR.come (rs := [8]) (by kernel_rfl) (by simp) ?_
          refine AllReadyH.cons (o := ?o719_8) ?h719_8 (fun K hK => ?kw719_8) AllReadyH.nil
          case h719_8 => simp only [List.getElem?_toArray, List.getElem?_cons_succ, List.getElem?_cons_zero]; rfl
          go_simp <;> (try go_wp2_with fail)
          refine hK.out _ _ ?_ (fun hHeld => ?_)
          · (first | (repeat' (first | with_reducible assumption | exact Nat.le_refl _ | with_reducible refine Below.setCell ?_ ?_ _ | with_reducible refine Below.drew ?_ | with_reducible refine ba _ _ ?_ | omega | (simp <;> omega))) | (first | with_reducible assumption | (with_reducible refine Below.drew ?_; with_reducible assumption) | (with_reducible refine ba _ _ ?_; with_reducible assumption) | (with_reducible refine Below.drew ?_; with_reducible refine ba _ _ ?_; with_reducible assumption) | exact Below.refl _ _ | exact (Below.refl _ _).drew | exact (Below.refl _ _).alloc (Nat.le_refl _) _ | (refine bc _ _ (by assumption) (by assumption))))
          clear hK K
          refine RegOk.put_ (m' := 511) (by kernel_rfl) ?_
          try simp only [Act.put, List.setIfInBounds_toArray, List.set_cons_zero, List.set_cons_succ]
          refine hR.all (by kernel_rfl) ?_ _
          refine NoPanic.normal ?_
          go_wp2_with fail
          go_meet
          case rel =>
            refine ⟨_, rfl, ⟨A, c, B, d, (by repeat' (first | with_reducible assumption | (with_reducible refine heap_alloc_at ?_; (first | rfl | omega | (simp [World.setCell]; done) | (simp [World.setCell]; omega))) | with_reducible refine set2 (a := .slice none 0 0) (b := .slice none 0 0) ?_ | (with_reducible refine (Below.heap_setCell _ _ _ _ ?_).trans ?_) | (with_reducible refine (Below.heap_alloc _ _ _ ?_).trans ?_) | (with_reducible refine drew_get2 ?_) | (with_reducible refine (hbC.block _ ?_).trans ?_) | (with_reducible refine (hbO.block _ ?_).trans ?_) | (simp [World.setCell]; done) | omega | (simp [World.setCell] <;> omega))), ?_, ?_⟩, by assumption⟩
            · (first | (with_reducible refine Sl.sub (Sl.alloc_ h1 _) ?_; exact (fun _ _ _ => trivial)) | (refine Sl.two_ h1 ?_; rintro ⟨a, b⟩; simp at a; omega))
            · (first | (with_reducible refine Sl.sub (Sl.alloc_ h2 _) ?_; exact (fun _ _ _ => trivial)) | (refine Sl.two_ h2 ?_; rintro ⟨a, b⟩; simp at a; omega))
      case kw708_7 =>
        go_simp <;> (try go_wp2_with fail)
        refine hK.out _ _ ?_ (fun hHeld => ?_)
        · (first | (repeat' (first | with_reducible assumption | exact Nat.le_refl _ | with_reducible refine Below.setCell ?_ ?_ _ | with_reducible refine Below.drew ?_ | with_reducible refine ba _ _ ?_ | omega | (simp <;> omega))) | (first | with_reducible assumption | (with_reducible refine Below.drew ?_; with_reducible assumption) | (with_reducible refine ba _ _ ?_; with_reducible assumption) | (with_reducible refine Below.drew ?_; with_reducible refine ba _ _ ?_; with_reducible assumption) | exact Below.refl _ _ | exact (Below.refl _ _).drew | exact (Below.refl _ _).alloc (Nat.le_refl _) _ | (refine bc _ _ (by assumption) (by assumption))))
        clear hK K
        refine RegOk.put_ (m' := 166) (by kernel_rfl) ?_
        try simp only [Act.put, List.setIfInBounds_toArray, List.set_cons_zero, List.set_cons_succ]
        refine hR.come (rs := [0]) (by kernel_rfl) (by simp) ?_
        refine AllReadyH.cons (o := ?o720_0) ?h720_0 (fun K hK => ?kw720_0) AllReadyH.nil
        case h720_0 => simp only [List.getElem?_toArray, List.getElem?_cons_succ, List.getElem?_cons_zero]; rfl
        go_simp
        go_at_call 29; refine (onlyL15 _ _ _).mono ?_; rintro e wO ⟨gO, rfl, hO, hzO, hbO⟩; have hkO := bc _ _ (by (first | with_reducible assumption | (with_reducible refine Below.drew ?_; with_reducible assumption) | (with_reducible refine ba _ _ ?_; with_reducible assumption) | (with_reducible refine Below.drew ?_; with_reducible refine ba _ _ ?_; with_reducible assumption) | exact Below.refl _ _ | exact (Below.refl _ _).drew | exact (Below.refl _ _).alloc (Nat.le_refl _) _ | (refine bc _ _ (by assumption) (by assumption)))) hbO; obtain ⟨hcO, hfO⟩ := bcell hbO; have hzP := hbO.size; (try simp at hzP); (try have hl6 : w9.heap.size < wO.heap.size := (by omega)); (try have hl7 : w9.heap.size < gO + 1 := (by omega)); (try have hl8 : w9.heap.size < gO + 1 + 1 := (by omega)); (try have hl9 : w9.heap.size < gO + 1 + 1 + 1 := (by omega)); (try have hm6 : w9.heap.size + 1 < wO.heap.size := (by omega)); (try have hm7 : w9.heap.size + 1 < gO + 1 := (by omega)); (try have hm8 : w9.heap.size + 1 < gO + 1 + 1 := (by omega)); (try have hm9 : w9.heap.size + 1 < gO + 1 + 1 + 1 := (by omega)); have HO := Lib.hid hO; clear hO
        refine hK.out _ _ ?_ (fun hHeld => ?_)
        · (first | (repeat' (first | with_reducible assumption | exact Nat.le_refl _ | with_reducible refine Below.setCell ?_ ?_ _ | with_reducible refine Below.drew ?_ | with_reducible refine ba _ _ ?_ | omega | (simp <;> omega))) | (first | with_reducible assumption | (with_reducible refine Below.drew ?_; with_reducible assumption) | (with_reducible refine ba _ _ ?_; with_reducible assumption) | (with_reducible refine Below.drew ?_; with_reducible refine ba _ _ ?_; with_reducible assumption) | exact Below.refl _ _ | exact (Below.refl _ _).drew | exact (Below.refl _ _).alloc (Nat.le_refl _) _ | (refine bc _ _ (by assumption) (by assumption))))
        clear hK K
        refine RegOk.put_ (m' := 167) (by kernel_rfl) ?_
        try simp only [Act.put, List.setIfInBounds_toArray, List.set_cons_zero, List.set_cons_succ]
        refine hR.come (rs := [3]) (by kernel_rfl) (by simp) ?_
        refine AllReadyH.cons (o := ?o721_3) ?h721_3 (fun K hK => ?kw721_3) AllReadyH.nil
        case h721_3 => simp only [List.getElem?_toArray, List.getElem?_cons_succ, List.getElem?_cons_zero]; rfl
        go_simp <;> (try go_wp2_with fail)
        refine hK.out _ _ ?_ (fun hHeld => ?_)
        · (first | (repeat' (first | with_reducible assumption | exact Nat.le_refl _ | with_reducible refine Below.setCell ?_ ?_ _ | with_reducible refine Below.drew ?_ | with_reducible refine ba _ _ ?_ | omega | (simp <;> omega))) | (first | with_reducible assumption | (with_reducible refine Below.drew ?_; with_reducible assumption) | (with_reducible refine ba _ _ ?_; with_reducible assumption) | (with_reducible refine Below.drew ?_; with_reducible refine ba _ _ ?_; with_reducible assumption) | exact Below.refl _ _ | exact (Below.refl _ _).drew | exact (Below.refl _ _).alloc (Nat.le_refl _) _ | (refine bc _ _ (by assumption) (by assumption))))
        clear hK K
        refine RegOk.put_ (m' := 175) (by kernel_rfl) ?_
        try simp only [Act.put, List.setIfInBounds_toArray, List.set_cons_zero, List.set_cons_succ]
        refine hR.take (i := 4) (oi := ?ow722_4) (v := ?vw722_4) (m' := 191) ?hw722_4 (by kernel_rfl) (by kernel_rfl) (fun _ _ _ h => h) (Or.inl ⟨?sw722_4, ?yw722_4⟩) (by assumption) ?nw722_4
        case hw722_4 => simp only [List.getElem?_toArray, List.getElem?_cons_succ, List.getElem?_cons_zero]; rfl
        case sw722_4 => rfl
        case yw722_4 => (intro w hSw; (try dsimp only at hSw); go_simp <;> with_reducible rfl)
        try simp only [Act.put, List.setIfInBounds_toArray, List.set_cons_zero, List.set_cons_succ]
        refine hR.come (rs := [6]) (by kernel_rfl) (by simp) ?_
        refine AllReadyH.cons (o := ?o723_6) ?h723_6 (fun K hK => ?kw723_6) AllReadyH.nil
        case h723_6 => simp only [List.getElem?_toArray, List.getElem?_cons_succ, List.getElem?_cons_zero]; rfl
        go_simp
        go_at_call 15; refine (answerN (q := q7) (s := s15) (n := 32) (m := 1) q7_xs q7_ys rfl rfl rfl rfl rfl _ (qv_ok q7_ok).1 (qv_ok q7_ok).2 ok15 (by decide) (sl_fs2N (S := fun _ => True) (n := 1) (m := 1) (t := 49) (l := [⟨2, 5, 5⟩]) (k := [⟨2, 5, 6⟩]) rfl rfl (by repeat' (first | with_reducible assumption | (with_reducible refine heap_alloc_at ?_; (first | rfl | omega | (simp [World.setCell]; done) | (simp [World.setCell]; omega))) | with_reducible refine set2 (a := .slice none 0 0) (b := .slice none 0 0) ?_ | (with_reducible refine (Below.heap_setCell _ _ _ _ ?_).trans ?_) | (with_reducible refine (Below.heap_alloc _ _ _ ?_).trans ?_) | (with_reducible refine drew_get2 ?_) | (with_reducible refine (hbC.block _ ?_).trans ?_) | (with_reducible refine (hbO.block _ ?_).trans ?_) | (simp [World.setCell]; done) | omega | (simp [World.setCell] <;> omega))) (by repeat' (first | with_reducible refine Sl.alloc_ ?_ _ | with_reducible refine Sl.drew ?_ | exact HO.out)) (sl_cd1 (t := 58) (x := ⟨2, 5, 6⟩) (by repeat' (first | with_reducible assumption | (with_reducible refine heap_alloc_at ?_; (first | rfl | omega | (simp [World.setCell]; done) | (simp [World.setCell]; omega))) | with_reducible refine set2 (a := .slice none 0 0) (b := .slice none 0 0) ?_ | (with_reducible refine (Below.heap_setCell _ _ _ _ ?_).trans ?_) | (with_reducible refine (Below.heap_alloc _ _ _ ?_).trans ?_) | (with_reducible refine drew_get2 ?_) | (with_reducible refine (hbC.block _ ?_).trans ?_) | (with_reducible refine (hbO.block _ ?_).trans ?_) | (simp [World.setCell]; done) | omega | (simp [World.setCell] <;> omega))) trivial) trivial) (HSL.out.keep (Below.agree (by (first | with_reducible assumption | (with_reducible refine Below.drew ?_; with_reducible assumption) | (with_reducible refine ba _ _ ?_; with_reducible assumption) | (with_reducible refine Below.drew ?_; with_reducible refine ba _ _ ?_; with_reducible assumption) | exact Below.refl _ _ | exact (Below.refl _ _).drew | exact (Below.refl _ _).alloc (Nat.le_refl _) _ | (refine bc _ _ (by assumption) (by assumption)))))) (HSG.out.keep (Below.agree (by (first | with_reducible assumption | (with_reducible refine Below.drew ?_; with_reducible assumption) | (with_reducible refine ba _ _ ?_; with_reducible assumption) | (with_reducible refine Below.drew ?_; with_reducible refine ba _ _ ?_; with_reducible assumption) | exact Below.refl _ _ | exact (Below.refl _ _).drew | exact (Below.refl _ _).alloc (Nat.le_refl _) _ | (refine bc _ _ (by assumption) (by assumption))))))).mono ?_; rintro e wC ⟨A, c, B, d, rfl, h1, h2, hbC⟩; have hkC := bc _ _ (by (first | with_reducible assumption | (with_reducible refine Below.drew ?_; with_reducible assumption) | (with_reducible refine ba _ _ ?_; with_reducible assumption) | (with_reducible refine Below.drew ?_; with_reducible refine ba _ _ ?_; with_reducible assumption) | exact Below.refl _ _ | exact (Below.refl _ _).drew | exact (Below.refl _ _).alloc (Nat.le_refl _) _ | (refine bc _ _ (by assumption) (by assumption)))) hbC; obtain ⟨hcC, hfC⟩ := bcell hbC; have hzC := hbC.size; (try simp at hzC); (try have hl0 : w9.heap.size < wC.heap.size := (by omega)); (try have hl3 : gO < wC.heap.size := (by omega)); (try have hl4 : gO + 1 < wC.heap.size := (by omega)); (try have hl5 : gO + 1 + 1 < wC.heap.size := (by omega)); (try have hn5 : gO + 1 + 1 + 1 < wC.heap.size := (by omega)); (try have hl1 : w9.heap.size + 1 < wC.heap.size := (by omega)); (try have hl2 : w9.heap.size + 1 + 1 < wC.heap.size := (by omega))
        refine hK.out _ _ ?_ (fun hHeld => ?_)
        · (first | (repeat' (first | with_reducible assumption | exact Nat.le_refl _ | with_reducible refine Below.setCell ?_ ?_ _ | with_reducible refine Below.drew ?_ | with_reducible refine ba _ _ ?_ | omega | (simp <;> omega))) | (first | with_reducible assumption | (with_reducible refine Below.drew ?_; with_reducible assumption) | (with_reducible refine ba _ _ ?_; with_reducible assumption) | (with_reducible refine Below.drew ?_; with_reducible refine ba _ _ ?_; with_reducible assumption) | exact Below.refl _ _ | exact (Below.refl _ _).drew | exact (Below.refl _ _).alloc (Nat.le_refl _) _ | (refine bc _ _ (by assumption) (by assumption))))
        clear hK K
        refine RegOk.put_ (m' := 255) (by kernel_rfl) ?_
        try simp only [Act.put, List.setIfInBounds_toArray, List.set_cons_zero, List.set_cons_succ]
        refine hR.come (rs := [8]) (by kernel_rfl) (by simp) ?_
        refine AllReadyH.cons (o := ?o724_8) ?h724_8 (fun K hK => ?kw724_8) AllReadyH.nil
        case h724_8 => simp only [List.getElem?_toArray, List.getElem?_cons_succ, List.getElem?_cons_zero]; rfl
        go_simp <;> (try go_wp2_with fail)
        refine hK.out _ _ ?_ (fun hHeld => ?_)
        · (first | (repeat' (first | with_reducible assumption | exact Nat.le_refl _ | with_reducible refine Below.setCell ?_ ?_ _ | with_reducible refine Below.drew ?_ | with_reducible refine ba _ _ ?_ | omega | (simp <;> omega))) | (first | with_reducible assumption | (with_reducible refine Below.drew ?_; with_reducible assumption) | (with_reducible refine ba _ _ ?_; with_reducible assumption) | (with_reducible refine Below.drew ?_; with_reducible refine ba _ _ ?_; with_reducible assumption) | exact Below.refl _ _ | exact (Below.refl _ _).drew | exact (Below.refl _ _).alloc (Nat.le_refl _) _ | (refine bc _ _ (by assumption) (by assumption))))
        clear hK K
        refine RegOk.put_ (m' := 511) (by kernel_rfl) ?_
        try simp only [Act.put, List.setIfInBounds_toArray, List.set_cons_zero, List.set_cons_succ]
        refine hR.all (by kernel_rfl) ?_ _
        refine NoPanic.normal ?_
        go_wp2_with fail
        go_meet
        case rel =>
          refine ⟨_, rfl, ⟨A, c, B, d, (by repeat' (first | with_reducible assumption | (with_reducible refine heap_alloc_at ?_; (first | rfl | omega | (simp [World.setCell]; done) | (simp [World.setCell]; omega))) | with_reducible refine set2 (a := .slice none 0 0) (b := .slice none 0 0) ?_ | (with_reducible refine (Below.heap_setCell _ _ _ _ ?_).trans ?_) | (with_reducible refine (Below.heap_alloc _ _ _ ?_).trans ?_) | (with_reducible refine drew_get2 ?_) | (with_reducible refine (hbC.block _ ?_).trans ?_) | (with_reducible refine (hbO.block _ ?_).trans ?_) | (simp [World.setCell]; done) | omega | (simp [World.setCell] <;> omega))), ?_, ?_⟩, by assumption⟩
          · (first | (with_reducible refine Sl.sub (Sl.alloc_ h1 _) ?_; exact (fun _ _ _ => trivial)) | (refine Sl.two_ h1 ?_; rintro ⟨a, b⟩; simp at a; omega))
          · (first | (with_reducible refine Sl.sub (Sl.alloc_ h2 _) ?_; exact (fun _ _ _ => trivial)) | (refine Sl.two_ h2 ?_; rintro ⟨a, b⟩; simp at a; omega))
    case kw690_7 =>
      go_simp <;> (try go_wp2_with fail)
      refine hK.out _ _ ?_ (fun hHeld => ?_)
      · (first | (repeat' (first | with_reducible assumption | exact Nat.le_refl _ | with_reducible refine Below.setCell ?_ ?_ _ | with_reducible refine Below.drew ?_ | with_reducible refine ba _ _ ?_ | omega | (simp <;> omega))) | (first | with_reducible assumption | (with_reducible refine Below.drew ?_; with_reducible assumption) | (with_reducible refine ba _ _ ?_; with_reducible assumption) | (with_reducible refine Below.drew ?_; with_reducible refine ba _ _ ?_; with_reducible assumption) | exact Below.refl _ _ | exact (Below.refl _ _).drew | exact (Below.refl _ _).alloc (Nat.le_refl _) _ | (refine bc _ _ (by assumption) (by assumption))))
      clear hK K
      refine RegOk.put_ (m' := 162) (by kernel_rfl) ?_
      try simp only [Act.put, List.setIfInBounds_toArray, List.set_cons_zero, List.set_cons_succ]
      refine hR.come (rs := [0, 2]) (by kernel_rfl) (by simp) ?_
      refine AllReadyH.cons (o := ?o725_0) ?h725_0 (fun K hK => ?kw725_0) (AllReadyH.cons (o := ?o725_2) ?h725_2 (fun K hK => ?kw725_2) AllReadyH.nil)
      case h725_0 => simp only [List.getElem?_toArray, List.getElem?_cons_succ, List.getElem?_cons_zero]; rfl
      case h725_2 => simp only [List.getElem?_toArray, List.getElem?_cons_succ, List.getElem?_cons_zero]; rfl
      case kw725_0 =>
        go_simp
        go_at_call 29; refine (onlyL15 _ _ _).mono ?_; rintro e wO ⟨gO, rfl, hO, hzO, hbO⟩; have hkO := bc _ _ (by (first | with_reducible assumption | (with_reducible refine Below.drew ?_; with_reducible assumption) | (with_reducible refine ba _ _ ?_; with_reducible assumption) | (with_reducible refine Below.drew ?_; with_reducible refine ba _ _ ?_; with_reducible assumption) | exact Below.refl _ _ | exact (Below.refl _ _).drew | exact (Below.refl _ _).alloc (Nat.le_refl _) _ | (refine bc _ _ (by assumption) (by assumption)))) hbO; obtain ⟨hcO, hfO⟩ := bcell hbO; have hzP := hbO.size; (try simp at hzP); (try have hl6 : w9.heap.size < wO.heap.size := (by omega)); (try have hl7 : w9.heap.size < gO + 1 := (by omega)); (try have hl8 : w9.heap.size < gO + 1 + 1 := (by omega)); (try have hl9 : w9.heap.size < gO + 1 + 1 + 1 := (by omega)); (try have hm6 : w9.heap.size + 1 < wO.heap.size := (by omega)); (try have hm7 : w9.heap.size + 1 < gO + 1 := (by omega)); (try have hm8 : w9.heap.size + 1 < gO + 1 + 1 := (by omega)); (try have hm9 : w9.heap.size + 1 < gO + 1 + 1 + 1 := (by omega)); have HO := Lib.hid hO; clear hO
        refine hK.out _ _ ?_ (fun hHeld => ?_)
        · (first | (repeat' (first | with_reducible assumption | exact Nat.le_refl _ | with_reducible refine Below.setCell ?_ ?_ _ | with_reducible refine Below.drew ?_ | with_reducible refine ba _ _ ?_ | omega | (simp <;> omega))) | (first | with_reducible assumption | (with_reducible refine Below.drew ?_; with_reducible assumption) | (with_reducible refine ba _ _ ?_; with_reducible assumption) | (with_reducible refine Below.drew ?_; with_reducible refine ba _ _ ?_; with_reducible assumption) | exact Below.refl _ _ | exact (Below.refl _ _).drew | exact (Below.refl _ _).alloc (Nat.le_refl _) _ | (refine bc _ _ (by assumption) (by assumption))))
        clear hK K
        refine RegOk.put_ (m' := 163) (by kernel_rfl) ?_
        try simp only [Act.put, List.setIfInBounds_toArray, List.set_cons_zero, List.set_cons_succ]
        refine hR.come (rs := [2]) (by kernel_rfl) (by simp) ?_
        refine AllReadyH.cons (o := ?o726_2) ?h726_2 (fun K hK => ?kw726_2) AllReadyH.nil
        case h726_2 => simp only [List.getElem?_toArray, List.getElem?_cons_succ, List.getElem?_cons_zero]; rfl
        go_simp <;> (try go_wp2_with fail)
        refine hK.out _ _ ?_ (fun hHeld => ?_)
        · (first | (repeat' (first | with_reducible assumption | exact Nat.le_refl _ | with_reducible refine Below.setCell ?_ ?_ _ | with_reducible refine Below.drew ?_ | with_reducible refine ba _ _ ?_ | omega | (simp <;> omega))) | (first | with_reducible assumption | (with_reducible refine Below.drew ?_; with_reducible assumption) | (with_reducible refine ba _ _ ?_; with_reducible assumption) | (with_reducible refine Below.drew ?_; with_reducible refine ba _ _ ?_; with_reducible assumption) | exact Below.refl _ _ | exact (Below.refl _ _).drew | exact (Below.refl _ _).alloc (Nat.le_refl _) _ | (refine bc _ _ (by assumption) (by assumption))))
        clear hK K
        refine RegOk.put_ (m' := 167) (by kernel_rfl) ?_
        try simp only [Act.put, List.setIfInBounds_toArray, List.set_cons_zero, List.set_cons_succ]
        refine hR.come (rs := [3]) (by kernel_rfl) (by simp) ?_
        refine AllReadyH.cons (o := ?o727_3) ?h727_3 (fun K hK => ?kw727_3) AllReadyH.nil
        case h727_3 => simp only [List.getElem?_toArray, List.getElem?_cons_succ, List.getElem?_cons_zero]; rfl
        go_simp <;> (try go_wp2_with fail)
        refine hK.out _ _ ?_ (fun hHeld => ?_)
        · (first | (repeat' (first | with_reducible assumption | exact Nat.le_refl _ | with_reducible refine Below.setCell ?_ ?_ _ | with_reducible refine Below.drew ?_ | with_reducible refine ba _ _ ?_ | omega | (simp <;> omega))) | (first | with_reducible assumption | (with_reducible refine Below.drew ?_; with_reducible assumption) | (with_reducible refine ba _ _ ?_; with_reducible assumption) | (with_reducible refine Below.drew ?_; with_reducible refine ba _ _ ?_; with_reducible assumption) | exact Below.refl _ _ | exact (Below.refl _ _).drew | exact (Below.refl _ _).alloc (Nat.le_refl _) _ | (refine bc _ _ (by assumption) (by assumption))))
        clear hK K
        refine RegOk.put_ (m' := 175) (by kernel_rfl) ?_
        try simp only [Act.put, List.setIfInBounds_toArray, List.set_cons_zero, List.set_cons_succ]
        refine hR.take (i := 4) (oi := ?ow728_4) (v := ?vw728_4) (m' := 191) ?hw728_4 (by kernel_rfl) (by kernel_rfl) (fun _ _ _ h => h) (Or.inl ⟨?sw728_4, ?yw728_4⟩) (by assumption) ?nw728_4
        case hw728_4 => simp only [List.getElem?_toArray, List.getElem?_cons_succ, List.getElem?_cons_zero]; rfl
        case sw728_4 => rfl
        case yw728_4 => (intro w hSw; (try dsimp only at hSw); go_simp <;> with_reducible rfl)
        try simp only [Act.put, List.setIfInBounds_toArray, List.set_cons_zero, List.set_cons_succ]
        refine hR.come (rs := [6]) (by kernel_rfl) (by simp) ?_
        refine AllReadyH.cons (o := ?o729_6) ?h729_6 (fun K hK => ?kw729_6) AllReadyH.nil
        case h729_6 => simp only [List.getElem?_toArray, List.getElem?_cons_succ, List.getElem?_cons_zero]; rfl
        go_simp
        go_at_call 15; refine (answerN (q := q7) (s := s15) (n := 32) (m := 1) q7_xs q7_ys rfl rfl rfl rfl rfl _ (qv_ok q7_ok).1 (qv_ok q7_ok).2 ok15 (by decide) (sl_fs2N (S := fun _ => True) (n := 1) (m := 1) (t := 49) (l := [⟨2, 5, 5⟩]) (k := [⟨2, 5, 6⟩]) rfl rfl (by repeat' (first | with_reducible assumption | (with_reducible refine heap_alloc_at ?_; (first | rfl | omega | (simp [World.setCell]; done) | (simp [World.setCell]; omega))) | with_reducible refine set2 (a := .slice none 0 0) (b := .slice none 0 0) ?_ | (with_reducible refine (Below.heap_setCell _ _ _ _ ?_).trans ?_) | (with_reducible refine (Below.heap_alloc _ _ _ ?_).trans ?_) | (with_reducible refine drew_get2 ?_) | (with_reducible refine (hbC.block _ ?_).trans ?_) | (with_reducible refine (hbO.block _ ?_).trans ?_) | (simp [World.setCell]; done) | omega | (simp [World.setCell] <;> omega))) (by repeat' (first | with_reducible refine Sl.alloc_ ?_ _ | with_reducible refine Sl.drew ?_ | exact HO.out)) (sl_cd1 (t := 58) (x := ⟨2, 5, 6⟩) (by repeat' (first | with_reducible assumption | (with_reducible refine heap_alloc_at ?_; (first | rfl | omega | (simp [World.setCell]; done) | (simp [World.setCell]; omega))) | with_reducible refine set2 (a := .slice none 0 0) (b := .slice none 0 0) ?_ | (with_reducible refine (Below.heap_setCell _ _ _ _ ?_).trans ?_) | (with_reducible refine (Below.heap_alloc _ _ _ ?_).trans ?_) | (with_reducible refine drew_get2 ?_) | (with_reducible refine (hbC.block _ ?_).trans ?_) | (with_reducible refine (hbO.block _ ?_).trans ?_) | (simp [World.setCell]; done) | omega | (simp [World.setCell] <;> omega))) trivial) trivial) (HSL.out.keep (Below.agree (by (first | with_reducible assumption | (with_reducible refine Below.drew ?_; with_reducible assumption) | (with_reducible refine ba _ _ ?_; with_reducible assumption) | (with_reducible refine Below.drew ?_; with_reducible refine ba _ _ ?_; with_reducible assumption) | exact Below.refl _ _ | exact (Below.refl _ _).drew | exact (Below.refl _ _).alloc (Nat.le_refl _) _ | (refine bc _ _ (by assumption) (by assumption)))))) (HSG.out.keep (Below.agree (by (first | with_reducible assumption | (with_reducible refine Below.drew ?_; with_reducible assumption) | (with_reducible refine ba _ _ ?_; with_reducible assumption) | (with_reducible refine Below.drew ?_; with_reducible refine ba _ _ ?_; with_reducible assumption) | exact Below.refl _ _ | exact (Below.refl _ _).drew | exact (Below.refl _ _).alloc (Nat.le_refl _) _ | (refine bc _ _ (by assumption) (by assumption))))))).mono ?_; rintro e wC ⟨A, c, B, d, rfl, h1, h2, hbC⟩; have hkC := bc _ _ (by (first | with_reducible assumption | (with_reducible refine Below.drew ?_; with_reducible assumption) | (with_reducible refine ba _ _ ?_; with_reducible assumption) | (with_reducible refine Below.drew ?_; with_reducible refine ba _ _ ?_; with_reducible assumption) | exact Below.refl _ _ | exact (Below.refl _ _).drew | exact (Below.refl _ _).alloc (Nat.le_refl _) _ | (refine bc _ _ (by assumption) (by assumption)))) hbC; obtain ⟨hcC, hfC⟩ := bcell hbC; have hzC := hbC.size; (try simp at hzC); (try have hl0 : w9.heap.size < wC.heap.size := (by omega)); (try have hl3 : gO < wC.heap.size := (by omega)); (try have hl4 : gO + 1 < wC.heap.size := (by omega)); (try have hl5 : gO + 1 + 1 < wC.heap.size := (by omega)); (try have hn5 : gO + 1 + 1 + 1 < wC.heap.size := (by omega)); (try have hl1 : w9.heap.size + 1 < wC.heap.size := (by omega)); (try have hl2 : w9.heap.size + 1 + 1 < wC.heap.size := (by omega))
        refine hK.out _ _ ?_ (fun hHeld => ?_)
        · (first | (repeat' (first | with_reducible assumption | exact Nat.le_refl _ | with_reducible refine Below.setCell ?_ ?_ _ | with_reducible refine Below.drew ?_ | with_reducible refine ba _ _ ?_ | omega | (simp <;> omega))) | (first | with_reducible assumption | (with_reducible refine Below.drew ?_; with_reducible assumption) | (with_reducible refine ba _ _ ?_; with_reducible assumption) | (with_reducible refine Below.drew ?_; with_reducible refine ba _ _ ?_; with_reducible assumption) | exact Below.refl _ _ | exact (Below.refl _ _).drew | exact (Below.refl _ _).alloc (Nat.le_refl _) _ | (refine bc _ _ (by assumption) (by assumption))))
        clear hK K
        refine RegOk.put_ (m' := 255) (by kernel_rfl) ?_
        try simp only [Act.put, List.setIfInBounds_toArray, List.set_cons_zero, List.set_cons_succ]
        refine hR.come (rs := [8]) (by kernel_rfl) (by simp) ?_
        refine AllReadyH.cons (o := ?o730_8) ?h730_8 (fun K hK => ?kw730_8) AllReadyH.nil
        case h730_8 => simp only [List.getElem?_toArray, List.getElem?_cons_succ, List.getElem?_cons_zero]; rfl
        go_simp <;> (try go_wp2_with fail)
        refine hK.out _ _ ?_ (fun hHeld => ?_)
        · (first | (repeat' (first | with_reducible assumption | exact Nat.le_refl _ | with_reducible refine Below.setCell ?_ ?_ _ | with_reducible refine Below.drew ?_ | with_reducible refine ba _ _ ?_ | omega | (simp <;> omega))) | (first | with_reducible assumption | (with_reducible refine Below.drew ?_; with_reducible assumption) | (with_reducible refine ba _ _ ?_; with_reducible assumption) | (with_reducible refine Below.drew ?_; with_reducible refine ba _ _ ?_; with_reducible assumption) | exact Below.refl _ _ | exact (Below.refl _ _).drew | exact (Below.refl _ _).alloc (Nat.le_refl _) _ | (refine bc _ _ (by assumption) (by assumption))))
        clear hK K
        refine RegOk.put_ (m' := 511) (by kernel_rfl) ?_
        try simp only [Act.put, List.setIfInBounds_toArray, List.set_cons_zero, List.set_cons_succ]
        refine hR.all (by kernel_rfl) ?_ _
        refine NoPanic.normal ?_
        go_wp2_with fail
        go_meet
        case rel =>
          refine ⟨_, rfl, ⟨A, c, B, d, (by repeat' (first | with_reducible assumption | (with_reducible refine heap_alloc_at ?_; (first | rfl | omega | (simp [World.setCell]; done) | (simp [World.setCell]; omega))) | with_reducible refine set2 (a := .slice none 0 0) (b := .slice none 0 0) ?_ | (with_reducible refine (Below.heap_setCell _ _ _ _ ?_).trans ?_) | (with_reducible refine (Below.heap_alloc _ _ _ ?_).trans ?_) | (with_reducible refine drew_get2 ?_) | (with_reducible refine (hbC.block _ ?_).trans ?_) | (with_reducible refine (hbO.block _ ?_).trans ?_) | (simp [World.setCell]; done) | omega | (simp [World.setCell] <;> omega))), ?_, ?_⟩, by assumption⟩
          · (first | (with_reducible refine Sl.sub (Sl.alloc_ h1 _) ?_; exact (fun _ _ _ => trivial)) | (refine Sl.two_ h1 ?_; rintro ⟨a, b⟩; simp at a; omega))
          · (first | (with_reducible refine Sl.sub (Sl.alloc_ h2 _) ?_; exact (fun _ _ _ => trivial)) | (refine Sl.two_ h2 ?_; rintro ⟨a, b⟩; simp at a; omega))
      case kw725_2 =>
        go_simp <;> (try go_wp2_with fail)
        refine hK.out _ _ ?_ (fun hHeld => ?_)
        · (first | (repeat' (first | with_reducible assumption | exact Nat.le_refl _ | with_reducible refine Below.setCell ?_ ?_ _ | with_reducible refine Below.drew ?_ | with_reducible refine ba _ _ ?_ | omega | (simp <;> omega))) | (first | with_reducible assumption | (with_reducible refine Below.drew ?_; with_reducible assumption) | (with_reducible refine ba _ _ ?_; with_reducible assumption) | (with_reducible refine Below.drew ?_; with_reducible refine ba _ _ ?_; with_reducible assumption) | exact Below.refl _ _ | exact (Below.refl _ _).drew | exact (Below.refl _ _).alloc (Nat.le_refl _) _ | (refine bc _ _ (by assumption) (by assumption))))
        clear hK K
        refine RegOk.put_ (m' := 166) (by kernel_rfl) ?_
        try simp only [Act.put, List.setIfInBounds_toArray, List.set_cons_zero, List.set_cons_succ]
        refine hR.come (rs := [0]) (by kernel_rfl) (by simp) ?_
        refine AllReadyH.cons (o := ?o731_0) ?h731_0 (fun K hK => ?kw731_0) AllReadyH.nil
        case h731_0 => simp only [List.getElem?_toArray, List.getElem?_cons_succ, List.getElem?_cons_zero]; rfl
        go_simp
        go_at_call 29; refine (onlyL15 _ _ _).mono ?_; rintro e wO ⟨gO, rfl, hO, hzO, hbO⟩; have hkO := bc _ _ (by (first | with_reducible assumption | (with_reducible refine Below.drew ?_; with_reducible assumption) | (with_reducible refine ba _ _ ?_; with_reducible assumption) | (with_reducible refine Below.drew ?_; with_reducible refine ba _ _ ?_; with_reducible assumption) | exact Below.refl _ _ | exact (Below.refl _ _).drew | exact (Below.refl _ _).alloc (Nat.le_refl _) _ | (refine bc _ _ (by assumption) (by assumption)))) hbO; obtain ⟨hcO, hfO⟩ := bcell hbO; have hzP := hbO.size; (try simp at hzP); (try have hl6 : w9.heap.size < wO.heap.size := (by omega)); (try have hl7 : w9.heap.size < gO + 1 := (by omega)); (try have hl8 : w9.heap.size < gO + 1 + 1 := (by omega)); (try have hl9 : w9.heap.size < gO + 1 + 1 + 1 := (by omega)); (try have hm6 : w9.heap.size + 1 < wO.heap.size := (by omega)); (try have hm7 : w9.heap.size + 1 < gO + 1 := (by omega)); (try have hm8 : w9.heap.size + 1 < gO + 1 + 1 := (by omega)); (try have hm9 : w9.heap.size + 1 < gO + 1 + 1 + 1 := (by omega)); have HO := Lib.hid hO; clear hO
        refine hK.out _ _ ?_ (fun hHeld => ?_)
        · (first | (repeat' (first | with_reducible assumption | exact Nat.le_refl _ | with_reducible refine Below.setCell ?_ ?_ _ | with_reducible refine Below.drew ?_ | with_reducible refine ba _ _ ?_ | omega | (simp <;> omega))) | (first | with_reducible assumption | (with_reducible refine Below.drew ?_; with_reducible assumption) | (with_reducible refine ba _ _ ?_; with_reducible assumption) | (with_reducible refine Below.drew ?_; with_reducible refine ba _ _ ?_; with_reducible assumption) | exact Below.refl _ _ | exact (Below.refl _ _).drew | exact (Below.refl _ _).alloc (Nat.le_refl _) _ | (refine bc _ _ (by assumption) (by assumption))))
        clear hK K
        refine RegOk.put_ (m' := 167) (by kernel_rfl) ?_
        try simp only [Act.put, List.setIfInBounds_toArray, List.set_cons_zero, List.set_cons_succ]
        refine hR.come (rs := [3]) (by kernel_rfl) (by simp) ?_
        refine AllReadyH.cons (o := ?o732_3) ?h732_3 (fun K hK => ?kw732_3) AllReadyH.nil
        case h732_3 => simp only [List.getElem?_toArray, List.getElem?_cons_succ, List.getElem?_cons_zero]; rfl
        go_simp <;> (try go_wp2_with fail)
        refine hK.out _ _ ?_ (fun hHeld => ?_)
        · (first | (repeat' (first | with_reducible assumption | exact Nat.le_refl _ | with_reducible refine Below.setCell ?_ ?_ _ | with_reducible refine Below.drew ?_ | with_reducible refine ba _ _ ?_ | omega | (simp <;> omega))) | (first | with_reducible assumption | (with_reducible refine Below.drew ?_; with_reducible assumption) | (with_reducible refine ba _ _ ?_; with_reducible assumption) | (with_reducible refine Below.drew ?_; with_reducible refine ba _ _ ?_; with_reducible assumption) | exact Below.refl _ _ | exact (Below.refl _ _).drew | exact (Below.refl _ _).alloc (Nat.le_refl _) _ | (refine bc _ _ (by assumption) (by assumption))))
        clear hK K
        refine RegOk.put_ (m' := 175) (by kernel_rfl) ?_
        try simp only [Act.put, List.setIfInBounds_toArray, List.set_cons_zero, List.set_cons_succ]
        refine hR.take (i := 4) (oi := ?ow733_4) (v := ?vw733_4) (m' := 191) ?hw733_4 (by kernel_rfl) (by kernel_rfl) (fun _ _ _ h => h) (Or.inl ⟨?sw733_4, ?yw733_4⟩) (by assumption) ?nw733_4
        case hw733_4 => simp only [List.getElem?_toArray, List.getElem?_cons_succ, List.getElem?_cons_zero]; rfl
        case sw733_4 => rfl
        case yw733_4 => (intro w hSw; (try dsimp only at hSw); go_simp <;> with_reducible rfl)
        try simp only [Act.put, List.setIfInBounds_toArray, List.set_cons_zero, List.set_cons_succ]
        refine hR.come (rs := [6]) (by kernel_rfl) (by simp) ?_
        refine AllReadyH.cons (o := ?o734_6) ?h734_6 (fun K hK => ?kw734_6) AllReadyH.nil
        case h734_6 => simp only [List.getElem?_toArray, List.getElem?_cons_succ, List.getElem?_cons_zero]; rfl
        go_simp
        go_at_call 15; refine (answerN (q := q7) (s := s15) (n := 32) (m := 1) q7_xs q7_ys rfl rfl rfl rfl rfl _ (qv_ok q7_ok).1 (qv_ok q7_ok).2 ok15 (by decide) (sl_fs2N (S := fun _ => True) (n := 1) (m := 1) (t := 49) (l := [⟨2, 5, 5⟩]) (k := [⟨2, 5, 6⟩]) rfl rfl (by repeat' (first | with_reducible assumption | (with_reducible refine heap_alloc_at ?_; (first | rfl | omega | (simp [World.setCell]; done) | (simp [World.setCell]; omega))) | with_reducible refine set2 (a := .slice none 0 0) (b := .slice none 0 0) ?_ | (with_reducible refine (Below.heap_setCell _ _ _ _ ?_).trans ?_) | (with_reducible refine (Below.heap_alloc _ _ _ ?_).trans ?_) | (with_reducible refine drew_get2 ?_) | (with_reducible refine (hbC.block _ ?_).trans ?_) | (with_reducible refine (hbO.block _ ?_).trans ?_) | (simp [World.setCell]; done) | omega | (simp [World.setCell] <;> omega))) (by repeat' (first | with_reducible refine Sl.alloc_ ?_ _ | with_reducible refine Sl.drew ?_ | exact HO.out)) (sl_cd1 (t := 58) (x := ⟨2, 5, 6⟩) (by repeat' (first | with_reducible assumption | (with_reducible refine heap_alloc_at ?_; (first | rfl | omega | (simp [World.setCell]; done) | (simp [World.setCell]; omega))) | with_reducible refine set2 (a := .slice none 0 0) (b := .slice none 0 0) ?_ | (with_reducible refine (Below.heap_setCell _ _ _ _ ?_).trans ?_) | (with_reducible refine (Below.heap_alloc _ _ _ ?_).trans ?_) | (with_reducible refine drew_get2 ?_) | (with_reducible refine (hbC.block _ ?_).trans ?_) | (with_reducible refine (hbO.block _ ?_).trans ?_) | (simp [World.setCell]; done) | omega | (simp [World.setCell] <;> omega))) trivial) trivial) (HSL.out.keep (Below.agree (by (first | with_reducible assumption | (with_reducible refine Below.drew ?_; with_reducible assumption) | (with_reducible refine ba _ _ ?_; with_reducible assumption) | (with_reducible refine Below.drew ?_; with_reducible refine ba _ _ ?_; with_reducible assumption) | exact Below.refl _ _ | exact (Below.refl _ _).drew | exact (Below.refl _ _).alloc (Nat.le_refl _) _ | (refine bc _ _ (by assumption) (by assumption)))))) (HSG.out.keep (Below.agree (by (first | with_reducible assumption | (with_reducible refine Below.drew ?_; with_reducible assumption) | (with_reducible refine ba _ _ ?_; with_reducible assumption) | (with_reducible refine Below.drew ?_; with_reducible refine ba _ _ ?_; with_reducible assumption) | exact Below.refl _ _ | exact (Below.refl _ _).drew | exact (Below.refl _ _).alloc (Nat.le_refl _) _ | (refine bc _ _ (by assumption) (by assumption))))))).mono ?_; rintro e wC ⟨A, c, B, d, rfl, h1, h2, hbC⟩; have hkC := bc _ _ (by (first | with_reducible assumption | (with_reducible refine Below.drew ?_; with_reducible assumption) | (with_reducible refine ba _ _ ?_; with_reducible assumption) | (with_reducible refine Below.drew ?_; with_reducible refine ba _ _ ?_; with_reducible assumption) | exact Below.refl _ _ | exact (Below.refl _ _).drew | exact (Below.refl _ _).alloc (Nat.le_refl _) _ | (refine bc _ _ (by assumption) (by assumption)))) hbC; obtain ⟨hcC, hfC⟩ := bcell hbC; have hzC := hbC.size; (try simp at hzC); (try have hl0 : w9.heap.size < wC.heap.size := (by omega)); (try have hl3 : gO < wC.heap.size := (by omega)); (try have hl4 : gO + 1 < wC.heap.size := (by omega)); (try have hl5 : gO + 1 + 1 < wC.heap.size := (by omega)); (try have hn5 : gO + 1 + 1 + 1 < wC.heap.size := (by omega)); (try have hl1 : w9.heap.size + 1 < wC.heap.size := (by omega)); (try have hl2 : w9.heap.size + 1 + 1 < wC.heap.size := (by omega))
        refine hK.out _ _ ?_ (fun hHeld => ?_)
        · (first | (repeat' (first | with_reducible assumption | exact Nat.le_refl _ | with_reducible refine Below.setCell ?_ ?_ _ | with_reducible refine Below.drew ?_ | with_reducible refine ba _ _ ?_ | omega | (simp <;> omega))) | (first | with_reducible assumption | (with_reducible refine Below.drew ?_; with_reducible assumption) | (with_reducible refine ba _ _ ?_; with_reducible assumption) | (with_reducible refine Below.drew ?_; with_reducible refine ba _ _ ?_; with_reducible assumption) | exact Below.refl _ _ | exact (Below.refl _ _).drew | exact (Below.refl _ _).alloc (Nat.le_refl _) _ | (refine bc _ _ (by assumption) (by assumption))))
        clear hK K
        refine RegOk.put_ (m' := 255) (by kernel_rfl) ?_
        try simp only [Act.put, List.setIfInBounds_toArray, List.set_cons_zero, List.set_cons_succ]
        refine hR.come (rs := [8]) (by kernel_rfl) (by simp) ?_
        refine AllReadyH.cons (o := ?o735_8) ?h735_8 (fun K hK => ?kw735_8) AllReadyH.nil
        case h735_8 => simp only [List.getElem?_toArray, List.getElem?_cons_succ, List.getElem?_cons_zero]; rfl
        go_simp <;> (try go_wp2_with fail)
        refine hK.out _ _ ?_ (fun hHeld => ?_)
        · (first | (repeat' (first | with_reducible assumption | exact Nat.le_refl _ | with_reducible refine Below.setCell ?_ ?_ _ | with_reducible refine Below.drew ?_ | with_reducible refine ba _ _ ?_ | omega | (simp <;> omega))) | (first | with_reducible assumption | (with_reducible refine Below.drew ?_; with_reducible assumption) | (with_reducible refine ba _ _ ?_; with_reducible assumption) | (with_reducible refine Below.drew ?_; with_reducible refine ba _ _ ?_; with_reducible assumption) | exact Below.refl _ _ | exact (Below.refl _ _).drew | exact (Below.refl _ _).alloc (Nat.le_refl _) _ | (refine bc _ _ (by assumption) (by assumption))))
        clear hK K
        refine RegOk.put_ (m' := 511) (by kernel_rfl) ?_
        try simp only [Act.put, List.setIfInBounds_toArray, List.set_cons_zero, List.set_cons_succ]
        refine hR.all (by kernel_rfl) ?_ _
        refine NoPanic.normal ?_
        go_wp2_with fail
        go_meet
        case rel =>
          refine ⟨_, rfl, ⟨A, c, B, d, (by repeat' (first | with_reducible assumption | (with_reducible refine heap_alloc_at ?_; (first | rfl | omega | (simp [World.setCell]; done) | (simp [World.setCell]; omega))) | with_reducible refine set2 (a := .slice none 0 0) (b := .slice none 0 0) ?_ | (with_reducible refine (Below.heap_setCell _ _ _ _ ?_).trans ?_) | (with_reducible refine (Below.heap_alloc _ _ _ ?_).trans ?_) | (with_reducible refine drew_get2 ?_) | (with_reducible refine (hbC.block _ ?_).trans ?_) | (with_reducible refine (hbO.block _ ?_).trans ?_) | (simp [World.setCell]; done) | omega | (simp [World.setCell] <;> omega))), ?_, ?_⟩, by assumption⟩
          · (first | (with_reducible refine Sl.sub (Sl.alloc_ h1 _) ?_; exact (fun _ _ _ => trivial)) | (refine Sl.two_ h1 ?_; rintro ⟨a, b⟩; simp at a; omega))
          · (first | (with_reducible refine Sl.sub (Sl.alloc_ h2 _) ?_; exact (fun _ _ _ => trivial)) | (refine Sl.two_ h2 ?_; rintro ⟨a, b⟩; simp at a; omega))
  obtain ⟨g10, rfl, ha, hb⟩ := hcut
  obtain ⟨w10, hwv⟩ : ∃ x, x = wc := ⟨_, rfl⟩
  subst hwv
  have A10 := Lib.hid ha
  replace S1 := mvSt S1 hb
  replace XF := mvF XF hb
  replace A4 := mvAn A4 hb
  replace A5 := mvAn A5 hb
  replace A6 := mvAn A6 hb
  replace A7 := mvAn A7 hb
  replace A8 := mvAn A8 hb
  replace A9 := mvAn A9 hb
  have b10 := Lib.hid (b9.out.trans (hb.mono b9.out.size))
  clear ha hb b9 zs br ba bc HG1 HSL HSG lg S2
  obtain ⟨L, cl, G, cg, hg, hsL, hsG⟩ := S1.out
  obtain ⟨s0, s1⟩ := two2 (Lib.hid hg)
  have HSL := Lib.hid hsL
  have HSG := Lib.hid hsG
  clear hg hsL hsG
  go_upto_region 11 with fail
  go_cut [11] (fun v wx => ∃ A c, v = .slice A 16 c ∧ Sl .i64 (fun _ => True) wx A c cnt15 ∧ Below w10.heap.size w10 wx)
  case first =>
    go_wp2_with (go_at_call 13; refine (sumsN (q := q8) (s := s15) q8_xs rfl rfl rfl rfl _ (qv_ok q8_ok).1 (qv_ok q8_ok).2 ok15 (by decide) XF.out HSL.out HSG.out).mono ?_; rintro e wC ⟨A, c, rfl, h1, hbC⟩; have H1 := Lib.hid h1; have bC := Lib.hid hbC; clear h1 hbC)
    go_meet
    case rel => exact ⟨_, _, rfl, H1.out.sub (fun _ _ _ => trivial), bC.out⟩
  obtain ⟨A11, c11, rfl, hs11, hb⟩ := hcut
  obtain ⟨w11, hwv⟩ : ∃ x, x = wc := ⟨_, rfl⟩
  subst hwv
  have H11 := Lib.hid hs11
  replace A4 := mvAn A4 hb
  replace A5 := mvAn A5 hb
  replace A6 := mvAn A6 hb
  replace A7 := mvAn A7 hb
  replace A8 := mvAn A8 hb
  replace A9 := mvAn A9 hb
  replace A10 := mvAn A10 hb
  have b11 := Lib.hid (b10.out.trans (hb.mono b10.out.size))
  clear hs11 hb b10 S1 XF HSL HSG s0 s1
  as_aux_lemma =>
  obtain ⟨P4, p4, Q4, r4, y, sA, sB⟩ := A4.out
  have Y4 := Lib.hid y
  have SA4 := Lib.hid sA
  have SB4 := Lib.hid sB
  clear y sA sB A4
  obtain ⟨P5, p5, Q5, r5, y, sA, sB⟩ := A5.out
  have Y5 := Lib.hid y
  have SA5 := Lib.hid sA
  have SB5 := Lib.hid sB
  clear y sA sB A5
  obtain ⟨P6, p6, Q6, r6, y, sA, sB⟩ := A6.out
  have Y6 := Lib.hid y
  have SA6 := Lib.hid sA
  have SB6 := Lib.hid sB
  clear y sA sB A6
  obtain ⟨P7, p7, Q7, r7, y, sA, sB⟩ := A7.out
  have Y7 := Lib.hid y
  have SA7 := Lib.hid sA
  have SB7 := Lib.hid sB
  clear y sA sB A7
  obtain ⟨P8, p8, Q8, r8, y, sA, sB⟩ := A8.out
  have Y8 := Lib.hid y
  have SA8 := Lib.hid sA
  have SB8 := Lib.hid sB
  clear y sA sB A8
  obtain ⟨P9, p9, Q9, r9, y, sA, sB⟩ := A9.out
  have Y9 := Lib.hid y
  have SA9 := Lib.hid sA
  have SB9 := Lib.hid sB
  clear y sA sB A9
  obtain ⟨P10, p10, Q10, r10, y, sA, sB⟩ := A10.out
  have Y10 := Lib.hid y
  have SA10 := Lib.hid sA
  have SB10 := Lib.hid sB
  clear y sA sB A10
  have z4 : ∀ W, Below w11.heap.size w11 W → _ ∧ _ ∧ _ := fun W hW => zAn Y4 hW
  have z5 : ∀ W, Below w11.heap.size w11 W → _ ∧ _ ∧ _ := fun W hW => zAn Y5 hW
  have z6 : ∀ W, Below w11.heap.size w11 W → _ ∧ _ ∧ _ := fun W hW => zAn Y6 hW
  have z7 : ∀ W, Below w11.heap.size w11 W → _ ∧ _ ∧ _ := fun W hW => zAn Y7 hW
  have z8 : ∀ W, Below w11.heap.size w11 W → _ ∧ _ ∧ _ := fun W hW => zAn Y8 hW
  have z9 : ∀ W, Below w11.heap.size w11 W → _ ∧ _ ∧ _ := fun W hW => zAn Y9 hW
  have z10 : ∀ W, Below w11.heap.size w11 W → _ ∧ _ ∧ _ := fun W hW => zAn Y10 hW
  obtain ⟨b7, o7, e7, -, l7, v7⟩ := i64_at SA7.out (i := 5) (r := 2) rfl
  obtain ⟨b7', o7', e7', -, l7', v7'⟩ := i64_at SA7.out (i := 6) (r := 1) rfl
  obtain ⟨b0, o0, e0, -, l0, v0⟩ := i64_at SA10.out (i := 1) (r := 1) rfl
  obtain ⟨b0', o0', e0', -, l0', v0'⟩ := i64_at SA10.out (i := 17) (r := 2) rfl
  obtain ⟨b1, o1, e1, -, l1, v1⟩ := i64_at H11.out (i := 5) (r := 2) rfl
  obtain ⟨b1', o1', e1', -, l1', v1'⟩ := i64_at H11.out (i := 6) (r := 1) rfl
  obtain ⟨b1q, o1q, e1q, -, l1q, v1q⟩ := i64_at H11.out (i := 4) (r := 0) rfl
  obtain ⟨rfl, rfl⟩ : b7' = b7 ∧ o7' = o7 := by rw [e7] at e7'; injection e7' with h; injection h with h1 h2; exact ⟨h1.symm, h2.symm⟩
  obtain ⟨rfl, rfl⟩ : b0' = b0 ∧ o0' = o0 := by rw [e0] at e0'; injection e0' with h; injection h with h1 h2; exact ⟨h1.symm, h2.symm⟩
  obtain ⟨rfl, rfl⟩ : b1' = b1 ∧ o1' = o1 := by rw [e1] at e1'; injection e1' with h; injection h with h1 h2; exact ⟨h1.symm, h2.symm⟩
  obtain ⟨rfl, rfl⟩ : b1q = b1' ∧ o1q = o1' := by rw [e1] at e1q; injection e1q with h; injection h with h1 h2; exact ⟨h1.symm, h2.symm⟩
  clear e7' e0' e1' e1q
  subst e7; subst e0; subst e1
  have hold2 : ∀ (b o : Nat) (u : Value), w11.cell? ⟨b, o, none⟩ = some u → ∀ W, Below w11.heap.size w11 W → W.cell? ⟨b, o, none⟩ = some u ∧ b < W.heap.size := fun b o u h W hW => ⟨(hW.cell (p := ⟨b, o, none⟩) (World.block_lt_of_cell? _ _ h)).trans h, Nat.lt_of_lt_of_le (World.block_lt_of_cell? _ _ h) hW.size⟩
  have HH2 := Lib.hid hold2
  clear hold2
  have yv7 : ∀ W, Below w11.heap.size w11 W → _ ∧ _ := HH2.out _ _ _ v7
  have yv7' : ∀ W, Below w11.heap.size w11 W → _ ∧ _ := HH2.out _ _ _ v7'
  have yv0 : ∀ W, Below w11.heap.size w11 W → _ ∧ _ := HH2.out _ _ _ v0
  have yv0' : ∀ W, Below w11.heap.size w11 W → _ ∧ _ := HH2.out _ _ _ v0'
  have yv1 : ∀ W, Below w11.heap.size w11 W → _ ∧ _ := HH2.out _ _ _ v1
  have yv1' : ∀ W, Below w11.heap.size w11 W → _ ∧ _ := HH2.out _ _ _ v1'
  have yv1q : ∀ W, Below w11.heap.size w11 W → _ ∧ _ := HH2.out _ _ _ v1q
  have br : Below w11.heap.size w11 w11 := Below.refl _ _
  have ba : ∀ W o, Below w11.heap.size w11 W → Below w11.heap.size w11 (W.alloc o) := fun W o h => h.alloc h.size o
  have bc : ∀ W W', Below w11.heap.size w11 W → Below W.heap.size W W' → Below w11.heap.size w11 W' := fun W W' h k => h.trans (k.mono h.size)
  clear v7 v7' v0 v0' v1 v1' v1q l7 l7' l0 l0' l1 l1' l1q
  (first | go_values | go_skip | go_guarded | go_step | go_upon | go_back)
  (first | go_values | go_skip | go_guarded | go_step | go_upon | go_back)
  go_wp2_with (first
    | (go_at_call 17; ((with_reducible refine (same15N (A := P4) (xs := [2]) (n := 1) (S := fun _ => True) (T := fun _ => True) rfl _ ?ha0 ?hb0).mono ?hc0)); (case ha0 => repeat' (first | with_reducible exact SA4.out | with_reducible refine Sl.alloc_ ?_ _ | with_reducible refine Sl.call_ ?_ (by with_reducible assumption))); (case hb0 => exact Sl.litAt (S := fun _ => True) (T := fun _ => True) rfl (.single rfl) (by unfold maxLen; simp) (fun _ _ _ => trivial) trivial); rintro e wS0 ⟨rfl, hS0⟩; have hkS0 := bc _ _ (by (first | with_reducible assumption | (with_reducible refine Below.drew ?_; with_reducible assumption) | (with_reducible refine ba _ _ ?_; with_reducible assumption) | (with_reducible refine Below.drew ?_; with_reducible refine ba _ _ ?_; with_reducible assumption) | exact Below.refl _ _ | exact (Below.refl _ _).drew | exact (Below.refl _ _).alloc (Nat.le_refl _) _ | (refine bc _ _ (by assumption) (by assumption)))) hS0)
    | (go_at_call 17; ((with_reducible refine (same15N (A := Q4) (xs := [2]) (n := 1) (S := fun _ => True) (T := fun _ => True) rfl _ ?ha1 ?hb1).mono ?hc1)); (case ha1 => repeat' (first | with_reducible exact SB4.out | with_reducible refine Sl.alloc_ ?_ _ | with_reducible refine Sl.call_ ?_ (by with_reducible assumption))); (case hb1 => exact Sl.litAt (S := fun _ => True) (T := fun _ => True) rfl (.single rfl) (by unfold maxLen; simp) (fun _ _ _ => trivial) trivial); rintro e wS1 ⟨rfl, hS1⟩; have hkS1 := bc _ _ (by (first | with_reducible assumption | (with_reducible refine Below.drew ?_; with_reducible assumption) | (with_reducible refine ba _ _ ?_; with_reducible assumption) | (with_reducible refine Below.drew ?_; with_reducible refine ba _ _ ?_; with_reducible assumption) | exact Below.refl _ _ | exact (Below.refl _ _).drew | exact (Below.refl _ _).alloc (Nat.le_refl _) _ | (refine bc _ _ (by assumption) (by assumption)))) hS1)
    | (go_at_call 17; ((with_reducible refine (same15N (A := Q5) (xs := [500]) (n := 1) (S := fun _ => True) (T := fun _ => True) rfl _ ?ha2 ?hb2).mono ?hc2)); (case ha2 => repeat' (first | with_reducible exact SB5.out | with_reducible refine Sl.alloc_ ?_ _ | with_reducible refine Sl.call_ ?_ (by with_reducible assumption))); (case hb2 => exact Sl.litAt (S := fun _ => True) (T := fun _ => True) rfl (.single rfl) (by unfold maxLen; simp) (fun _ _ _ => trivial) trivial); rintro e wS2 ⟨rfl, hS2⟩; have hkS2 := bc _ _ (by (first | with_reducible assumption | (with_reducible refine Below.drew ?_; with_reducible assumption) | (with_reducible refine ba _ _ ?_; with_reducible assumption) | (with_reducible refine Below.drew ?_; with_reducible refine ba _ _ ?_; with_reducible assumption) | exact Below.refl _ _ | exact (Below.refl _ _).drew | exact (Below.refl _ _).alloc (Nat.le_refl _) _ | (refine bc _ _ (by assumption) (by assumption)))) hS2)
    | (go_at_call 17; ((with_reducible refine (same15N (A := Q6) (xs := [50]) (n := 1) (S := fun _ => True) (T := fun _ => True) rfl _ ?ha3 ?hb3).mono ?hc3)); (case ha3 => repeat' (first | with_reducible exact SB6.out | with_reducible refine Sl.alloc_ ?_ _ | with_reducible refine Sl.call_ ?_ (by with_reducible assumption))); (case hb3 => exact Sl.litAt (S := fun _ => True) (T := fun _ => True) rfl (.single rfl) (by unfold maxLen; simp) (fun _ _ _ => trivial) trivial); rintro e wS3 ⟨rfl, hS3⟩; have hkS3 := bc _ _ (by (first | with_reducible assumption | (with_reducible refine Below.drew ?_; with_reducible assumption) | (with_reducible refine ba _ _ ?_; with_reducible assumption) | (with_reducible refine Below.drew ?_; with_reducible refine ba _ _ ?_; with_reducible assumption) | exact Below.refl _ _ | exact (Below.refl _ _).drew | exact (Below.refl _ _).alloc (Nat.le_refl _) _ | (refine bc _ _ (by assumption) (by assumption)))) hS3)
    | (go_at_call 17; ((with_reducible refine (same15N (A := Q7) (xs := [2]) (n := 1) (S := fun _ => True) (T := fun _ => True) rfl _ ?ha4 ?hb4).mono ?hc4)); (case ha4 => repeat' (first | with_reducible exact SB7.out | with_reducible refine Sl.alloc_ ?_ _ | with_reducible refine Sl.call_ ?_ (by with_reducible assumption))); (case hb4 => exact Sl.litAt (S := fun _ => True) (T := fun _ => True) rfl (.single rfl) (by unfold maxLen; simp) (fun _ _ _ => trivial) trivial); rintro e wS4 ⟨rfl, hS4⟩; have hkS4 := bc _ _ (by (first | with_reducible assumption | (with_reducible refine Below.drew ?_; with_reducible assumption) | (with_reducible refine ba _ _ ?_; with_reducible assumption) | (with_reducible refine Below.drew ?_; with_reducible refine ba _ _ ?_; with_reducible assumption) | exact Below.refl _ _ | exact (Below.refl _ _).drew | exact (Below.refl _ _).alloc (Nat.le_refl _) _ | (refine bc _ _ (by assumption) (by assumption)))) hS4)
    | (go_at_call 17; ((with_reducible refine (same15N (A := Q8) (xs := [6]) (n := 1) (S := fun _ => True) (T := fun _ => True) rfl _ ?ha5 ?hb5).mono ?hc5)); (case ha5 => repeat' (first | with_reducible exact SB8.out | with_reducible refine Sl.alloc_ ?_ _ | with_reducible refine Sl.call_ ?_ (by with_reducible assumption))); (case hb5 => exact Sl.litAt (S := fun _ => True) (T := fun _ => True) rfl (.single rfl) (by unfold maxLen; simp) (fun _ _ _ => trivial) trivial); rintro e wS5 ⟨rfl, hS5⟩; have hkS5 := bc _ _ (by (first | with_reducible assumption | (with_reducible refine Below.drew ?_; with_reducible assumption) | (with_reducible refine ba _ _ ?_; with_reducible assumption) | (with_reducible refine Below.drew ?_; with_reducible refine ba _ _ ?_; with_reducible assumption) | exact Below.refl _ _ | exact (Below.refl _ _).drew | exact (Below.refl _ _).alloc (Nat.le_refl _) _ | (refine bc _ _ (by assumption) (by assumption)))) hS5)
    | (go_at_call 17; ((with_reducible refine (same15N (A := Q10) (xs := [3]) (n := 1) (S := fun _ => True) (T := fun _ => True) rfl _ ?ha6 ?hb6).mono ?hc6)); (case ha6 => repeat' (first | with_reducible exact SB10.out | with_reducible refine Sl.alloc_ ?_ _ | with_reducible refine Sl.call_ ?_ (by with_reducible assumption))); (case hb6 => exact Sl.litAt (S := fun _ => True) (T := fun _ => True) rfl (.single rfl) (by unfold maxLen; simp) (fun _ _ _ => trivial) trivial); rintro e wS6 ⟨rfl, hS6⟩; have hkS6 := bc _ _ (by (first | with_reducible assumption | (with_reducible refine Below.drew ?_; with_reducible assumption) | (with_reducible refine ba _ _ ?_; with_reducible assumption) | (with_reducible refine Below.drew ?_; with_reducible refine ba _ _ ?_; with_reducible assumption) | exact Below.refl _ _ | exact (Below.refl _ _).drew | exact (Below.refl _ _).alloc (Nat.le_refl _) _ | (refine bc _ _ (by assumption) (by assumption)))) hS6))
  go_ret
  exact ⟨rfl, b11.out.trans (hkS6.mono b11.out.size)⟩
end Go.Proofs.YtmkpaolbejlodaaDoor
