/-
  Texts of this claim, merged: Q5. Conditions: as each theorem says.
-/
import Derived.Test.YtmkpaolbejlodaaDoorC1
import Derived.Test.YtmkpaolbejlodaaDoorC2
import Derived.Test.YtmkpaolbejlodaaDoorC3
set_option linter.unusedSimpArgs false
set_option linter.unusedVariables false
namespace Go.Proofs.YtmkpaolbejlodaaDoor
open Go.RowKit

theorem not_cd {l : List Cd} {c : Cd} (h : c ∈ l) (hc : validCdB c = false) : validFltB l = false := by
  unfold validFltB
  rw [Bool.and_eq_false_iff]
  exact .inr (List.all_eq_false.2 ⟨c, h, by simp [hc]⟩)
def q5A : List FRow := [(0, ([], (14, [0]))), (1, ([], (15, [3]))), (2, ([0, 1], (16, [13, 14]))), (3, ([2], (17, [15]))), (4, ([3], (18, [16]))), (5, ([4], (19, [17]))), (6, ([5], (20, [18]))), (7, ([6], (21, [0, 19]))), (8, ([6], (22, [3, 19]))), (9, ([7, 8, 6], (23, [20, 21, 19]))), (10, ([9, 6], (24, [22, 19]))), (11, ([10, 6], (25, [23, 19]))), (12, ([11, 6], (26, [24, 19]))), (13, ([6, 12], (27, [19, 25]))), (14, ([13, 6], (28, [26]))), (15, ([14], (29, [0, 27]))), (16, ([14], (30, [3, 27]))), (17, ([15, 16, 14], (31, [28, 29, 27]))), (18, ([17, 14], (32, [30, 27]))), (19, ([18, 14], (33, [31, 27]))), (20, ([19, 14], (34, [32, 27]))), (21, ([14, 20], (35, [27, 33]))), (22, ([21, 14], (36, [34]))), (23, ([22], (37, [0, 35]))), (24, ([22], (38, [3, 35]))), (25, ([23, 24, 22], (39, [36, 37, 35]))), (26, ([25, 22], (40, [38, 35]))), (27, ([26, 22], (41, [39, 35]))), (28, ([22], (42, [0, 35]))), (29, ([22], (43, [3, 35]))), (30, ([28, 29, 22], (44, [41, 42, 35]))), (31, ([30, 22], (45, [43, 35]))), (32, ([31, 22], (46, [44, 35]))), (33, ([27, 32, 22], (47, [40, 45, 35]))), (34, ([22, 33], (48, [35, 46]))), (35, ([34, 22], (49, [47]))), (36, ([35], (50, [0, 48]))), (37, ([35], (51, [3, 48]))), (38, ([36, 37, 35], (52, [49, 50, 48]))), (39, ([38, 35], (53, [51, 48]))), (40, ([39, 35], (54, [52, 48]))), (41, ([35], (55, [0, 48]))), (42, ([35], (56, [3, 48]))), (43, ([41, 42, 35], (57, [54, 55, 48]))), (44, ([43, 35], (58, [56, 48]))), (45, ([44, 35], (59, [57, 48]))), (46, ([45, 35, 35], (60, [58, 48]))), (47, ([40, 46, 35], (61, [53, 59, 48]))), (48, ([35, 47], (62, [48, 60])))]
set_option maxRecDepth 100000 in
set_option maxHeartbeats 4000000 in
theorem validFltRef {l : List Cd} {A : Option Addr} {c : Nat} {S : Nat → Prop} (w : World) (h : Sl cdE S w A c l) :
    Calls Tryd.prog 61 #[.slice A l.length c] w fun e w' => e = .returned (.bool (validFltB l)) ∧ Below w.heap.size w w' := by
  have hm := h.max
  have H := Lib.hid h
  clear h
  by_cases h3 : l.length ≤ 3
  rotate_left
  · have h3' : (3 < (l.length : Int)) := by omega
    have hv := Lib.hid (show validFltB l = false by unfold validFltB; rw [decide_eq_false h3]; rfl)
    go_enter Tryd.func61, Tryd.ntmps61
    go_wp2_with fail
    go_ret
    exact ⟨ret_b hv.out.symm, Below.refl _ _⟩
  have h3' : ¬ (3 < (l.length : Int)) := by omega
  go_enter Tryd.func61, Tryd.ntmps61
  go_wp2_with fail
  go_loopw [3] (fun i wr => ∃ j : Nat, j ≤ l.length ∧ i = .int .i64 j ∧ (l.take j).all validCdB = true ∧ Below w.heap.size w wr) (fun i _ => l.length - (intOf i).toNat)
  case atStart => exact ⟨0, Nat.zero_le _, rfl, rfl, Below.refl _ _⟩
  case round =>
    obtain ⟨j, hj, rfl, ha, hb⟩ := hrel
    have Ha := Lib.hid ha
    have Hb := Lib.hid hb
    have hj0 : (0 : Int) ≤ (j : Int) := by omega
    by_cases hlt : j < l.length
    · obtain ⟨x, hx⟩ : ∃ x, l[j]? = some x := ⟨_, List.getElem?_eq_getElem hlt⟩
      obtain ⟨b1, o1, e1, -, l1, x0, x1, x2⟩ := cd_at (H.out.keep (Below.agree hb)) hx
      subst e1
      have hj1 : (j : Int) < (l.length : Int) := by omega
      have hn : (l.take (j + 1)).all validCdB = ((l.take j).all validCdB && validCdB x) := by rw [take_snocR hx]; simp
      have Hn := Lib.hid hn
      have Hx := Lib.hid hx
      have z0 := hold x0
      have z1 := hold x1
      have z2 := hold x2
      have br : Below wr.heap.size wr wr := Below.refl _ _
      have ba : ∀ W o, Below wr.heap.size wr W → Below wr.heap.size wr (W.alloc o) := fun W o h => h.alloc h.size o
      have bc : ∀ W W', Below wr.heap.size wr W → Below W.heap.size W W' → Below wr.heap.size wr W' := fun W W' h k => h.trans (k.mono h.size)
      clear ha hb hn hx l1
      go_wp2_with fail
      by_cases c1 : x.col < 0
      · have f1 : (x.col < 0) = True := eq_true c1
        have hv := Lib.hid (show validCdB x = false from decide_eq_false (fun h => by unfold ValidCd at h; omega))
        refine wp_region_noPanic ?_
        refine wp_region_held_drew (S := fun X => Below wr.heap.size wr X) (by kernel_rfl) ?_ (fun hHeld => ?_)
        · (first | with_reducible assumption | (with_reducible refine Below.drew ?_; with_reducible assumption) | (with_reducible refine ba _ _ ?_; with_reducible assumption) | (with_reducible refine Below.drew ?_; with_reducible refine ba _ _ ?_; with_reducible assumption) | exact Below.refl _ _ | exact (Below.refl _ _).drew | exact (Below.refl _ _).alloc (Nat.le_refl _) _ | (refine bc _ _ (by assumption) (by assumption)))
        refine RegOk.begin_ (n := 49) (T := q5A) ⟨by kernel_rfl, by kernel_rfl, by kernel_rfl, by kernel_rfl⟩ fun hR => ?_
        refine hR.take (i := 0) (oi := ?ow17_0) (v := ?vw17_0) (m' := 1) ?hw17_0 (by kernel_rfl) (by kernel_rfl) (fun _ _ _ h => h) (Or.inl ⟨?sw17_0, ?yw17_0⟩) (by assumption) ?nw17_0
        case hw17_0 => simp only [List.getElem?_toArray, List.getElem?_cons_succ, List.getElem?_cons_zero]; rfl
        case sw17_0 => rfl
        case yw17_0 => (intro w hSw; (try dsimp only at hSw); go_simp <;> with_reducible rfl)
        try simp only [Act.put, List.setIfInBounds_toArray, List.set_cons_zero, List.set_cons_succ]
        refine hR.take (i := 1) (oi := ?ow18_1) (v := ?vw18_1) (m' := 3) ?hw18_1 (by kernel_rfl) (by kernel_rfl) (fun _ _ _ h => h) (Or.inl ⟨?sw18_1, ?yw18_1⟩) (by assumption) ?nw18_1
        case hw18_1 => simp only [List.getElem?_toArray, List.getElem?_cons_succ, List.getElem?_cons_zero]; rfl
        case sw18_1 => rfl
        case yw18_1 => (intro w hSw; (try dsimp only at hSw); go_simp <;> with_reducible rfl)
        try simp only [Act.put, List.setIfInBounds_toArray, List.set_cons_zero, List.set_cons_succ]
        refine hR.take (i := 2) (oi := ?ow19_2) (v := ?vw19_2) (m' := 7) ?hw19_2 (by kernel_rfl) (by kernel_rfl) (fun _ _ _ h => h) (Or.inl ⟨?sw19_2, ?yw19_2⟩) (by assumption) ?nw19_2
        case hw19_2 => simp only [List.getElem?_toArray, List.getElem?_cons_succ, List.getElem?_cons_zero]; rfl
        case sw19_2 => rfl
        case yw19_2 => (intro w hSw; (try dsimp only at hSw); go_simp <;> with_reducible rfl)
        try simp only [Act.put, List.setIfInBounds_toArray, List.set_cons_zero, List.set_cons_succ]
        refine hR.take (i := 3) (oi := ?ow20_3) (v := ?vw20_3) (m' := 15) ?hw20_3 (by kernel_rfl) (by kernel_rfl) (fun _ _ _ h => h) (Or.inl ⟨?sw20_3, ?yw20_3⟩) (by assumption) ?nw20_3
        case hw20_3 => simp only [List.getElem?_toArray, List.getElem?_cons_succ, List.getElem?_cons_zero]; rfl
        case sw20_3 => rfl
        case yw20_3 => (intro w hSw; (try dsimp only at hSw); go_simp <;> with_reducible rfl)
        try simp only [Act.put, List.setIfInBounds_toArray, List.set_cons_zero, List.set_cons_succ]
        refine hR.take (i := 4) (oi := ?ow21_4) (v := ?vw21_4) (m' := 31) ?hw21_4 (by kernel_rfl) (by kernel_rfl) (fun _ _ _ h => h) (Or.inl ⟨?sw21_4, ?yw21_4⟩) (by assumption) ?nw21_4
        case hw21_4 => simp only [List.getElem?_toArray, List.getElem?_cons_succ, List.getElem?_cons_zero]; rfl
        case sw21_4 => rfl
        case yw21_4 => (intro w hSw; (try dsimp only at hSw); go_simp <;> with_reducible rfl)
        try simp only [Act.put, List.setIfInBounds_toArray, List.set_cons_zero, List.set_cons_succ]
        refine hR.take (i := 5) (oi := ?ow22_5) (v := ?vw22_5) (m' := 63) ?hw22_5 (by kernel_rfl) (by kernel_rfl) (fun _ _ _ h => h) (Or.inl ⟨?sw22_5, ?yw22_5⟩) (by assumption) ?nw22_5
        case hw22_5 => simp only [List.getElem?_toArray, List.getElem?_cons_succ, List.getElem?_cons_zero]; rfl
        case sw22_5 => rfl
        case yw22_5 => (intro w hSw; (try dsimp only at hSw); go_simp <;> with_reducible rfl)
        try simp only [Act.put, List.setIfInBounds_toArray, List.set_cons_zero, List.set_cons_succ]
        refine hR.take (i := 6) (oi := ?ow23_6) (v := ?vw23_6) (m' := 127) ?hw23_6 (by kernel_rfl) (by kernel_rfl) (fun _ _ _ h => h) (Or.inl ⟨?sw23_6, ?yw23_6⟩) (by assumption) ?nw23_6
        case hw23_6 => simp only [List.getElem?_toArray, List.getElem?_cons_succ, List.getElem?_cons_zero]; rfl
        case sw23_6 => rfl
        case yw23_6 => (intro w hSw; (try dsimp only at hSw); go_simp <;> with_reducible rfl)
        try simp only [Act.put, List.setIfInBounds_toArray, List.set_cons_zero, List.set_cons_succ]
        refine hR.take (i := 7) (oi := ?ow24_7) (v := ?vw24_7) (m' := 255) ?hw24_7 (by kernel_rfl) (by kernel_rfl) (fun _ _ _ h => h) (Or.inr ⟨?sw24_7, ?yw24_7⟩) (by assumption) ?nw24_7
        case hw24_7 => simp only [List.getElem?_toArray, List.getElem?_cons_succ, List.getElem?_cons_zero]; rfl
        case sw24_7 => rfl
        case yw24_7 => rfl
        try simp only [Act.put, List.setIfInBounds_toArray, List.set_cons_zero, List.set_cons_succ]
        refine hR.take (i := 8) (oi := ?ow25_8) (v := ?vw25_8) (m' := 511) ?hw25_8 (by kernel_rfl) (by kernel_rfl) (fun _ _ _ h => h) (Or.inr ⟨?sw25_8, ?yw25_8⟩) (by assumption) ?nw25_8
        case hw25_8 => simp only [List.getElem?_toArray, List.getElem?_cons_succ, List.getElem?_cons_zero]; rfl
        case sw25_8 => rfl
        case yw25_8 => rfl
        try simp only [Act.put, List.setIfInBounds_toArray, List.set_cons_zero, List.set_cons_succ]
        refine hR.take (i := 9) (oi := ?ow26_9) (v := ?vw26_9) (m' := 1023) ?hw26_9 (by kernel_rfl) (by kernel_rfl) (fun _ _ _ h => h) (Or.inr ⟨?sw26_9, ?yw26_9⟩) (by assumption) ?nw26_9
        case hw26_9 => simp only [List.getElem?_toArray, List.getElem?_cons_succ, List.getElem?_cons_zero]; rfl
        case sw26_9 => rfl
        case yw26_9 => rfl
        try simp only [Act.put, List.setIfInBounds_toArray, List.set_cons_zero, List.set_cons_succ]
        refine hR.take (i := 10) (oi := ?ow27_10) (v := ?vw27_10) (m' := 2047) ?hw27_10 (by kernel_rfl) (by kernel_rfl) (fun _ _ _ h => h) (Or.inr ⟨?sw27_10, ?yw27_10⟩) (by assumption) ?nw27_10
        case hw27_10 => simp only [List.getElem?_toArray, List.getElem?_cons_succ, List.getElem?_cons_zero]; rfl
        case sw27_10 => rfl
        case yw27_10 => rfl
        try simp only [Act.put, List.setIfInBounds_toArray, List.set_cons_zero, List.set_cons_succ]
        refine hR.take (i := 11) (oi := ?ow28_11) (v := ?vw28_11) (m' := 4095) ?hw28_11 (by kernel_rfl) (by kernel_rfl) (fun _ _ _ h => h) (Or.inr ⟨?sw28_11, ?yw28_11⟩) (by assumption) ?nw28_11
        case hw28_11 => simp only [List.getElem?_toArray, List.getElem?_cons_succ, List.getElem?_cons_zero]; rfl
        case sw28_11 => rfl
        case yw28_11 => rfl
        try simp only [Act.put, List.setIfInBounds_toArray, List.set_cons_zero, List.set_cons_succ]
        refine hR.take (i := 12) (oi := ?ow29_12) (v := ?vw29_12) (m' := 8191) ?hw29_12 (by kernel_rfl) (by kernel_rfl) (fun _ _ _ h => h) (Or.inr ⟨?sw29_12, ?yw29_12⟩) (by assumption) ?nw29_12
        case hw29_12 => simp only [List.getElem?_toArray, List.getElem?_cons_succ, List.getElem?_cons_zero]; rfl
        case sw29_12 => rfl
        case yw29_12 => rfl
        try simp only [Act.put, List.setIfInBounds_toArray, List.set_cons_zero, List.set_cons_succ]
        refine hR.take (i := 13) (oi := ?ow30_13) (v := ?vw30_13) (m' := 16383) ?hw30_13 (by kernel_rfl) (by kernel_rfl) (fun _ _ _ h => h) (Or.inl ⟨?sw30_13, ?yw30_13⟩) (by assumption) ?nw30_13
        case hw30_13 => simp only [List.getElem?_toArray, List.getElem?_cons_succ, List.getElem?_cons_zero]; rfl
        case sw30_13 => rfl
        case yw30_13 => (intro w hSw; (try dsimp only at hSw); go_simp <;> with_reducible rfl)
        try simp only [Act.put, List.setIfInBounds_toArray, List.set_cons_zero, List.set_cons_succ]
        refine hR.take (i := 14) (oi := ?ow31_14) (v := ?vw31_14) (m' := 32767) ?hw31_14 (by kernel_rfl) (by kernel_rfl) (fun _ _ _ h => h) (Or.inl ⟨?sw31_14, ?yw31_14⟩) (by assumption) ?nw31_14
        case hw31_14 => simp only [List.getElem?_toArray, List.getElem?_cons_succ, List.getElem?_cons_zero]; rfl
        case sw31_14 => rfl
        case yw31_14 => (intro w hSw; (try dsimp only at hSw); go_simp <;> with_reducible rfl)
        try simp only [Act.put, List.setIfInBounds_toArray, List.set_cons_zero, List.set_cons_succ]
        refine hR.take (i := 15) (oi := ?ow32_15) (v := ?vw32_15) (m' := 65535) ?hw32_15 (by kernel_rfl) (by kernel_rfl) (fun _ _ _ h => h) (Or.inr ⟨?sw32_15, ?yw32_15⟩) (by assumption) ?nw32_15
        case hw32_15 => simp only [List.getElem?_toArray, List.getElem?_cons_succ, List.getElem?_cons_zero]; rfl
        case sw32_15 => rfl
        case yw32_15 => rfl
        try simp only [Act.put, List.setIfInBounds_toArray, List.set_cons_zero, List.set_cons_succ]
        refine hR.take (i := 16) (oi := ?ow33_16) (v := ?vw33_16) (m' := 131071) ?hw33_16 (by kernel_rfl) (by kernel_rfl) (fun _ _ _ h => h) (Or.inr ⟨?sw33_16, ?yw33_16⟩) (by assumption) ?nw33_16
        case hw33_16 => simp only [List.getElem?_toArray, List.getElem?_cons_succ, List.getElem?_cons_zero]; rfl
        case sw33_16 => rfl
        case yw33_16 => rfl
        try simp only [Act.put, List.setIfInBounds_toArray, List.set_cons_zero, List.set_cons_succ]
        refine hR.take (i := 17) (oi := ?ow34_17) (v := ?vw34_17) (m' := 262143) ?hw34_17 (by kernel_rfl) (by kernel_rfl) (fun _ _ _ h => h) (Or.inr ⟨?sw34_17, ?yw34_17⟩) (by assumption) ?nw34_17
        case hw34_17 => simp only [List.getElem?_toArray, List.getElem?_cons_succ, List.getElem?_cons_zero]; rfl
        case sw34_17 => rfl
        case yw34_17 => rfl
        try simp only [Act.put, List.setIfInBounds_toArray, List.set_cons_zero, List.set_cons_succ]
        refine hR.take (i := 18) (oi := ?ow35_18) (v := ?vw35_18) (m' := 524287) ?hw35_18 (by kernel_rfl) (by kernel_rfl) (fun _ _ _ h => h) (Or.inr ⟨?sw35_18, ?yw35_18⟩) (by assumption) ?nw35_18
        case hw35_18 => simp only [List.getElem?_toArray, List.getElem?_cons_succ, List.getElem?_cons_zero]; rfl
        case sw35_18 => rfl
        case yw35_18 => rfl
        try simp only [Act.put, List.setIfInBounds_toArray, List.set_cons_zero, List.set_cons_succ]
        refine hR.take (i := 19) (oi := ?ow36_19) (v := ?vw36_19) (m' := 1048575) ?hw36_19 (by kernel_rfl) (by kernel_rfl) (fun _ _ _ h => h) (Or.inr ⟨?sw36_19, ?yw36_19⟩) (by assumption) ?nw36_19
        case hw36_19 => simp only [List.getElem?_toArray, List.getElem?_cons_succ, List.getElem?_cons_zero]; rfl
        case sw36_19 => rfl
        case yw36_19 => rfl
        try simp only [Act.put, List.setIfInBounds_toArray, List.set_cons_zero, List.set_cons_succ]
        refine hR.take (i := 20) (oi := ?ow37_20) (v := ?vw37_20) (m' := 2097151) ?hw37_20 (by kernel_rfl) (by kernel_rfl) (fun _ _ _ h => h) (Or.inr ⟨?sw37_20, ?yw37_20⟩) (by assumption) ?nw37_20
        case hw37_20 => simp only [List.getElem?_toArray, List.getElem?_cons_succ, List.getElem?_cons_zero]; rfl
        case sw37_20 => rfl
        case yw37_20 => rfl
        try simp only [Act.put, List.setIfInBounds_toArray, List.set_cons_zero, List.set_cons_succ]
        refine hR.take (i := 21) (oi := ?ow38_21) (v := ?vw38_21) (m' := 4194303) ?hw38_21 (by kernel_rfl) (by kernel_rfl) (fun _ _ _ h => h) (Or.inl ⟨?sw38_21, ?yw38_21⟩) (by assumption) ?nw38_21
        case hw38_21 => simp only [List.getElem?_toArray, List.getElem?_cons_succ, List.getElem?_cons_zero]; rfl
        case sw38_21 => rfl
        case yw38_21 => (intro w hSw; (try dsimp only at hSw); go_simp <;> with_reducible rfl)
        try simp only [Act.put, List.setIfInBounds_toArray, List.set_cons_zero, List.set_cons_succ]
        refine hR.take (i := 22) (oi := ?ow39_22) (v := ?vw39_22) (m' := 8388607) ?hw39_22 (by kernel_rfl) (by kernel_rfl) (fun _ _ _ h => h) (Or.inl ⟨?sw39_22, ?yw39_22⟩) (by assumption) ?nw39_22
        case hw39_22 => simp only [List.getElem?_toArray, List.getElem?_cons_succ, List.getElem?_cons_zero]; rfl
        case sw39_22 => rfl
        case yw39_22 => (intro w hSw; (try dsimp only at hSw); go_simp <;> with_reducible rfl)
        try simp only [Act.put, List.setIfInBounds_toArray, List.set_cons_zero, List.set_cons_succ]
        refine hR.take (i := 23) (oi := ?ow40_23) (v := ?vw40_23) (m' := 16777215) ?hw40_23 (by kernel_rfl) (by kernel_rfl) (fun _ _ _ h => h) (Or.inr ⟨?sw40_23, ?yw40_23⟩) (by assumption) ?nw40_23
        case hw40_23 => simp only [List.getElem?_toArray, List.getElem?_cons_succ, List.getElem?_cons_zero]; rfl
        case sw40_23 => rfl
        case yw40_23 => rfl
        try simp only [Act.put, List.setIfInBounds_toArray, List.set_cons_zero, List.set_cons_succ]
        refine hR.take (i := 24) (oi := ?ow41_24) (v := ?vw41_24) (m' := 33554431) ?hw41_24 (by kernel_rfl) (by kernel_rfl) (fun _ _ _ h => h) (Or.inr ⟨?sw41_24, ?yw41_24⟩) (by assumption) ?nw41_24
        case hw41_24 => simp only [List.getElem?_toArray, List.getElem?_cons_succ, List.getElem?_cons_zero]; rfl
        case sw41_24 => rfl
        case yw41_24 => rfl
        try simp only [Act.put, List.setIfInBounds_toArray, List.set_cons_zero, List.set_cons_succ]
        refine hR.take (i := 25) (oi := ?ow42_25) (v := ?vw42_25) (m' := 67108863) ?hw42_25 (by kernel_rfl) (by kernel_rfl) (fun _ _ _ h => h) (Or.inr ⟨?sw42_25, ?yw42_25⟩) (by assumption) ?nw42_25
        case hw42_25 => simp only [List.getElem?_toArray, List.getElem?_cons_succ, List.getElem?_cons_zero]; rfl
        case sw42_25 => rfl
        case yw42_25 => rfl
        try simp only [Act.put, List.setIfInBounds_toArray, List.set_cons_zero, List.set_cons_succ]
        refine hR.take (i := 26) (oi := ?ow43_26) (v := ?vw43_26) (m' := 134217727) ?hw43_26 (by kernel_rfl) (by kernel_rfl) (fun _ _ _ h => h) (Or.inr ⟨?sw43_26, ?yw43_26⟩) (by assumption) ?nw43_26
        case hw43_26 => simp only [List.getElem?_toArray, List.getElem?_cons_succ, List.getElem?_cons_zero]; rfl
        case sw43_26 => rfl
        case yw43_26 => rfl
        try simp only [Act.put, List.setIfInBounds_toArray, List.set_cons_zero, List.set_cons_succ]
        refine hR.take (i := 27) (oi := ?ow44_27) (v := ?vw44_27) (m' := 268435455) ?hw44_27 (by kernel_rfl) (by kernel_rfl) (fun _ _ _ h => h) (Or.inr ⟨?sw44_27, ?yw44_27⟩) (by assumption) ?nw44_27
        case hw44_27 => simp only [List.getElem?_toArray, List.getElem?_cons_succ, List.getElem?_cons_zero]; rfl
        case sw44_27 => rfl
        case yw44_27 => rfl
        try simp only [Act.put, List.setIfInBounds_toArray, List.set_cons_zero, List.set_cons_succ]
        refine hR.take (i := 28) (oi := ?ow45_28) (v := ?vw45_28) (m' := 536870911) ?hw45_28 (by kernel_rfl) (by kernel_rfl) (fun _ _ _ h => h) (Or.inr ⟨?sw45_28, ?yw45_28⟩) (by assumption) ?nw45_28
        case hw45_28 => simp only [List.getElem?_toArray, List.getElem?_cons_succ, List.getElem?_cons_zero]; rfl
        case sw45_28 => rfl
        case yw45_28 => rfl
        try simp only [Act.put, List.setIfInBounds_toArray, List.set_cons_zero, List.set_cons_succ]
        refine hR.take (i := 29) (oi := ?ow46_29) (v := ?vw46_29) (m' := 1073741823) ?hw46_29 (by kernel_rfl) (by kernel_rfl) (fun _ _ _ h => h) (Or.inr ⟨?sw46_29, ?yw46_29⟩) (by assumption) ?nw46_29
        case hw46_29 => simp only [List.getElem?_toArray, List.getElem?_cons_succ, List.getElem?_cons_zero]; rfl
        case sw46_29 => rfl
        case yw46_29 => rfl
        try simp only [Act.put, List.setIfInBounds_toArray, List.set_cons_zero, List.set_cons_succ]
        refine hR.take (i := 30) (oi := ?ow47_30) (v := ?vw47_30) (m' := 2147483647) ?hw47_30 (by kernel_rfl) (by kernel_rfl) (fun _ _ _ h => h) (Or.inr ⟨?sw47_30, ?yw47_30⟩) (by assumption) ?nw47_30
        case hw47_30 => simp only [List.getElem?_toArray, List.getElem?_cons_succ, List.getElem?_cons_zero]; rfl
        case sw47_30 => rfl
        case yw47_30 => rfl
        try simp only [Act.put, List.setIfInBounds_toArray, List.set_cons_zero, List.set_cons_succ]
        refine hR.take (i := 31) (oi := ?ow48_31) (v := ?vw48_31) (m' := 4294967295) ?hw48_31 (by kernel_rfl) (by kernel_rfl) (fun _ _ _ h => h) (Or.inr ⟨?sw48_31, ?yw48_31⟩) (by assumption) ?nw48_31
        case hw48_31 => simp only [List.getElem?_toArray, List.getElem?_cons_succ, List.getElem?_cons_zero]; rfl
        case sw48_31 => rfl
        case yw48_31 => rfl
        try simp only [Act.put, List.setIfInBounds_toArray, List.set_cons_zero, List.set_cons_succ]
        refine hR.take (i := 32) (oi := ?ow49_32) (v := ?vw49_32) (m' := 8589934591) ?hw49_32 (by kernel_rfl) (by kernel_rfl) (fun _ _ _ h => h) (Or.inr ⟨?sw49_32, ?yw49_32⟩) (by assumption) ?nw49_32
        case hw49_32 => simp only [List.getElem?_toArray, List.getElem?_cons_succ, List.getElem?_cons_zero]; rfl
        case sw49_32 => rfl
        case yw49_32 => rfl
        try simp only [Act.put, List.setIfInBounds_toArray, List.set_cons_zero, List.set_cons_succ]
        refine hR.take (i := 33) (oi := ?ow50_33) (v := ?vw50_33) (m' := 17179869183) ?hw50_33 (by kernel_rfl) (by kernel_rfl) (fun _ _ _ h => h) (Or.inr ⟨?sw50_33, ?yw50_33⟩) (by assumption) ?nw50_33
        case hw50_33 => simp only [List.getElem?_toArray, List.getElem?_cons_succ, List.getElem?_cons_zero]; rfl
        case sw50_33 => rfl
        case yw50_33 => rfl
        try simp only [Act.put, List.setIfInBounds_toArray, List.set_cons_zero, List.set_cons_succ]
        refine hR.take (i := 34) (oi := ?ow51_34) (v := ?vw51_34) (m' := 34359738367) ?hw51_34 (by kernel_rfl) (by kernel_rfl) (fun _ _ _ h => h) (Or.inl ⟨?sw51_34, ?yw51_34⟩) (by assumption) ?nw51_34
        case hw51_34 => simp only [List.getElem?_toArray, List.getElem?_cons_succ, List.getElem?_cons_zero]; rfl
        case sw51_34 => rfl
        case yw51_34 => (intro w hSw; (try dsimp only at hSw); go_simp <;> with_reducible rfl)
        try simp only [Act.put, List.setIfInBounds_toArray, List.set_cons_zero, List.set_cons_succ]
        refine hR.take (i := 35) (oi := ?ow52_35) (v := ?vw52_35) (m' := 68719476735) ?hw52_35 (by kernel_rfl) (by kernel_rfl) (fun _ _ _ h => h) (Or.inl ⟨?sw52_35, ?yw52_35⟩) (by assumption) ?nw52_35
        case hw52_35 => simp only [List.getElem?_toArray, List.getElem?_cons_succ, List.getElem?_cons_zero]; rfl
        case sw52_35 => rfl
        case yw52_35 => (intro w hSw; (try dsimp only at hSw); go_simp <;> with_reducible rfl)
        try simp only [Act.put, List.setIfInBounds_toArray, List.set_cons_zero, List.set_cons_succ]
        refine hR.take (i := 36) (oi := ?ow53_36) (v := ?vw53_36) (m' := 137438953471) ?hw53_36 (by kernel_rfl) (by kernel_rfl) (fun _ _ _ h => h) (Or.inr ⟨?sw53_36, ?yw53_36⟩) (by assumption) ?nw53_36
        case hw53_36 => simp only [List.getElem?_toArray, List.getElem?_cons_succ, List.getElem?_cons_zero]; rfl
        case sw53_36 => rfl
        case yw53_36 => rfl
        try simp only [Act.put, List.setIfInBounds_toArray, List.set_cons_zero, List.set_cons_succ]
        refine hR.take (i := 37) (oi := ?ow54_37) (v := ?vw54_37) (m' := 274877906943) ?hw54_37 (by kernel_rfl) (by kernel_rfl) (fun _ _ _ h => h) (Or.inr ⟨?sw54_37, ?yw54_37⟩) (by assumption) ?nw54_37
        case hw54_37 => simp only [List.getElem?_toArray, List.getElem?_cons_succ, List.getElem?_cons_zero]; rfl
        case sw54_37 => rfl
        case yw54_37 => rfl
        try simp only [Act.put, List.setIfInBounds_toArray, List.set_cons_zero, List.set_cons_succ]
        refine hR.take (i := 38) (oi := ?ow55_38) (v := ?vw55_38) (m' := 549755813887) ?hw55_38 (by kernel_rfl) (by kernel_rfl) (fun _ _ _ h => h) (Or.inr ⟨?sw55_38, ?yw55_38⟩) (by assumption) ?nw55_38
        case hw55_38 => simp only [List.getElem?_toArray, List.getElem?_cons_succ, List.getElem?_cons_zero]; rfl
        case sw55_38 => rfl
        case yw55_38 => rfl
        try simp only [Act.put, List.setIfInBounds_toArray, List.set_cons_zero, List.set_cons_succ]
        refine hR.take (i := 39) (oi := ?ow56_39) (v := ?vw56_39) (m' := 1099511627775) ?hw56_39 (by kernel_rfl) (by kernel_rfl) (fun _ _ _ h => h) (Or.inr ⟨?sw56_39, ?yw56_39⟩) (by assumption) ?nw56_39
        case hw56_39 => simp only [List.getElem?_toArray, List.getElem?_cons_succ, List.getElem?_cons_zero]; rfl
        case sw56_39 => rfl
        case yw56_39 => rfl
        try simp only [Act.put, List.setIfInBounds_toArray, List.set_cons_zero, List.set_cons_succ]
        refine hR.take (i := 40) (oi := ?ow57_40) (v := ?vw57_40) (m' := 2199023255551) ?hw57_40 (by kernel_rfl) (by kernel_rfl) (fun _ _ _ h => h) (Or.inr ⟨?sw57_40, ?yw57_40⟩) (by assumption) ?nw57_40
        case hw57_40 => simp only [List.getElem?_toArray, List.getElem?_cons_succ, List.getElem?_cons_zero]; rfl
        case sw57_40 => rfl
        case yw57_40 => rfl
        try simp only [Act.put, List.setIfInBounds_toArray, List.set_cons_zero, List.set_cons_succ]
        refine hR.take (i := 41) (oi := ?ow58_41) (v := ?vw58_41) (m' := 4398046511103) ?hw58_41 (by kernel_rfl) (by kernel_rfl) (fun _ _ _ h => h) (Or.inr ⟨?sw58_41, ?yw58_41⟩) (by assumption) ?nw58_41
        case hw58_41 => simp only [List.getElem?_toArray, List.getElem?_cons_succ, List.getElem?_cons_zero]; rfl
        case sw58_41 => rfl
        case yw58_41 => rfl
        try simp only [Act.put, List.setIfInBounds_toArray, List.set_cons_zero, List.set_cons_succ]
        refine hR.take (i := 42) (oi := ?ow59_42) (v := ?vw59_42) (m' := 8796093022207) ?hw59_42 (by kernel_rfl) (by kernel_rfl) (fun _ _ _ h => h) (Or.inr ⟨?sw59_42, ?yw59_42⟩) (by assumption) ?nw59_42
        case hw59_42 => simp only [List.getElem?_toArray, List.getElem?_cons_succ, List.getElem?_cons_zero]; rfl
        case sw59_42 => rfl
        case yw59_42 => rfl
        try simp only [Act.put, List.setIfInBounds_toArray, List.set_cons_zero, List.set_cons_succ]
        refine hR.take (i := 43) (oi := ?ow60_43) (v := ?vw60_43) (m' := 17592186044415) ?hw60_43 (by kernel_rfl) (by kernel_rfl) (fun _ _ _ h => h) (Or.inr ⟨?sw60_43, ?yw60_43⟩) (by assumption) ?nw60_43
        case hw60_43 => simp only [List.getElem?_toArray, List.getElem?_cons_succ, List.getElem?_cons_zero]; rfl
        case sw60_43 => rfl
        case yw60_43 => rfl
        try simp only [Act.put, List.setIfInBounds_toArray, List.set_cons_zero, List.set_cons_succ]
        refine hR.take (i := 44) (oi := ?ow61_44) (v := ?vw61_44) (m' := 35184372088831) ?hw61_44 (by kernel_rfl) (by kernel_rfl) (fun _ _ _ h => h) (Or.inr ⟨?sw61_44, ?yw61_44⟩) (by assumption) ?nw61_44
        case hw61_44 => simp only [List.getElem?_toArray, List.getElem?_cons_succ, List.getElem?_cons_zero]; rfl
        case sw61_44 => rfl
        case yw61_44 => rfl
        try simp only [Act.put, List.setIfInBounds_toArray, List.set_cons_zero, List.set_cons_succ]
        refine hR.take (i := 45) (oi := ?ow62_45) (v := ?vw62_45) (m' := 70368744177663) ?hw62_45 (by kernel_rfl) (by kernel_rfl) (fun _ _ _ h => h) (Or.inr ⟨?sw62_45, ?yw62_45⟩) (by assumption) ?nw62_45
        case hw62_45 => simp only [List.getElem?_toArray, List.getElem?_cons_succ, List.getElem?_cons_zero]; rfl
        case sw62_45 => rfl
        case yw62_45 => rfl
        try simp only [Act.put, List.setIfInBounds_toArray, List.set_cons_zero, List.set_cons_succ]
        refine hR.take (i := 46) (oi := ?ow63_46) (v := ?vw63_46) (m' := 140737488355327) ?hw63_46 (by kernel_rfl) (by kernel_rfl) (fun _ _ _ h => h) (Or.inr ⟨?sw63_46, ?yw63_46⟩) (by assumption) ?nw63_46
        case hw63_46 => simp only [List.getElem?_toArray, List.getElem?_cons_succ, List.getElem?_cons_zero]; rfl
        case sw63_46 => rfl
        case yw63_46 => rfl
        try simp only [Act.put, List.setIfInBounds_toArray, List.set_cons_zero, List.set_cons_succ]
        refine hR.take (i := 47) (oi := ?ow64_47) (v := ?vw64_47) (m' := 281474976710655) ?hw64_47 (by kernel_rfl) (by kernel_rfl) (fun _ _ _ h => h) (Or.inr ⟨?sw64_47, ?yw64_47⟩) (by assumption) ?nw64_47
        case hw64_47 => simp only [List.getElem?_toArray, List.getElem?_cons_succ, List.getElem?_cons_zero]; rfl
        case sw64_47 => rfl
        case yw64_47 => rfl
        try simp only [Act.put, List.setIfInBounds_toArray, List.set_cons_zero, List.set_cons_succ]
        refine hR.take (i := 48) (oi := ?ow65_48) (v := ?vw65_48) (m' := 562949953421311) ?hw65_48 (by kernel_rfl) (by kernel_rfl) (fun _ _ _ h => h) (Or.inl ⟨?sw65_48, ?yw65_48⟩) (by assumption) ?nw65_48
        case hw65_48 => simp only [List.getElem?_toArray, List.getElem?_cons_succ, List.getElem?_cons_zero]; rfl
        case sw65_48 => rfl
        case yw65_48 => (intro w hSw; (try dsimp only at hSw); go_simp <;> with_reducible rfl)
        try simp only [Act.put, List.setIfInBounds_toArray, List.set_cons_zero, List.set_cons_succ]
        refine hR.all (by kernel_rfl) ?_ _
        refine NoPanic.normal ?_
        go_wp2_with fail
        go_ret
        exact ⟨ret_b (not_cd (List.mem_of_getElem? Hx.out) hv.out).symm, Hb.out.drew⟩
      have f1 : (x.col < 0) = False := eq_false c1
      by_cases c2 : 3 < x.col
      · have f2 : (3 < x.col) = True := eq_true c2
        have hv := Lib.hid (show validCdB x = false from decide_eq_false (fun h => by unfold ValidCd at h; omega))
        refine wp_region_noPanic ?_
        refine wp_region_held_drew (S := fun X => Below wr.heap.size wr X) (by kernel_rfl) ?_ (fun hHeld => ?_)
        · (first | with_reducible assumption | (with_reducible refine Below.drew ?_; with_reducible assumption) | (with_reducible refine ba _ _ ?_; with_reducible assumption) | (with_reducible refine Below.drew ?_; with_reducible refine ba _ _ ?_; with_reducible assumption) | exact Below.refl _ _ | exact (Below.refl _ _).drew | exact (Below.refl _ _).alloc (Nat.le_refl _) _ | (refine bc _ _ (by assumption) (by assumption)))
        refine RegOk.begin_ (n := 49) (T := q5A) ⟨by kernel_rfl, by kernel_rfl, by kernel_rfl, by kernel_rfl⟩ fun hR => ?_
        refine hR.take (i := 0) (oi := ?ow66_0) (v := ?vw66_0) (m' := 1) ?hw66_0 (by kernel_rfl) (by kernel_rfl) (fun _ _ _ h => h) (Or.inl ⟨?sw66_0, ?yw66_0⟩) (by assumption) ?nw66_0
        case hw66_0 => simp only [List.getElem?_toArray, List.getElem?_cons_succ, List.getElem?_cons_zero]; rfl
        case sw66_0 => rfl
        case yw66_0 => (intro w hSw; (try dsimp only at hSw); go_simp <;> with_reducible rfl)
        try simp only [Act.put, List.setIfInBounds_toArray, List.set_cons_zero, List.set_cons_succ]
        refine hR.take (i := 1) (oi := ?ow67_1) (v := ?vw67_1) (m' := 3) ?hw67_1 (by kernel_rfl) (by kernel_rfl) (fun _ _ _ h => h) (Or.inl ⟨?sw67_1, ?yw67_1⟩) (by assumption) ?nw67_1
        case hw67_1 => simp only [List.getElem?_toArray, List.getElem?_cons_succ, List.getElem?_cons_zero]; rfl
        case sw67_1 => rfl
        case yw67_1 => (intro w hSw; (try dsimp only at hSw); go_simp <;> with_reducible rfl)
        try simp only [Act.put, List.setIfInBounds_toArray, List.set_cons_zero, List.set_cons_succ]
        refine hR.take (i := 2) (oi := ?ow68_2) (v := ?vw68_2) (m' := 7) ?hw68_2 (by kernel_rfl) (by kernel_rfl) (fun _ _ _ h => h) (Or.inl ⟨?sw68_2, ?yw68_2⟩) (by assumption) ?nw68_2
        case hw68_2 => simp only [List.getElem?_toArray, List.getElem?_cons_succ, List.getElem?_cons_zero]; rfl
        case sw68_2 => rfl
        case yw68_2 => (intro w hSw; (try dsimp only at hSw); go_simp <;> with_reducible rfl)
        try simp only [Act.put, List.setIfInBounds_toArray, List.set_cons_zero, List.set_cons_succ]
        refine hR.take (i := 3) (oi := ?ow69_3) (v := ?vw69_3) (m' := 15) ?hw69_3 (by kernel_rfl) (by kernel_rfl) (fun _ _ _ h => h) (Or.inl ⟨?sw69_3, ?yw69_3⟩) (by assumption) ?nw69_3
        case hw69_3 => simp only [List.getElem?_toArray, List.getElem?_cons_succ, List.getElem?_cons_zero]; rfl
        case sw69_3 => rfl
        case yw69_3 => (intro w hSw; (try dsimp only at hSw); go_simp <;> with_reducible rfl)
        try simp only [Act.put, List.setIfInBounds_toArray, List.set_cons_zero, List.set_cons_succ]
        refine hR.take (i := 4) (oi := ?ow70_4) (v := ?vw70_4) (m' := 31) ?hw70_4 (by kernel_rfl) (by kernel_rfl) (fun _ _ _ h => h) (Or.inl ⟨?sw70_4, ?yw70_4⟩) (by assumption) ?nw70_4
        case hw70_4 => simp only [List.getElem?_toArray, List.getElem?_cons_succ, List.getElem?_cons_zero]; rfl
        case sw70_4 => rfl
        case yw70_4 => (intro w hSw; (try dsimp only at hSw); go_simp <;> with_reducible rfl)
        try simp only [Act.put, List.setIfInBounds_toArray, List.set_cons_zero, List.set_cons_succ]
        refine hR.take (i := 5) (oi := ?ow71_5) (v := ?vw71_5) (m' := 63) ?hw71_5 (by kernel_rfl) (by kernel_rfl) (fun _ _ _ h => h) (Or.inl ⟨?sw71_5, ?yw71_5⟩) (by assumption) ?nw71_5
        case hw71_5 => simp only [List.getElem?_toArray, List.getElem?_cons_succ, List.getElem?_cons_zero]; rfl
        case sw71_5 => rfl
        case yw71_5 => (intro w hSw; (try dsimp only at hSw); go_simp <;> with_reducible rfl)
        try simp only [Act.put, List.setIfInBounds_toArray, List.set_cons_zero, List.set_cons_succ]
        refine hR.take (i := 6) (oi := ?ow72_6) (v := ?vw72_6) (m' := 127) ?hw72_6 (by kernel_rfl) (by kernel_rfl) (fun _ _ _ h => h) (Or.inl ⟨?sw72_6, ?yw72_6⟩) (by assumption) ?nw72_6
        case hw72_6 => simp only [List.getElem?_toArray, List.getElem?_cons_succ, List.getElem?_cons_zero]; rfl
        case sw72_6 => rfl
        case yw72_6 => (intro w hSw; (try dsimp only at hSw); go_simp <;> with_reducible rfl)
        try simp only [Act.put, List.setIfInBounds_toArray, List.set_cons_zero, List.set_cons_succ]
        refine hR.take (i := 7) (oi := ?ow73_7) (v := ?vw73_7) (m' := 255) ?hw73_7 (by kernel_rfl) (by kernel_rfl) (fun _ _ _ h => h) (Or.inl ⟨?sw73_7, ?yw73_7⟩) (by assumption) ?nw73_7
        case hw73_7 => simp only [List.getElem?_toArray, List.getElem?_cons_succ, List.getElem?_cons_zero]; rfl
        case sw73_7 => rfl
        case yw73_7 => (intro w hSw; (try dsimp only at hSw); go_simp <;> with_reducible rfl)
        try simp only [Act.put, List.setIfInBounds_toArray, List.set_cons_zero, List.set_cons_succ]
        refine hR.take (i := 8) (oi := ?ow74_8) (v := ?vw74_8) (m' := 511) ?hw74_8 (by kernel_rfl) (by kernel_rfl) (fun _ _ _ h => h) (Or.inl ⟨?sw74_8, ?yw74_8⟩) (by assumption) ?nw74_8
        case hw74_8 => simp only [List.getElem?_toArray, List.getElem?_cons_succ, List.getElem?_cons_zero]; rfl
        case sw74_8 => rfl
        case yw74_8 => (intro w hSw; (try dsimp only at hSw); go_simp <;> with_reducible rfl)
        try simp only [Act.put, List.setIfInBounds_toArray, List.set_cons_zero, List.set_cons_succ]
        refine hR.take (i := 9) (oi := ?ow75_9) (v := ?vw75_9) (m' := 1023) ?hw75_9 (by kernel_rfl) (by kernel_rfl) (fun _ _ _ h => h) (Or.inl ⟨?sw75_9, ?yw75_9⟩) (by assumption) ?nw75_9
        case hw75_9 => simp only [List.getElem?_toArray, List.getElem?_cons_succ, List.getElem?_cons_zero]; rfl
        case sw75_9 => rfl
        case yw75_9 => (intro w hSw; (try dsimp only at hSw); go_simp <;> with_reducible rfl)
        try simp only [Act.put, List.setIfInBounds_toArray, List.set_cons_zero, List.set_cons_succ]
        refine hR.take (i := 10) (oi := ?ow76_10) (v := ?vw76_10) (m' := 2047) ?hw76_10 (by kernel_rfl) (by kernel_rfl) (fun _ _ _ h => h) (Or.inl ⟨?sw76_10, ?yw76_10⟩) (by assumption) ?nw76_10
        case hw76_10 => simp only [List.getElem?_toArray, List.getElem?_cons_succ, List.getElem?_cons_zero]; rfl
        case sw76_10 => rfl
        case yw76_10 => (intro w hSw; (try dsimp only at hSw); go_simp <;> with_reducible rfl)
        try simp only [Act.put, List.setIfInBounds_toArray, List.set_cons_zero, List.set_cons_succ]
        refine hR.take (i := 11) (oi := ?ow77_11) (v := ?vw77_11) (m' := 4095) ?hw77_11 (by kernel_rfl) (by kernel_rfl) (fun _ _ _ h => h) (Or.inl ⟨?sw77_11, ?yw77_11⟩) (by assumption) ?nw77_11
        case hw77_11 => simp only [List.getElem?_toArray, List.getElem?_cons_succ, List.getElem?_cons_zero]; rfl
        case sw77_11 => rfl
        case yw77_11 => (intro w hSw; (try dsimp only at hSw); go_simp <;> with_reducible rfl)
        try simp only [Act.put, List.setIfInBounds_toArray, List.set_cons_zero, List.set_cons_succ]
        refine hR.take (i := 12) (oi := ?ow78_12) (v := ?vw78_12) (m' := 8191) ?hw78_12 (by kernel_rfl) (by kernel_rfl) (fun _ _ _ h => h) (Or.inl ⟨?sw78_12, ?yw78_12⟩) (by assumption) ?nw78_12
        case hw78_12 => simp only [List.getElem?_toArray, List.getElem?_cons_succ, List.getElem?_cons_zero]; rfl
        case sw78_12 => rfl
        case yw78_12 => (intro w hSw; (try dsimp only at hSw); go_simp <;> with_reducible rfl)
        try simp only [Act.put, List.setIfInBounds_toArray, List.set_cons_zero, List.set_cons_succ]
        refine hR.take (i := 13) (oi := ?ow79_13) (v := ?vw79_13) (m' := 16383) ?hw79_13 (by kernel_rfl) (by kernel_rfl) (fun _ _ _ h => h) (Or.inl ⟨?sw79_13, ?yw79_13⟩) (by assumption) ?nw79_13
        case hw79_13 => simp only [List.getElem?_toArray, List.getElem?_cons_succ, List.getElem?_cons_zero]; rfl
        case sw79_13 => rfl
        case yw79_13 => (intro w hSw; (try dsimp only at hSw); go_simp <;> with_reducible rfl)
        try simp only [Act.put, List.setIfInBounds_toArray, List.set_cons_zero, List.set_cons_succ]
        refine hR.take (i := 14) (oi := ?ow80_14) (v := ?vw80_14) (m' := 32767) ?hw80_14 (by kernel_rfl) (by kernel_rfl) (fun _ _ _ h => h) (Or.inl ⟨?sw80_14, ?yw80_14⟩) (by assumption) ?nw80_14
        case hw80_14 => simp only [List.getElem?_toArray, List.getElem?_cons_succ, List.getElem?_cons_zero]; rfl
        case sw80_14 => rfl
        case yw80_14 => (intro w hSw; (try dsimp only at hSw); go_simp <;> with_reducible rfl)
        try simp only [Act.put, List.setIfInBounds_toArray, List.set_cons_zero, List.set_cons_succ]
        refine hR.take (i := 15) (oi := ?ow81_15) (v := ?vw81_15) (m' := 65535) ?hw81_15 (by kernel_rfl) (by kernel_rfl) (fun _ _ _ h => h) (Or.inr ⟨?sw81_15, ?yw81_15⟩) (by assumption) ?nw81_15
        case hw81_15 => simp only [List.getElem?_toArray, List.getElem?_cons_succ, List.getElem?_cons_zero]; rfl
        case sw81_15 => rfl
        case yw81_15 => rfl
        try simp only [Act.put, List.setIfInBounds_toArray, List.set_cons_zero, List.set_cons_succ]
        refine hR.take (i := 16) (oi := ?ow82_16) (v := ?vw82_16) (m' := 131071) ?hw82_16 (by kernel_rfl) (by kernel_rfl) (fun _ _ _ h => h) (Or.inr ⟨?sw82_16, ?yw82_16⟩) (by assumption) ?nw82_16
        case hw82_16 => simp only [List.getElem?_toArray, List.getElem?_cons_succ, List.getElem?_cons_zero]; rfl
        case sw82_16 => rfl
        case yw82_16 => rfl
        try simp only [Act.put, List.setIfInBounds_toArray, List.set_cons_zero, List.set_cons_succ]
        refine hR.take (i := 17) (oi := ?ow83_17) (v := ?vw83_17) (m' := 262143) ?hw83_17 (by kernel_rfl) (by kernel_rfl) (fun _ _ _ h => h) (Or.inr ⟨?sw83_17, ?yw83_17⟩) (by assumption) ?nw83_17
        case hw83_17 => simp only [List.getElem?_toArray, List.getElem?_cons_succ, List.getElem?_cons_zero]; rfl
        case sw83_17 => rfl
        case yw83_17 => rfl
        try simp only [Act.put, List.setIfInBounds_toArray, List.set_cons_zero, List.set_cons_succ]
        refine hR.take (i := 18) (oi := ?ow84_18) (v := ?vw84_18) (m' := 524287) ?hw84_18 (by kernel_rfl) (by kernel_rfl) (fun _ _ _ h => h) (Or.inr ⟨?sw84_18, ?yw84_18⟩) (by assumption) ?nw84_18
        case hw84_18 => simp only [List.getElem?_toArray, List.getElem?_cons_succ, List.getElem?_cons_zero]; rfl
        case sw84_18 => rfl
        case yw84_18 => rfl
        try simp only [Act.put, List.setIfInBounds_toArray, List.set_cons_zero, List.set_cons_succ]
        refine hR.take (i := 19) (oi := ?ow85_19) (v := ?vw85_19) (m' := 1048575) ?hw85_19 (by kernel_rfl) (by kernel_rfl) (fun _ _ _ h => h) (Or.inr ⟨?sw85_19, ?yw85_19⟩) (by assumption) ?nw85_19
        case hw85_19 => simp only [List.getElem?_toArray, List.getElem?_cons_succ, List.getElem?_cons_zero]; rfl
        case sw85_19 => rfl
        case yw85_19 => rfl
        try simp only [Act.put, List.setIfInBounds_toArray, List.set_cons_zero, List.set_cons_succ]
        refine hR.take (i := 20) (oi := ?ow86_20) (v := ?vw86_20) (m' := 2097151) ?hw86_20 (by kernel_rfl) (by kernel_rfl) (fun _ _ _ h => h) (Or.inr ⟨?sw86_20, ?yw86_20⟩) (by assumption) ?nw86_20
        case hw86_20 => simp only [List.getElem?_toArray, List.getElem?_cons_succ, List.getElem?_cons_zero]; rfl
        case sw86_20 => rfl
        case yw86_20 => rfl
        try simp only [Act.put, List.setIfInBounds_toArray, List.set_cons_zero, List.set_cons_succ]
        refine hR.take (i := 21) (oi := ?ow87_21) (v := ?vw87_21) (m' := 4194303) ?hw87_21 (by kernel_rfl) (by kernel_rfl) (fun _ _ _ h => h) (Or.inl ⟨?sw87_21, ?yw87_21⟩) (by assumption) ?nw87_21
        case hw87_21 => simp only [List.getElem?_toArray, List.getElem?_cons_succ, List.getElem?_cons_zero]; rfl
        case sw87_21 => rfl
        case yw87_21 => (intro w hSw; (try dsimp only at hSw); go_simp <;> with_reducible rfl)
        try simp only [Act.put, List.setIfInBounds_toArray, List.set_cons_zero, List.set_cons_succ]
        refine hR.take (i := 22) (oi := ?ow88_22) (v := ?vw88_22) (m' := 8388607) ?hw88_22 (by kernel_rfl) (by kernel_rfl) (fun _ _ _ h => h) (Or.inl ⟨?sw88_22, ?yw88_22⟩) (by assumption) ?nw88_22
        case hw88_22 => simp only [List.getElem?_toArray, List.getElem?_cons_succ, List.getElem?_cons_zero]; rfl
        case sw88_22 => rfl
        case yw88_22 => (intro w hSw; (try dsimp only at hSw); go_simp <;> with_reducible rfl)
        try simp only [Act.put, List.setIfInBounds_toArray, List.set_cons_zero, List.set_cons_succ]
        refine hR.take (i := 23) (oi := ?ow89_23) (v := ?vw89_23) (m' := 16777215) ?hw89_23 (by kernel_rfl) (by kernel_rfl) (fun _ _ _ h => h) (Or.inr ⟨?sw89_23, ?yw89_23⟩) (by assumption) ?nw89_23
        case hw89_23 => simp only [List.getElem?_toArray, List.getElem?_cons_succ, List.getElem?_cons_zero]; rfl
        case sw89_23 => rfl
        case yw89_23 => rfl
        try simp only [Act.put, List.setIfInBounds_toArray, List.set_cons_zero, List.set_cons_succ]
        refine hR.take (i := 24) (oi := ?ow90_24) (v := ?vw90_24) (m' := 33554431) ?hw90_24 (by kernel_rfl) (by kernel_rfl) (fun _ _ _ h => h) (Or.inr ⟨?sw90_24, ?yw90_24⟩) (by assumption) ?nw90_24
        case hw90_24 => simp only [List.getElem?_toArray, List.getElem?_cons_succ, List.getElem?_cons_zero]; rfl
        case sw90_24 => rfl
        case yw90_24 => rfl
        try simp only [Act.put, List.setIfInBounds_toArray, List.set_cons_zero, List.set_cons_succ]
        refine hR.take (i := 25) (oi := ?ow91_25) (v := ?vw91_25) (m' := 67108863) ?hw91_25 (by kernel_rfl) (by kernel_rfl) (fun _ _ _ h => h) (Or.inr ⟨?sw91_25, ?yw91_25⟩) (by assumption) ?nw91_25
        case hw91_25 => simp only [List.getElem?_toArray, List.getElem?_cons_succ, List.getElem?_cons_zero]; rfl
        case sw91_25 => rfl
        case yw91_25 => rfl
        try simp only [Act.put, List.setIfInBounds_toArray, List.set_cons_zero, List.set_cons_succ]
        refine hR.take (i := 26) (oi := ?ow92_26) (v := ?vw92_26) (m' := 134217727) ?hw92_26 (by kernel_rfl) (by kernel_rfl) (fun _ _ _ h => h) (Or.inr ⟨?sw92_26, ?yw92_26⟩) (by assumption) ?nw92_26
        case hw92_26 => simp only [List.getElem?_toArray, List.getElem?_cons_succ, List.getElem?_cons_zero]; rfl
        case sw92_26 => rfl
        case yw92_26 => rfl
        try simp only [Act.put, List.setIfInBounds_toArray, List.set_cons_zero, List.set_cons_succ]
        refine hR.take (i := 27) (oi := ?ow93_27) (v := ?vw93_27) (m' := 268435455) ?hw93_27 (by kernel_rfl) (by kernel_rfl) (fun _ _ _ h => h) (Or.inr ⟨?sw93_27, ?yw93_27⟩) (by assumption) ?nw93_27
        case hw93_27 => simp only [List.getElem?_toArray, List.getElem?_cons_succ, List.getElem?_cons_zero]; rfl
        case sw93_27 => rfl
        case yw93_27 => rfl
        try simp only [Act.put, List.setIfInBounds_toArray, List.set_cons_zero, List.set_cons_succ]
        refine hR.take (i := 28) (oi := ?ow94_28) (v := ?vw94_28) (m' := 536870911) ?hw94_28 (by kernel_rfl) (by kernel_rfl) (fun _ _ _ h => h) (Or.inr ⟨?sw94_28, ?yw94_28⟩) (by assumption) ?nw94_28
        case hw94_28 => simp only [List.getElem?_toArray, List.getElem?_cons_succ, List.getElem?_cons_zero]; rfl
        case sw94_28 => rfl
        case yw94_28 => rfl
        try simp only [Act.put, List.setIfInBounds_toArray, List.set_cons_zero, List.set_cons_succ]
        refine hR.take (i := 29) (oi := ?ow95_29) (v := ?vw95_29) (m' := 1073741823) ?hw95_29 (by kernel_rfl) (by kernel_rfl) (fun _ _ _ h => h) (Or.inr ⟨?sw95_29, ?yw95_29⟩) (by assumption) ?nw95_29
        case hw95_29 => simp only [List.getElem?_toArray, List.getElem?_cons_succ, List.getElem?_cons_zero]; rfl
        case sw95_29 => rfl
        case yw95_29 => rfl
        try simp only [Act.put, List.setIfInBounds_toArray, List.set_cons_zero, List.set_cons_succ]
        refine hR.take (i := 30) (oi := ?ow96_30) (v := ?vw96_30) (m' := 2147483647) ?hw96_30 (by kernel_rfl) (by kernel_rfl) (fun _ _ _ h => h) (Or.inr ⟨?sw96_30, ?yw96_30⟩) (by assumption) ?nw96_30
        case hw96_30 => simp only [List.getElem?_toArray, List.getElem?_cons_succ, List.getElem?_cons_zero]; rfl
        case sw96_30 => rfl
        case yw96_30 => rfl
        try simp only [Act.put, List.setIfInBounds_toArray, List.set_cons_zero, List.set_cons_succ]
        refine hR.take (i := 31) (oi := ?ow97_31) (v := ?vw97_31) (m' := 4294967295) ?hw97_31 (by kernel_rfl) (by kernel_rfl) (fun _ _ _ h => h) (Or.inr ⟨?sw97_31, ?yw97_31⟩) (by assumption) ?nw97_31
        case hw97_31 => simp only [List.getElem?_toArray, List.getElem?_cons_succ, List.getElem?_cons_zero]; rfl
        case sw97_31 => rfl
        case yw97_31 => rfl
        try simp only [Act.put, List.setIfInBounds_toArray, List.set_cons_zero, List.set_cons_succ]
        refine hR.take (i := 32) (oi := ?ow98_32) (v := ?vw98_32) (m' := 8589934591) ?hw98_32 (by kernel_rfl) (by kernel_rfl) (fun _ _ _ h => h) (Or.inr ⟨?sw98_32, ?yw98_32⟩) (by assumption) ?nw98_32
        case hw98_32 => simp only [List.getElem?_toArray, List.getElem?_cons_succ, List.getElem?_cons_zero]; rfl
        case sw98_32 => rfl
        case yw98_32 => rfl
        try simp only [Act.put, List.setIfInBounds_toArray, List.set_cons_zero, List.set_cons_succ]
        refine hR.take (i := 33) (oi := ?ow99_33) (v := ?vw99_33) (m' := 17179869183) ?hw99_33 (by kernel_rfl) (by kernel_rfl) (fun _ _ _ h => h) (Or.inr ⟨?sw99_33, ?yw99_33⟩) (by assumption) ?nw99_33
        case hw99_33 => simp only [List.getElem?_toArray, List.getElem?_cons_succ, List.getElem?_cons_zero]; rfl
        case sw99_33 => rfl
        case yw99_33 => rfl
        try simp only [Act.put, List.setIfInBounds_toArray, List.set_cons_zero, List.set_cons_succ]
        refine hR.take (i := 34) (oi := ?ow100_34) (v := ?vw100_34) (m' := 34359738367) ?hw100_34 (by kernel_rfl) (by kernel_rfl) (fun _ _ _ h => h) (Or.inl ⟨?sw100_34, ?yw100_34⟩) (by assumption) ?nw100_34
        case hw100_34 => simp only [List.getElem?_toArray, List.getElem?_cons_succ, List.getElem?_cons_zero]; rfl
        case sw100_34 => rfl
        case yw100_34 => (intro w hSw; (try dsimp only at hSw); go_simp <;> with_reducible rfl)
        try simp only [Act.put, List.setIfInBounds_toArray, List.set_cons_zero, List.set_cons_succ]
        refine hR.take (i := 35) (oi := ?ow101_35) (v := ?vw101_35) (m' := 68719476735) ?hw101_35 (by kernel_rfl) (by kernel_rfl) (fun _ _ _ h => h) (Or.inl ⟨?sw101_35, ?yw101_35⟩) (by assumption) ?nw101_35
        case hw101_35 => simp only [List.getElem?_toArray, List.getElem?_cons_succ, List.getElem?_cons_zero]; rfl
        case sw101_35 => rfl
        case yw101_35 => (intro w hSw; (try dsimp only at hSw); go_simp <;> with_reducible rfl)
        try simp only [Act.put, List.setIfInBounds_toArray, List.set_cons_zero, List.set_cons_succ]
        refine hR.take (i := 36) (oi := ?ow102_36) (v := ?vw102_36) (m' := 137438953471) ?hw102_36 (by kernel_rfl) (by kernel_rfl) (fun _ _ _ h => h) (Or.inr ⟨?sw102_36, ?yw102_36⟩) (by assumption) ?nw102_36
        case hw102_36 => simp only [List.getElem?_toArray, List.getElem?_cons_succ, List.getElem?_cons_zero]; rfl
        case sw102_36 => rfl
        case yw102_36 => rfl
        try simp only [Act.put, List.setIfInBounds_toArray, List.set_cons_zero, List.set_cons_succ]
        refine hR.take (i := 37) (oi := ?ow103_37) (v := ?vw103_37) (m' := 274877906943) ?hw103_37 (by kernel_rfl) (by kernel_rfl) (fun _ _ _ h => h) (Or.inr ⟨?sw103_37, ?yw103_37⟩) (by assumption) ?nw103_37
        case hw103_37 => simp only [List.getElem?_toArray, List.getElem?_cons_succ, List.getElem?_cons_zero]; rfl
        case sw103_37 => rfl
        case yw103_37 => rfl
        try simp only [Act.put, List.setIfInBounds_toArray, List.set_cons_zero, List.set_cons_succ]
        refine hR.take (i := 38) (oi := ?ow104_38) (v := ?vw104_38) (m' := 549755813887) ?hw104_38 (by kernel_rfl) (by kernel_rfl) (fun _ _ _ h => h) (Or.inr ⟨?sw104_38, ?yw104_38⟩) (by assumption) ?nw104_38
        case hw104_38 => simp only [List.getElem?_toArray, List.getElem?_cons_succ, List.getElem?_cons_zero]; rfl
        case sw104_38 => rfl
        case yw104_38 => rfl
        try simp only [Act.put, List.setIfInBounds_toArray, List.set_cons_zero, List.set_cons_succ]
        refine hR.take (i := 39) (oi := ?ow105_39) (v := ?vw105_39) (m' := 1099511627775) ?hw105_39 (by kernel_rfl) (by kernel_rfl) (fun _ _ _ h => h) (Or.inr ⟨?sw105_39, ?yw105_39⟩) (by assumption) ?nw105_39
        case hw105_39 => simp only [List.getElem?_toArray, List.getElem?_cons_succ, List.getElem?_cons_zero]; rfl
        case sw105_39 => rfl
        case yw105_39 => rfl
        try simp only [Act.put, List.setIfInBounds_toArray, List.set_cons_zero, List.set_cons_succ]
        refine hR.take (i := 40) (oi := ?ow106_40) (v := ?vw106_40) (m' := 2199023255551) ?hw106_40 (by kernel_rfl) (by kernel_rfl) (fun _ _ _ h => h) (Or.inr ⟨?sw106_40, ?yw106_40⟩) (by assumption) ?nw106_40
        case hw106_40 => simp only [List.getElem?_toArray, List.getElem?_cons_succ, List.getElem?_cons_zero]; rfl
        case sw106_40 => rfl
        case yw106_40 => rfl
        try simp only [Act.put, List.setIfInBounds_toArray, List.set_cons_zero, List.set_cons_succ]
        refine hR.take (i := 41) (oi := ?ow107_41) (v := ?vw107_41) (m' := 4398046511103) ?hw107_41 (by kernel_rfl) (by kernel_rfl) (fun _ _ _ h => h) (Or.inr ⟨?sw107_41, ?yw107_41⟩) (by assumption) ?nw107_41
        case hw107_41 => simp only [List.getElem?_toArray, List.getElem?_cons_succ, List.getElem?_cons_zero]; rfl
        case sw107_41 => rfl
        case yw107_41 => rfl
        try simp only [Act.put, List.setIfInBounds_toArray, List.set_cons_zero, List.set_cons_succ]
        refine hR.take (i := 42) (oi := ?ow108_42) (v := ?vw108_42) (m' := 8796093022207) ?hw108_42 (by kernel_rfl) (by kernel_rfl) (fun _ _ _ h => h) (Or.inr ⟨?sw108_42, ?yw108_42⟩) (by assumption) ?nw108_42
        case hw108_42 => simp only [List.getElem?_toArray, List.getElem?_cons_succ, List.getElem?_cons_zero]; rfl
        case sw108_42 => rfl
        case yw108_42 => rfl
        try simp only [Act.put, List.setIfInBounds_toArray, List.set_cons_zero, List.set_cons_succ]
        refine hR.take (i := 43) (oi := ?ow109_43) (v := ?vw109_43) (m' := 17592186044415) ?hw109_43 (by kernel_rfl) (by kernel_rfl) (fun _ _ _ h => h) (Or.inr ⟨?sw109_43, ?yw109_43⟩) (by assumption) ?nw109_43
        case hw109_43 => simp only [List.getElem?_toArray, List.getElem?_cons_succ, List.getElem?_cons_zero]; rfl
        case sw109_43 => rfl
        case yw109_43 => rfl
        try simp only [Act.put, List.setIfInBounds_toArray, List.set_cons_zero, List.set_cons_succ]
        refine hR.take (i := 44) (oi := ?ow110_44) (v := ?vw110_44) (m' := 35184372088831) ?hw110_44 (by kernel_rfl) (by kernel_rfl) (fun _ _ _ h => h) (Or.inr ⟨?sw110_44, ?yw110_44⟩) (by assumption) ?nw110_44
        case hw110_44 => simp only [List.getElem?_toArray, List.getElem?_cons_succ, List.getElem?_cons_zero]; rfl
        case sw110_44 => rfl
        case yw110_44 => rfl
        try simp only [Act.put, List.setIfInBounds_toArray, List.set_cons_zero, List.set_cons_succ]
        refine hR.take (i := 45) (oi := ?ow111_45) (v := ?vw111_45) (m' := 70368744177663) ?hw111_45 (by kernel_rfl) (by kernel_rfl) (fun _ _ _ h => h) (Or.inr ⟨?sw111_45, ?yw111_45⟩) (by assumption) ?nw111_45
        case hw111_45 => simp only [List.getElem?_toArray, List.getElem?_cons_succ, List.getElem?_cons_zero]; rfl
        case sw111_45 => rfl
        case yw111_45 => rfl
        try simp only [Act.put, List.setIfInBounds_toArray, List.set_cons_zero, List.set_cons_succ]
        refine hR.take (i := 46) (oi := ?ow112_46) (v := ?vw112_46) (m' := 140737488355327) ?hw112_46 (by kernel_rfl) (by kernel_rfl) (fun _ _ _ h => h) (Or.inr ⟨?sw112_46, ?yw112_46⟩) (by assumption) ?nw112_46
        case hw112_46 => simp only [List.getElem?_toArray, List.getElem?_cons_succ, List.getElem?_cons_zero]; rfl
        case sw112_46 => rfl
        case yw112_46 => rfl
        try simp only [Act.put, List.setIfInBounds_toArray, List.set_cons_zero, List.set_cons_succ]
        refine hR.take (i := 47) (oi := ?ow113_47) (v := ?vw113_47) (m' := 281474976710655) ?hw113_47 (by kernel_rfl) (by kernel_rfl) (fun _ _ _ h => h) (Or.inr ⟨?sw113_47, ?yw113_47⟩) (by assumption) ?nw113_47
        case hw113_47 => simp only [List.getElem?_toArray, List.getElem?_cons_succ, List.getElem?_cons_zero]; rfl
        case sw113_47 => rfl
        case yw113_47 => rfl
        try simp only [Act.put, List.setIfInBounds_toArray, List.set_cons_zero, List.set_cons_succ]
        refine hR.take (i := 48) (oi := ?ow114_48) (v := ?vw114_48) (m' := 562949953421311) ?hw114_48 (by kernel_rfl) (by kernel_rfl) (fun _ _ _ h => h) (Or.inl ⟨?sw114_48, ?yw114_48⟩) (by assumption) ?nw114_48
        case hw114_48 => simp only [List.getElem?_toArray, List.getElem?_cons_succ, List.getElem?_cons_zero]; rfl
        case sw114_48 => rfl
        case yw114_48 => (intro w hSw; (try dsimp only at hSw); go_simp <;> with_reducible rfl)
        try simp only [Act.put, List.setIfInBounds_toArray, List.set_cons_zero, List.set_cons_succ]
        refine hR.all (by kernel_rfl) ?_ _
        refine NoPanic.normal ?_
        go_wp2_with fail
        go_ret
        exact ⟨ret_b (not_cd (List.mem_of_getElem? Hx.out) hv.out).symm, Hb.out.drew⟩
      have f2 : (3 < x.col) = False := eq_false c2
      by_cases c3 : x.lo < 0
      · have f3 : (x.lo < 0) = True := eq_true c3
        have hv := Lib.hid (show validCdB x = false from decide_eq_false (fun h => by unfold ValidCd at h; omega))
        refine wp_region_noPanic ?_
        refine wp_region_held_drew (S := fun X => Below wr.heap.size wr X) (by kernel_rfl) ?_ (fun hHeld => ?_)
        · (first | with_reducible assumption | (with_reducible refine Below.drew ?_; with_reducible assumption) | (with_reducible refine ba _ _ ?_; with_reducible assumption) | (with_reducible refine Below.drew ?_; with_reducible refine ba _ _ ?_; with_reducible assumption) | exact Below.refl _ _ | exact (Below.refl _ _).drew | exact (Below.refl _ _).alloc (Nat.le_refl _) _ | (refine bc _ _ (by assumption) (by assumption)))
        refine RegOk.begin_ (n := 49) (T := q5A) ⟨by kernel_rfl, by kernel_rfl, by kernel_rfl, by kernel_rfl⟩ fun hR => ?_
        refine hR.take (i := 0) (oi := ?ow115_0) (v := ?vw115_0) (m' := 1) ?hw115_0 (by kernel_rfl) (by kernel_rfl) (fun _ _ _ h => h) (Or.inl ⟨?sw115_0, ?yw115_0⟩) (by assumption) ?nw115_0
        case hw115_0 => simp only [List.getElem?_toArray, List.getElem?_cons_succ, List.getElem?_cons_zero]; rfl
        case sw115_0 => rfl
        case yw115_0 => (intro w hSw; (try dsimp only at hSw); go_simp <;> with_reducible rfl)
        try simp only [Act.put, List.setIfInBounds_toArray, List.set_cons_zero, List.set_cons_succ]
        refine hR.take (i := 1) (oi := ?ow116_1) (v := ?vw116_1) (m' := 3) ?hw116_1 (by kernel_rfl) (by kernel_rfl) (fun _ _ _ h => h) (Or.inl ⟨?sw116_1, ?yw116_1⟩) (by assumption) ?nw116_1
        case hw116_1 => simp only [List.getElem?_toArray, List.getElem?_cons_succ, List.getElem?_cons_zero]; rfl
        case sw116_1 => rfl
        case yw116_1 => (intro w hSw; (try dsimp only at hSw); go_simp <;> with_reducible rfl)
        try simp only [Act.put, List.setIfInBounds_toArray, List.set_cons_zero, List.set_cons_succ]
        refine hR.take (i := 2) (oi := ?ow117_2) (v := ?vw117_2) (m' := 7) ?hw117_2 (by kernel_rfl) (by kernel_rfl) (fun _ _ _ h => h) (Or.inl ⟨?sw117_2, ?yw117_2⟩) (by assumption) ?nw117_2
        case hw117_2 => simp only [List.getElem?_toArray, List.getElem?_cons_succ, List.getElem?_cons_zero]; rfl
        case sw117_2 => rfl
        case yw117_2 => (intro w hSw; (try dsimp only at hSw); go_simp <;> with_reducible rfl)
        try simp only [Act.put, List.setIfInBounds_toArray, List.set_cons_zero, List.set_cons_succ]
        refine hR.take (i := 3) (oi := ?ow118_3) (v := ?vw118_3) (m' := 15) ?hw118_3 (by kernel_rfl) (by kernel_rfl) (fun _ _ _ h => h) (Or.inl ⟨?sw118_3, ?yw118_3⟩) (by assumption) ?nw118_3
        case hw118_3 => simp only [List.getElem?_toArray, List.getElem?_cons_succ, List.getElem?_cons_zero]; rfl
        case sw118_3 => rfl
        case yw118_3 => (intro w hSw; (try dsimp only at hSw); go_simp <;> with_reducible rfl)
        try simp only [Act.put, List.setIfInBounds_toArray, List.set_cons_zero, List.set_cons_succ]
        refine hR.take (i := 4) (oi := ?ow119_4) (v := ?vw119_4) (m' := 31) ?hw119_4 (by kernel_rfl) (by kernel_rfl) (fun _ _ _ h => h) (Or.inl ⟨?sw119_4, ?yw119_4⟩) (by assumption) ?nw119_4
        case hw119_4 => simp only [List.getElem?_toArray, List.getElem?_cons_succ, List.getElem?_cons_zero]; rfl
        case sw119_4 => rfl
        case yw119_4 => (intro w hSw; (try dsimp only at hSw); go_simp <;> with_reducible rfl)
        try simp only [Act.put, List.setIfInBounds_toArray, List.set_cons_zero, List.set_cons_succ]
        refine hR.take (i := 5) (oi := ?ow120_5) (v := ?vw120_5) (m' := 63) ?hw120_5 (by kernel_rfl) (by kernel_rfl) (fun _ _ _ h => h) (Or.inl ⟨?sw120_5, ?yw120_5⟩) (by assumption) ?nw120_5
        case hw120_5 => simp only [List.getElem?_toArray, List.getElem?_cons_succ, List.getElem?_cons_zero]; rfl
        case sw120_5 => rfl
        case yw120_5 => (intro w hSw; (try dsimp only at hSw); go_simp <;> with_reducible rfl)
        try simp only [Act.put, List.setIfInBounds_toArray, List.set_cons_zero, List.set_cons_succ]
        refine hR.take (i := 6) (oi := ?ow121_6) (v := ?vw121_6) (m' := 127) ?hw121_6 (by kernel_rfl) (by kernel_rfl) (fun _ _ _ h => h) (Or.inl ⟨?sw121_6, ?yw121_6⟩) (by assumption) ?nw121_6
        case hw121_6 => simp only [List.getElem?_toArray, List.getElem?_cons_succ, List.getElem?_cons_zero]; rfl
        case sw121_6 => rfl
        case yw121_6 => (intro w hSw; (try dsimp only at hSw); go_simp <;> with_reducible rfl)
        try simp only [Act.put, List.setIfInBounds_toArray, List.set_cons_zero, List.set_cons_succ]
        refine hR.take (i := 7) (oi := ?ow122_7) (v := ?vw122_7) (m' := 255) ?hw122_7 (by kernel_rfl) (by kernel_rfl) (fun _ _ _ h => h) (Or.inl ⟨?sw122_7, ?yw122_7⟩) (by assumption) ?nw122_7
        case hw122_7 => simp only [List.getElem?_toArray, List.getElem?_cons_succ, List.getElem?_cons_zero]; rfl
        case sw122_7 => rfl
        case yw122_7 => (intro w hSw; (try dsimp only at hSw); go_simp <;> with_reducible rfl)
        try simp only [Act.put, List.setIfInBounds_toArray, List.set_cons_zero, List.set_cons_succ]
        refine hR.take (i := 8) (oi := ?ow123_8) (v := ?vw123_8) (m' := 511) ?hw123_8 (by kernel_rfl) (by kernel_rfl) (fun _ _ _ h => h) (Or.inl ⟨?sw123_8, ?yw123_8⟩) (by assumption) ?nw123_8
        case hw123_8 => simp only [List.getElem?_toArray, List.getElem?_cons_succ, List.getElem?_cons_zero]; rfl
        case sw123_8 => rfl
        case yw123_8 => (intro w hSw; (try dsimp only at hSw); go_simp <;> with_reducible rfl)
        try simp only [Act.put, List.setIfInBounds_toArray, List.set_cons_zero, List.set_cons_succ]
        refine hR.take (i := 9) (oi := ?ow124_9) (v := ?vw124_9) (m' := 1023) ?hw124_9 (by kernel_rfl) (by kernel_rfl) (fun _ _ _ h => h) (Or.inl ⟨?sw124_9, ?yw124_9⟩) (by assumption) ?nw124_9
        case hw124_9 => simp only [List.getElem?_toArray, List.getElem?_cons_succ, List.getElem?_cons_zero]; rfl
        case sw124_9 => rfl
        case yw124_9 => (intro w hSw; (try dsimp only at hSw); go_simp <;> with_reducible rfl)
        try simp only [Act.put, List.setIfInBounds_toArray, List.set_cons_zero, List.set_cons_succ]
        refine hR.take (i := 10) (oi := ?ow125_10) (v := ?vw125_10) (m' := 2047) ?hw125_10 (by kernel_rfl) (by kernel_rfl) (fun _ _ _ h => h) (Or.inl ⟨?sw125_10, ?yw125_10⟩) (by assumption) ?nw125_10
        case hw125_10 => simp only [List.getElem?_toArray, List.getElem?_cons_succ, List.getElem?_cons_zero]; rfl
        case sw125_10 => rfl
        case yw125_10 => (intro w hSw; (try dsimp only at hSw); go_simp <;> with_reducible rfl)
        try simp only [Act.put, List.setIfInBounds_toArray, List.set_cons_zero, List.set_cons_succ]
        refine hR.take (i := 11) (oi := ?ow126_11) (v := ?vw126_11) (m' := 4095) ?hw126_11 (by kernel_rfl) (by kernel_rfl) (fun _ _ _ h => h) (Or.inl ⟨?sw126_11, ?yw126_11⟩) (by assumption) ?nw126_11
        case hw126_11 => simp only [List.getElem?_toArray, List.getElem?_cons_succ, List.getElem?_cons_zero]; rfl
        case sw126_11 => rfl
        case yw126_11 => (intro w hSw; (try dsimp only at hSw); go_simp <;> with_reducible rfl)
        try simp only [Act.put, List.setIfInBounds_toArray, List.set_cons_zero, List.set_cons_succ]
        refine hR.take (i := 12) (oi := ?ow127_12) (v := ?vw127_12) (m' := 8191) ?hw127_12 (by kernel_rfl) (by kernel_rfl) (fun _ _ _ h => h) (Or.inl ⟨?sw127_12, ?yw127_12⟩) (by assumption) ?nw127_12
        case hw127_12 => simp only [List.getElem?_toArray, List.getElem?_cons_succ, List.getElem?_cons_zero]; rfl
        case sw127_12 => rfl
        case yw127_12 => (intro w hSw; (try dsimp only at hSw); go_simp <;> with_reducible rfl)
        try simp only [Act.put, List.setIfInBounds_toArray, List.set_cons_zero, List.set_cons_succ]
        refine hR.take (i := 13) (oi := ?ow128_13) (v := ?vw128_13) (m' := 16383) ?hw128_13 (by kernel_rfl) (by kernel_rfl) (fun _ _ _ h => h) (Or.inl ⟨?sw128_13, ?yw128_13⟩) (by assumption) ?nw128_13
        case hw128_13 => simp only [List.getElem?_toArray, List.getElem?_cons_succ, List.getElem?_cons_zero]; rfl
        case sw128_13 => rfl
        case yw128_13 => (intro w hSw; (try dsimp only at hSw); go_simp <;> with_reducible rfl)
        try simp only [Act.put, List.setIfInBounds_toArray, List.set_cons_zero, List.set_cons_succ]
        refine hR.take (i := 14) (oi := ?ow129_14) (v := ?vw129_14) (m' := 32767) ?hw129_14 (by kernel_rfl) (by kernel_rfl) (fun _ _ _ h => h) (Or.inl ⟨?sw129_14, ?yw129_14⟩) (by assumption) ?nw129_14
        case hw129_14 => simp only [List.getElem?_toArray, List.getElem?_cons_succ, List.getElem?_cons_zero]; rfl
        case sw129_14 => rfl
        case yw129_14 => (intro w hSw; (try dsimp only at hSw); go_simp <;> with_reducible rfl)
        try simp only [Act.put, List.setIfInBounds_toArray, List.set_cons_zero, List.set_cons_succ]
        refine hR.take (i := 15) (oi := ?ow130_15) (v := ?vw130_15) (m' := 65535) ?hw130_15 (by kernel_rfl) (by kernel_rfl) (fun _ _ _ h => h) (Or.inl ⟨?sw130_15, ?yw130_15⟩) (by assumption) ?nw130_15
        case hw130_15 => simp only [List.getElem?_toArray, List.getElem?_cons_succ, List.getElem?_cons_zero]; rfl
        case sw130_15 => rfl
        case yw130_15 => (intro w hSw; (try dsimp only at hSw); go_simp <;> with_reducible rfl)
        try simp only [Act.put, List.setIfInBounds_toArray, List.set_cons_zero, List.set_cons_succ]
        refine hR.take (i := 16) (oi := ?ow131_16) (v := ?vw131_16) (m' := 131071) ?hw131_16 (by kernel_rfl) (by kernel_rfl) (fun _ _ _ h => h) (Or.inl ⟨?sw131_16, ?yw131_16⟩) (by assumption) ?nw131_16
        case hw131_16 => simp only [List.getElem?_toArray, List.getElem?_cons_succ, List.getElem?_cons_zero]; rfl
        case sw131_16 => rfl
        case yw131_16 => (intro w hSw; (try dsimp only at hSw); go_simp <;> with_reducible rfl)
        try simp only [Act.put, List.setIfInBounds_toArray, List.set_cons_zero, List.set_cons_succ]
        refine hR.take (i := 17) (oi := ?ow132_17) (v := ?vw132_17) (m' := 262143) ?hw132_17 (by kernel_rfl) (by kernel_rfl) (fun _ _ _ h => h) (Or.inl ⟨?sw132_17, ?yw132_17⟩) (by assumption) ?nw132_17
        case hw132_17 => simp only [List.getElem?_toArray, List.getElem?_cons_succ, List.getElem?_cons_zero]; rfl
        case sw132_17 => rfl
        case yw132_17 => (intro w hSw; (try dsimp only at hSw); go_simp <;> with_reducible rfl)
        try simp only [Act.put, List.setIfInBounds_toArray, List.set_cons_zero, List.set_cons_succ]
        refine hR.take (i := 18) (oi := ?ow133_18) (v := ?vw133_18) (m' := 524287) ?hw133_18 (by kernel_rfl) (by kernel_rfl) (fun _ _ _ h => h) (Or.inl ⟨?sw133_18, ?yw133_18⟩) (by assumption) ?nw133_18
        case hw133_18 => simp only [List.getElem?_toArray, List.getElem?_cons_succ, List.getElem?_cons_zero]; rfl
        case sw133_18 => rfl
        case yw133_18 => (intro w hSw; (try dsimp only at hSw); go_simp <;> with_reducible rfl)
        try simp only [Act.put, List.setIfInBounds_toArray, List.set_cons_zero, List.set_cons_succ]
        refine hR.take (i := 19) (oi := ?ow134_19) (v := ?vw134_19) (m' := 1048575) ?hw134_19 (by kernel_rfl) (by kernel_rfl) (fun _ _ _ h => h) (Or.inl ⟨?sw134_19, ?yw134_19⟩) (by assumption) ?nw134_19
        case hw134_19 => simp only [List.getElem?_toArray, List.getElem?_cons_succ, List.getElem?_cons_zero]; rfl
        case sw134_19 => rfl
        case yw134_19 => (intro w hSw; (try dsimp only at hSw); go_simp <;> with_reducible rfl)
        try simp only [Act.put, List.setIfInBounds_toArray, List.set_cons_zero, List.set_cons_succ]
        refine hR.take (i := 20) (oi := ?ow135_20) (v := ?vw135_20) (m' := 2097151) ?hw135_20 (by kernel_rfl) (by kernel_rfl) (fun _ _ _ h => h) (Or.inl ⟨?sw135_20, ?yw135_20⟩) (by assumption) ?nw135_20
        case hw135_20 => simp only [List.getElem?_toArray, List.getElem?_cons_succ, List.getElem?_cons_zero]; rfl
        case sw135_20 => rfl
        case yw135_20 => (intro w hSw; (try dsimp only at hSw); go_simp <;> with_reducible rfl)
        try simp only [Act.put, List.setIfInBounds_toArray, List.set_cons_zero, List.set_cons_succ]
        refine hR.take (i := 21) (oi := ?ow136_21) (v := ?vw136_21) (m' := 4194303) ?hw136_21 (by kernel_rfl) (by kernel_rfl) (fun _ _ _ h => h) (Or.inl ⟨?sw136_21, ?yw136_21⟩) (by assumption) ?nw136_21
        case hw136_21 => simp only [List.getElem?_toArray, List.getElem?_cons_succ, List.getElem?_cons_zero]; rfl
        case sw136_21 => rfl
        case yw136_21 => (intro w hSw; (try dsimp only at hSw); go_simp <;> with_reducible rfl)
        try simp only [Act.put, List.setIfInBounds_toArray, List.set_cons_zero, List.set_cons_succ]
        refine hR.take (i := 22) (oi := ?ow137_22) (v := ?vw137_22) (m' := 8388607) ?hw137_22 (by kernel_rfl) (by kernel_rfl) (fun _ _ _ h => h) (Or.inl ⟨?sw137_22, ?yw137_22⟩) (by assumption) ?nw137_22
        case hw137_22 => simp only [List.getElem?_toArray, List.getElem?_cons_succ, List.getElem?_cons_zero]; rfl
        case sw137_22 => rfl
        case yw137_22 => (intro w hSw; (try dsimp only at hSw); go_simp <;> with_reducible rfl)
        try simp only [Act.put, List.setIfInBounds_toArray, List.set_cons_zero, List.set_cons_succ]
        refine hR.take (i := 23) (oi := ?ow138_23) (v := ?vw138_23) (m' := 16777215) ?hw138_23 (by kernel_rfl) (by kernel_rfl) (fun _ _ _ h => h) (Or.inr ⟨?sw138_23, ?yw138_23⟩) (by assumption) ?nw138_23
        case hw138_23 => simp only [List.getElem?_toArray, List.getElem?_cons_succ, List.getElem?_cons_zero]; rfl
        case sw138_23 => rfl
        case yw138_23 => rfl
        try simp only [Act.put, List.setIfInBounds_toArray, List.set_cons_zero, List.set_cons_succ]
        refine hR.take (i := 24) (oi := ?ow139_24) (v := ?vw139_24) (m' := 33554431) ?hw139_24 (by kernel_rfl) (by kernel_rfl) (fun _ _ _ h => h) (Or.inr ⟨?sw139_24, ?yw139_24⟩) (by assumption) ?nw139_24
        case hw139_24 => simp only [List.getElem?_toArray, List.getElem?_cons_succ, List.getElem?_cons_zero]; rfl
        case sw139_24 => rfl
        case yw139_24 => rfl
        try simp only [Act.put, List.setIfInBounds_toArray, List.set_cons_zero, List.set_cons_succ]
        refine hR.take (i := 25) (oi := ?ow140_25) (v := ?vw140_25) (m' := 67108863) ?hw140_25 (by kernel_rfl) (by kernel_rfl) (fun _ _ _ h => h) (Or.inr ⟨?sw140_25, ?yw140_25⟩) (by assumption) ?nw140_25
        case hw140_25 => simp only [List.getElem?_toArray, List.getElem?_cons_succ, List.getElem?_cons_zero]; rfl
        case sw140_25 => rfl
        case yw140_25 => rfl
        try simp only [Act.put, List.setIfInBounds_toArray, List.set_cons_zero, List.set_cons_succ]
        refine hR.take (i := 26) (oi := ?ow141_26) (v := ?vw141_26) (m' := 134217727) ?hw141_26 (by kernel_rfl) (by kernel_rfl) (fun _ _ _ h => h) (Or.inr ⟨?sw141_26, ?yw141_26⟩) (by assumption) ?nw141_26
        case hw141_26 => simp only [List.getElem?_toArray, List.getElem?_cons_succ, List.getElem?_cons_zero]; rfl
        case sw141_26 => rfl
        case yw141_26 => rfl
        try simp only [Act.put, List.setIfInBounds_toArray, List.set_cons_zero, List.set_cons_succ]
        refine hR.take (i := 27) (oi := ?ow142_27) (v := ?vw142_27) (m' := 268435455) ?hw142_27 (by kernel_rfl) (by kernel_rfl) (fun _ _ _ h => h) (Or.inr ⟨?sw142_27, ?yw142_27⟩) (by assumption) ?nw142_27
        case hw142_27 => simp only [List.getElem?_toArray, List.getElem?_cons_succ, List.getElem?_cons_zero]; rfl
        case sw142_27 => rfl
        case yw142_27 => rfl
        try simp only [Act.put, List.setIfInBounds_toArray, List.set_cons_zero, List.set_cons_succ]
        refine hR.take (i := 28) (oi := ?ow143_28) (v := ?vw143_28) (m' := 536870911) ?hw143_28 (by kernel_rfl) (by kernel_rfl) (fun _ _ _ h => h) (Or.inr ⟨?sw143_28, ?yw143_28⟩) (by assumption) ?nw143_28
        case hw143_28 => simp only [List.getElem?_toArray, List.getElem?_cons_succ, List.getElem?_cons_zero]; rfl
        case sw143_28 => rfl
        case yw143_28 => rfl
        try simp only [Act.put, List.setIfInBounds_toArray, List.set_cons_zero, List.set_cons_succ]
        refine hR.take (i := 29) (oi := ?ow144_29) (v := ?vw144_29) (m' := 1073741823) ?hw144_29 (by kernel_rfl) (by kernel_rfl) (fun _ _ _ h => h) (Or.inr ⟨?sw144_29, ?yw144_29⟩) (by assumption) ?nw144_29
        case hw144_29 => simp only [List.getElem?_toArray, List.getElem?_cons_succ, List.getElem?_cons_zero]; rfl
        case sw144_29 => rfl
        case yw144_29 => rfl
        try simp only [Act.put, List.setIfInBounds_toArray, List.set_cons_zero, List.set_cons_succ]
        refine hR.take (i := 30) (oi := ?ow145_30) (v := ?vw145_30) (m' := 2147483647) ?hw145_30 (by kernel_rfl) (by kernel_rfl) (fun _ _ _ h => h) (Or.inr ⟨?sw145_30, ?yw145_30⟩) (by assumption) ?nw145_30
        case hw145_30 => simp only [List.getElem?_toArray, List.getElem?_cons_succ, List.getElem?_cons_zero]; rfl
        case sw145_30 => rfl
        case yw145_30 => rfl
        try simp only [Act.put, List.setIfInBounds_toArray, List.set_cons_zero, List.set_cons_succ]
        refine hR.take (i := 31) (oi := ?ow146_31) (v := ?vw146_31) (m' := 4294967295) ?hw146_31 (by kernel_rfl) (by kernel_rfl) (fun _ _ _ h => h) (Or.inr ⟨?sw146_31, ?yw146_31⟩) (by assumption) ?nw146_31
        case hw146_31 => simp only [List.getElem?_toArray, List.getElem?_cons_succ, List.getElem?_cons_zero]; rfl
        case sw146_31 => rfl
        case yw146_31 => rfl
        try simp only [Act.put, List.setIfInBounds_toArray, List.set_cons_zero, List.set_cons_succ]
        refine hR.take (i := 32) (oi := ?ow147_32) (v := ?vw147_32) (m' := 8589934591) ?hw147_32 (by kernel_rfl) (by kernel_rfl) (fun _ _ _ h => h) (Or.inr ⟨?sw147_32, ?yw147_32⟩) (by assumption) ?nw147_32
        case hw147_32 => simp only [List.getElem?_toArray, List.getElem?_cons_succ, List.getElem?_cons_zero]; rfl
        case sw147_32 => rfl
        case yw147_32 => rfl
        try simp only [Act.put, List.setIfInBounds_toArray, List.set_cons_zero, List.set_cons_succ]
        refine hR.take (i := 33) (oi := ?ow148_33) (v := ?vw148_33) (m' := 17179869183) ?hw148_33 (by kernel_rfl) (by kernel_rfl) (fun _ _ _ h => h) (Or.inr ⟨?sw148_33, ?yw148_33⟩) (by assumption) ?nw148_33
        case hw148_33 => simp only [List.getElem?_toArray, List.getElem?_cons_succ, List.getElem?_cons_zero]; rfl
        case sw148_33 => rfl
        case yw148_33 => rfl
        try simp only [Act.put, List.setIfInBounds_toArray, List.set_cons_zero, List.set_cons_succ]
        refine hR.take (i := 34) (oi := ?ow149_34) (v := ?vw149_34) (m' := 34359738367) ?hw149_34 (by kernel_rfl) (by kernel_rfl) (fun _ _ _ h => h) (Or.inl ⟨?sw149_34, ?yw149_34⟩) (by assumption) ?nw149_34
        case hw149_34 => simp only [List.getElem?_toArray, List.getElem?_cons_succ, List.getElem?_cons_zero]; rfl
        case sw149_34 => rfl
        case yw149_34 => (intro w hSw; (try dsimp only at hSw); go_simp <;> with_reducible rfl)
        try simp only [Act.put, List.setIfInBounds_toArray, List.set_cons_zero, List.set_cons_succ]
        refine hR.take (i := 35) (oi := ?ow150_35) (v := ?vw150_35) (m' := 68719476735) ?hw150_35 (by kernel_rfl) (by kernel_rfl) (fun _ _ _ h => h) (Or.inl ⟨?sw150_35, ?yw150_35⟩) (by assumption) ?nw150_35
        case hw150_35 => simp only [List.getElem?_toArray, List.getElem?_cons_succ, List.getElem?_cons_zero]; rfl
        case sw150_35 => rfl
        case yw150_35 => (intro w hSw; (try dsimp only at hSw); go_simp <;> with_reducible rfl)
        try simp only [Act.put, List.setIfInBounds_toArray, List.set_cons_zero, List.set_cons_succ]
        refine hR.take (i := 36) (oi := ?ow151_36) (v := ?vw151_36) (m' := 137438953471) ?hw151_36 (by kernel_rfl) (by kernel_rfl) (fun _ _ _ h => h) (Or.inr ⟨?sw151_36, ?yw151_36⟩) (by assumption) ?nw151_36
        case hw151_36 => simp only [List.getElem?_toArray, List.getElem?_cons_succ, List.getElem?_cons_zero]; rfl
        case sw151_36 => rfl
        case yw151_36 => rfl
        try simp only [Act.put, List.setIfInBounds_toArray, List.set_cons_zero, List.set_cons_succ]
        refine hR.take (i := 37) (oi := ?ow152_37) (v := ?vw152_37) (m' := 274877906943) ?hw152_37 (by kernel_rfl) (by kernel_rfl) (fun _ _ _ h => h) (Or.inr ⟨?sw152_37, ?yw152_37⟩) (by assumption) ?nw152_37
        case hw152_37 => simp only [List.getElem?_toArray, List.getElem?_cons_succ, List.getElem?_cons_zero]; rfl
        case sw152_37 => rfl
        case yw152_37 => rfl
        try simp only [Act.put, List.setIfInBounds_toArray, List.set_cons_zero, List.set_cons_succ]
        refine hR.take (i := 38) (oi := ?ow153_38) (v := ?vw153_38) (m' := 549755813887) ?hw153_38 (by kernel_rfl) (by kernel_rfl) (fun _ _ _ h => h) (Or.inr ⟨?sw153_38, ?yw153_38⟩) (by assumption) ?nw153_38
        case hw153_38 => simp only [List.getElem?_toArray, List.getElem?_cons_succ, List.getElem?_cons_zero]; rfl
        case sw153_38 => rfl
        case yw153_38 => rfl
        try simp only [Act.put, List.setIfInBounds_toArray, List.set_cons_zero, List.set_cons_succ]
        refine hR.take (i := 39) (oi := ?ow154_39) (v := ?vw154_39) (m' := 1099511627775) ?hw154_39 (by kernel_rfl) (by kernel_rfl) (fun _ _ _ h => h) (Or.inr ⟨?sw154_39, ?yw154_39⟩) (by assumption) ?nw154_39
        case hw154_39 => simp only [List.getElem?_toArray, List.getElem?_cons_succ, List.getElem?_cons_zero]; rfl
        case sw154_39 => rfl
        case yw154_39 => rfl
        try simp only [Act.put, List.setIfInBounds_toArray, List.set_cons_zero, List.set_cons_succ]
        refine hR.take (i := 40) (oi := ?ow155_40) (v := ?vw155_40) (m' := 2199023255551) ?hw155_40 (by kernel_rfl) (by kernel_rfl) (fun _ _ _ h => h) (Or.inr ⟨?sw155_40, ?yw155_40⟩) (by assumption) ?nw155_40
        case hw155_40 => simp only [List.getElem?_toArray, List.getElem?_cons_succ, List.getElem?_cons_zero]; rfl
        case sw155_40 => rfl
        case yw155_40 => rfl
        try simp only [Act.put, List.setIfInBounds_toArray, List.set_cons_zero, List.set_cons_succ]
        refine hR.take (i := 41) (oi := ?ow156_41) (v := ?vw156_41) (m' := 4398046511103) ?hw156_41 (by kernel_rfl) (by kernel_rfl) (fun _ _ _ h => h) (Or.inr ⟨?sw156_41, ?yw156_41⟩) (by assumption) ?nw156_41
        case hw156_41 => simp only [List.getElem?_toArray, List.getElem?_cons_succ, List.getElem?_cons_zero]; rfl
        case sw156_41 => rfl
        case yw156_41 => rfl
        try simp only [Act.put, List.setIfInBounds_toArray, List.set_cons_zero, List.set_cons_succ]
        refine hR.take (i := 42) (oi := ?ow157_42) (v := ?vw157_42) (m' := 8796093022207) ?hw157_42 (by kernel_rfl) (by kernel_rfl) (fun _ _ _ h => h) (Or.inr ⟨?sw157_42, ?yw157_42⟩) (by assumption) ?nw157_42
        case hw157_42 => simp only [List.getElem?_toArray, List.getElem?_cons_succ, List.getElem?_cons_zero]; rfl
        case sw157_42 => rfl
        case yw157_42 => rfl
        try simp only [Act.put, List.setIfInBounds_toArray, List.set_cons_zero, List.set_cons_succ]
        refine hR.take (i := 43) (oi := ?ow158_43) (v := ?vw158_43) (m' := 17592186044415) ?hw158_43 (by kernel_rfl) (by kernel_rfl) (fun _ _ _ h => h) (Or.inr ⟨?sw158_43, ?yw158_43⟩) (by assumption) ?nw158_43
        case hw158_43 => simp only [List.getElem?_toArray, List.getElem?_cons_succ, List.getElem?_cons_zero]; rfl
        case sw158_43 => rfl
        case yw158_43 => rfl
        try simp only [Act.put, List.setIfInBounds_toArray, List.set_cons_zero, List.set_cons_succ]
        refine hR.take (i := 44) (oi := ?ow159_44) (v := ?vw159_44) (m' := 35184372088831) ?hw159_44 (by kernel_rfl) (by kernel_rfl) (fun _ _ _ h => h) (Or.inr ⟨?sw159_44, ?yw159_44⟩) (by assumption) ?nw159_44
        case hw159_44 => simp only [List.getElem?_toArray, List.getElem?_cons_succ, List.getElem?_cons_zero]; rfl
        case sw159_44 => rfl
        case yw159_44 => rfl
        try simp only [Act.put, List.setIfInBounds_toArray, List.set_cons_zero, List.set_cons_succ]
        refine hR.take (i := 45) (oi := ?ow160_45) (v := ?vw160_45) (m' := 70368744177663) ?hw160_45 (by kernel_rfl) (by kernel_rfl) (fun _ _ _ h => h) (Or.inr ⟨?sw160_45, ?yw160_45⟩) (by assumption) ?nw160_45
        case hw160_45 => simp only [List.getElem?_toArray, List.getElem?_cons_succ, List.getElem?_cons_zero]; rfl
        case sw160_45 => rfl
        case yw160_45 => rfl
        try simp only [Act.put, List.setIfInBounds_toArray, List.set_cons_zero, List.set_cons_succ]
        refine hR.take (i := 46) (oi := ?ow161_46) (v := ?vw161_46) (m' := 140737488355327) ?hw161_46 (by kernel_rfl) (by kernel_rfl) (fun _ _ _ h => h) (Or.inr ⟨?sw161_46, ?yw161_46⟩) (by assumption) ?nw161_46
        case hw161_46 => simp only [List.getElem?_toArray, List.getElem?_cons_succ, List.getElem?_cons_zero]; rfl
        case sw161_46 => rfl
        case yw161_46 => rfl
        try simp only [Act.put, List.setIfInBounds_toArray, List.set_cons_zero, List.set_cons_succ]
        refine hR.take (i := 47) (oi := ?ow162_47) (v := ?vw162_47) (m' := 281474976710655) ?hw162_47 (by kernel_rfl) (by kernel_rfl) (fun _ _ _ h => h) (Or.inr ⟨?sw162_47, ?yw162_47⟩) (by assumption) ?nw162_47
        case hw162_47 => simp only [List.getElem?_toArray, List.getElem?_cons_succ, List.getElem?_cons_zero]; rfl
        case sw162_47 => rfl
        case yw162_47 => rfl
        try simp only [Act.put, List.setIfInBounds_toArray, List.set_cons_zero, List.set_cons_succ]
        refine hR.take (i := 48) (oi := ?ow163_48) (v := ?vw163_48) (m' := 562949953421311) ?hw163_48 (by kernel_rfl) (by kernel_rfl) (fun _ _ _ h => h) (Or.inl ⟨?sw163_48, ?yw163_48⟩) (by assumption) ?nw163_48
        case hw163_48 => simp only [List.getElem?_toArray, List.getElem?_cons_succ, List.getElem?_cons_zero]; rfl
        case sw163_48 => rfl
        case yw163_48 => (intro w hSw; (try dsimp only at hSw); go_simp <;> with_reducible rfl)
        try simp only [Act.put, List.setIfInBounds_toArray, List.set_cons_zero, List.set_cons_succ]
        refine hR.all (by kernel_rfl) ?_ _
        refine NoPanic.normal ?_
        go_wp2_with fail
        go_ret
        exact ⟨ret_b (not_cd (List.mem_of_getElem? Hx.out) hv.out).symm, Hb.out.drew⟩
      have f3 : (x.lo < 0) = False := eq_false c3
      by_cases c4 : x.hi < x.lo
      · have f4 : (x.hi < x.lo) = True := eq_true c4
        have hv := Lib.hid (show validCdB x = false from decide_eq_false (fun h => by unfold ValidCd at h; omega))
        refine wp_region_noPanic ?_
        refine wp_region_held_drew (S := fun X => Below wr.heap.size wr X) (by kernel_rfl) ?_ (fun hHeld => ?_)
        · (first | with_reducible assumption | (with_reducible refine Below.drew ?_; with_reducible assumption) | (with_reducible refine ba _ _ ?_; with_reducible assumption) | (with_reducible refine Below.drew ?_; with_reducible refine ba _ _ ?_; with_reducible assumption) | exact Below.refl _ _ | exact (Below.refl _ _).drew | exact (Below.refl _ _).alloc (Nat.le_refl _) _ | (refine bc _ _ (by assumption) (by assumption)))
        refine RegOk.begin_ (n := 49) (T := q5A) ⟨by kernel_rfl, by kernel_rfl, by kernel_rfl, by kernel_rfl⟩ fun hR => ?_
        refine hR.take (i := 0) (oi := ?ow164_0) (v := ?vw164_0) (m' := 1) ?hw164_0 (by kernel_rfl) (by kernel_rfl) (fun _ _ _ h => h) (Or.inl ⟨?sw164_0, ?yw164_0⟩) (by assumption) ?nw164_0
        case hw164_0 => simp only [List.getElem?_toArray, List.getElem?_cons_succ, List.getElem?_cons_zero]; rfl
        case sw164_0 => rfl
        case yw164_0 => (intro w hSw; (try dsimp only at hSw); go_simp <;> with_reducible rfl)
        try simp only [Act.put, List.setIfInBounds_toArray, List.set_cons_zero, List.set_cons_succ]
        refine hR.take (i := 1) (oi := ?ow165_1) (v := ?vw165_1) (m' := 3) ?hw165_1 (by kernel_rfl) (by kernel_rfl) (fun _ _ _ h => h) (Or.inl ⟨?sw165_1, ?yw165_1⟩) (by assumption) ?nw165_1
        case hw165_1 => simp only [List.getElem?_toArray, List.getElem?_cons_succ, List.getElem?_cons_zero]; rfl
        case sw165_1 => rfl
        case yw165_1 => (intro w hSw; (try dsimp only at hSw); go_simp <;> with_reducible rfl)
        try simp only [Act.put, List.setIfInBounds_toArray, List.set_cons_zero, List.set_cons_succ]
        refine hR.take (i := 2) (oi := ?ow166_2) (v := ?vw166_2) (m' := 7) ?hw166_2 (by kernel_rfl) (by kernel_rfl) (fun _ _ _ h => h) (Or.inl ⟨?sw166_2, ?yw166_2⟩) (by assumption) ?nw166_2
        case hw166_2 => simp only [List.getElem?_toArray, List.getElem?_cons_succ, List.getElem?_cons_zero]; rfl
        case sw166_2 => rfl
        case yw166_2 => (intro w hSw; (try dsimp only at hSw); go_simp <;> with_reducible rfl)
        try simp only [Act.put, List.setIfInBounds_toArray, List.set_cons_zero, List.set_cons_succ]
        refine hR.take (i := 3) (oi := ?ow167_3) (v := ?vw167_3) (m' := 15) ?hw167_3 (by kernel_rfl) (by kernel_rfl) (fun _ _ _ h => h) (Or.inl ⟨?sw167_3, ?yw167_3⟩) (by assumption) ?nw167_3
        case hw167_3 => simp only [List.getElem?_toArray, List.getElem?_cons_succ, List.getElem?_cons_zero]; rfl
        case sw167_3 => rfl
        case yw167_3 => (intro w hSw; (try dsimp only at hSw); go_simp <;> with_reducible rfl)
        try simp only [Act.put, List.setIfInBounds_toArray, List.set_cons_zero, List.set_cons_succ]
        refine hR.take (i := 4) (oi := ?ow168_4) (v := ?vw168_4) (m' := 31) ?hw168_4 (by kernel_rfl) (by kernel_rfl) (fun _ _ _ h => h) (Or.inl ⟨?sw168_4, ?yw168_4⟩) (by assumption) ?nw168_4
        case hw168_4 => simp only [List.getElem?_toArray, List.getElem?_cons_succ, List.getElem?_cons_zero]; rfl
        case sw168_4 => rfl
        case yw168_4 => (intro w hSw; (try dsimp only at hSw); go_simp <;> with_reducible rfl)
        try simp only [Act.put, List.setIfInBounds_toArray, List.set_cons_zero, List.set_cons_succ]
        refine hR.take (i := 5) (oi := ?ow169_5) (v := ?vw169_5) (m' := 63) ?hw169_5 (by kernel_rfl) (by kernel_rfl) (fun _ _ _ h => h) (Or.inl ⟨?sw169_5, ?yw169_5⟩) (by assumption) ?nw169_5
        case hw169_5 => simp only [List.getElem?_toArray, List.getElem?_cons_succ, List.getElem?_cons_zero]; rfl
        case sw169_5 => rfl
        case yw169_5 => (intro w hSw; (try dsimp only at hSw); go_simp <;> with_reducible rfl)
        try simp only [Act.put, List.setIfInBounds_toArray, List.set_cons_zero, List.set_cons_succ]
        refine hR.take (i := 6) (oi := ?ow170_6) (v := ?vw170_6) (m' := 127) ?hw170_6 (by kernel_rfl) (by kernel_rfl) (fun _ _ _ h => h) (Or.inl ⟨?sw170_6, ?yw170_6⟩) (by assumption) ?nw170_6
        case hw170_6 => simp only [List.getElem?_toArray, List.getElem?_cons_succ, List.getElem?_cons_zero]; rfl
        case sw170_6 => rfl
        case yw170_6 => (intro w hSw; (try dsimp only at hSw); go_simp <;> with_reducible rfl)
        try simp only [Act.put, List.setIfInBounds_toArray, List.set_cons_zero, List.set_cons_succ]
        refine hR.take (i := 7) (oi := ?ow171_7) (v := ?vw171_7) (m' := 255) ?hw171_7 (by kernel_rfl) (by kernel_rfl) (fun _ _ _ h => h) (Or.inl ⟨?sw171_7, ?yw171_7⟩) (by assumption) ?nw171_7
        case hw171_7 => simp only [List.getElem?_toArray, List.getElem?_cons_succ, List.getElem?_cons_zero]; rfl
        case sw171_7 => rfl
        case yw171_7 => (intro w hSw; (try dsimp only at hSw); go_simp <;> with_reducible rfl)
        try simp only [Act.put, List.setIfInBounds_toArray, List.set_cons_zero, List.set_cons_succ]
        refine hR.take (i := 8) (oi := ?ow172_8) (v := ?vw172_8) (m' := 511) ?hw172_8 (by kernel_rfl) (by kernel_rfl) (fun _ _ _ h => h) (Or.inl ⟨?sw172_8, ?yw172_8⟩) (by assumption) ?nw172_8
        case hw172_8 => simp only [List.getElem?_toArray, List.getElem?_cons_succ, List.getElem?_cons_zero]; rfl
        case sw172_8 => rfl
        case yw172_8 => (intro w hSw; (try dsimp only at hSw); go_simp <;> with_reducible rfl)
        try simp only [Act.put, List.setIfInBounds_toArray, List.set_cons_zero, List.set_cons_succ]
        refine hR.take (i := 9) (oi := ?ow173_9) (v := ?vw173_9) (m' := 1023) ?hw173_9 (by kernel_rfl) (by kernel_rfl) (fun _ _ _ h => h) (Or.inl ⟨?sw173_9, ?yw173_9⟩) (by assumption) ?nw173_9
        case hw173_9 => simp only [List.getElem?_toArray, List.getElem?_cons_succ, List.getElem?_cons_zero]; rfl
        case sw173_9 => rfl
        case yw173_9 => (intro w hSw; (try dsimp only at hSw); go_simp <;> with_reducible rfl)
        try simp only [Act.put, List.setIfInBounds_toArray, List.set_cons_zero, List.set_cons_succ]
        refine hR.take (i := 10) (oi := ?ow174_10) (v := ?vw174_10) (m' := 2047) ?hw174_10 (by kernel_rfl) (by kernel_rfl) (fun _ _ _ h => h) (Or.inl ⟨?sw174_10, ?yw174_10⟩) (by assumption) ?nw174_10
        case hw174_10 => simp only [List.getElem?_toArray, List.getElem?_cons_succ, List.getElem?_cons_zero]; rfl
        case sw174_10 => rfl
        case yw174_10 => (intro w hSw; (try dsimp only at hSw); go_simp <;> with_reducible rfl)
        try simp only [Act.put, List.setIfInBounds_toArray, List.set_cons_zero, List.set_cons_succ]
        refine hR.take (i := 11) (oi := ?ow175_11) (v := ?vw175_11) (m' := 4095) ?hw175_11 (by kernel_rfl) (by kernel_rfl) (fun _ _ _ h => h) (Or.inl ⟨?sw175_11, ?yw175_11⟩) (by assumption) ?nw175_11
        case hw175_11 => simp only [List.getElem?_toArray, List.getElem?_cons_succ, List.getElem?_cons_zero]; rfl
        case sw175_11 => rfl
        case yw175_11 => (intro w hSw; (try dsimp only at hSw); go_simp <;> with_reducible rfl)
        try simp only [Act.put, List.setIfInBounds_toArray, List.set_cons_zero, List.set_cons_succ]
        refine hR.take (i := 12) (oi := ?ow176_12) (v := ?vw176_12) (m' := 8191) ?hw176_12 (by kernel_rfl) (by kernel_rfl) (fun _ _ _ h => h) (Or.inl ⟨?sw176_12, ?yw176_12⟩) (by assumption) ?nw176_12
        case hw176_12 => simp only [List.getElem?_toArray, List.getElem?_cons_succ, List.getElem?_cons_zero]; rfl
        case sw176_12 => rfl
        case yw176_12 => (intro w hSw; (try dsimp only at hSw); go_simp <;> with_reducible rfl)
        try simp only [Act.put, List.setIfInBounds_toArray, List.set_cons_zero, List.set_cons_succ]
        refine hR.take (i := 13) (oi := ?ow177_13) (v := ?vw177_13) (m' := 16383) ?hw177_13 (by kernel_rfl) (by kernel_rfl) (fun _ _ _ h => h) (Or.inl ⟨?sw177_13, ?yw177_13⟩) (by assumption) ?nw177_13
        case hw177_13 => simp only [List.getElem?_toArray, List.getElem?_cons_succ, List.getElem?_cons_zero]; rfl
        case sw177_13 => rfl
        case yw177_13 => (intro w hSw; (try dsimp only at hSw); go_simp <;> with_reducible rfl)
        try simp only [Act.put, List.setIfInBounds_toArray, List.set_cons_zero, List.set_cons_succ]
        refine hR.take (i := 14) (oi := ?ow178_14) (v := ?vw178_14) (m' := 32767) ?hw178_14 (by kernel_rfl) (by kernel_rfl) (fun _ _ _ h => h) (Or.inl ⟨?sw178_14, ?yw178_14⟩) (by assumption) ?nw178_14
        case hw178_14 => simp only [List.getElem?_toArray, List.getElem?_cons_succ, List.getElem?_cons_zero]; rfl
        case sw178_14 => rfl
        case yw178_14 => (intro w hSw; (try dsimp only at hSw); go_simp <;> with_reducible rfl)
        try simp only [Act.put, List.setIfInBounds_toArray, List.set_cons_zero, List.set_cons_succ]
        refine hR.take (i := 15) (oi := ?ow179_15) (v := ?vw179_15) (m' := 65535) ?hw179_15 (by kernel_rfl) (by kernel_rfl) (fun _ _ _ h => h) (Or.inl ⟨?sw179_15, ?yw179_15⟩) (by assumption) ?nw179_15
        case hw179_15 => simp only [List.getElem?_toArray, List.getElem?_cons_succ, List.getElem?_cons_zero]; rfl
        case sw179_15 => rfl
        case yw179_15 => (intro w hSw; (try dsimp only at hSw); go_simp <;> with_reducible rfl)
        try simp only [Act.put, List.setIfInBounds_toArray, List.set_cons_zero, List.set_cons_succ]
        refine hR.take (i := 16) (oi := ?ow180_16) (v := ?vw180_16) (m' := 131071) ?hw180_16 (by kernel_rfl) (by kernel_rfl) (fun _ _ _ h => h) (Or.inl ⟨?sw180_16, ?yw180_16⟩) (by assumption) ?nw180_16
        case hw180_16 => simp only [List.getElem?_toArray, List.getElem?_cons_succ, List.getElem?_cons_zero]; rfl
        case sw180_16 => rfl
        case yw180_16 => (intro w hSw; (try dsimp only at hSw); go_simp <;> with_reducible rfl)
        try simp only [Act.put, List.setIfInBounds_toArray, List.set_cons_zero, List.set_cons_succ]
        refine hR.take (i := 17) (oi := ?ow181_17) (v := ?vw181_17) (m' := 262143) ?hw181_17 (by kernel_rfl) (by kernel_rfl) (fun _ _ _ h => h) (Or.inl ⟨?sw181_17, ?yw181_17⟩) (by assumption) ?nw181_17
        case hw181_17 => simp only [List.getElem?_toArray, List.getElem?_cons_succ, List.getElem?_cons_zero]; rfl
        case sw181_17 => rfl
        case yw181_17 => (intro w hSw; (try dsimp only at hSw); go_simp <;> with_reducible rfl)
        try simp only [Act.put, List.setIfInBounds_toArray, List.set_cons_zero, List.set_cons_succ]
        refine hR.take (i := 18) (oi := ?ow182_18) (v := ?vw182_18) (m' := 524287) ?hw182_18 (by kernel_rfl) (by kernel_rfl) (fun _ _ _ h => h) (Or.inl ⟨?sw182_18, ?yw182_18⟩) (by assumption) ?nw182_18
        case hw182_18 => simp only [List.getElem?_toArray, List.getElem?_cons_succ, List.getElem?_cons_zero]; rfl
        case sw182_18 => rfl
        case yw182_18 => (intro w hSw; (try dsimp only at hSw); go_simp <;> with_reducible rfl)
        try simp only [Act.put, List.setIfInBounds_toArray, List.set_cons_zero, List.set_cons_succ]
        refine hR.take (i := 19) (oi := ?ow183_19) (v := ?vw183_19) (m' := 1048575) ?hw183_19 (by kernel_rfl) (by kernel_rfl) (fun _ _ _ h => h) (Or.inl ⟨?sw183_19, ?yw183_19⟩) (by assumption) ?nw183_19
        case hw183_19 => simp only [List.getElem?_toArray, List.getElem?_cons_succ, List.getElem?_cons_zero]; rfl
        case sw183_19 => rfl
        case yw183_19 => (intro w hSw; (try dsimp only at hSw); go_simp <;> with_reducible rfl)
        try simp only [Act.put, List.setIfInBounds_toArray, List.set_cons_zero, List.set_cons_succ]
        refine hR.take (i := 20) (oi := ?ow184_20) (v := ?vw184_20) (m' := 2097151) ?hw184_20 (by kernel_rfl) (by kernel_rfl) (fun _ _ _ h => h) (Or.inl ⟨?sw184_20, ?yw184_20⟩) (by assumption) ?nw184_20
        case hw184_20 => simp only [List.getElem?_toArray, List.getElem?_cons_succ, List.getElem?_cons_zero]; rfl
        case sw184_20 => rfl
        case yw184_20 => (intro w hSw; (try dsimp only at hSw); go_simp <;> with_reducible rfl)
        try simp only [Act.put, List.setIfInBounds_toArray, List.set_cons_zero, List.set_cons_succ]
        refine hR.take (i := 21) (oi := ?ow185_21) (v := ?vw185_21) (m' := 4194303) ?hw185_21 (by kernel_rfl) (by kernel_rfl) (fun _ _ _ h => h) (Or.inl ⟨?sw185_21, ?yw185_21⟩) (by assumption) ?nw185_21
        case hw185_21 => simp only [List.getElem?_toArray, List.getElem?_cons_succ, List.getElem?_cons_zero]; rfl
        case sw185_21 => rfl
        case yw185_21 => (intro w hSw; (try dsimp only at hSw); go_simp <;> with_reducible rfl)
        try simp only [Act.put, List.setIfInBounds_toArray, List.set_cons_zero, List.set_cons_succ]
        refine hR.take (i := 22) (oi := ?ow186_22) (v := ?vw186_22) (m' := 8388607) ?hw186_22 (by kernel_rfl) (by kernel_rfl) (fun _ _ _ h => h) (Or.inl ⟨?sw186_22, ?yw186_22⟩) (by assumption) ?nw186_22
        case hw186_22 => simp only [List.getElem?_toArray, List.getElem?_cons_succ, List.getElem?_cons_zero]; rfl
        case sw186_22 => rfl
        case yw186_22 => (intro w hSw; (try dsimp only at hSw); go_simp <;> with_reducible rfl)
        try simp only [Act.put, List.setIfInBounds_toArray, List.set_cons_zero, List.set_cons_succ]
        refine hR.take (i := 23) (oi := ?ow187_23) (v := ?vw187_23) (m' := 16777215) ?hw187_23 (by kernel_rfl) (by kernel_rfl) (fun _ _ _ h => h) (Or.inl ⟨?sw187_23, ?yw187_23⟩) (by assumption) ?nw187_23
        case hw187_23 => simp only [List.getElem?_toArray, List.getElem?_cons_succ, List.getElem?_cons_zero]; rfl
        case sw187_23 => rfl
        case yw187_23 => (intro w hSw; (try dsimp only at hSw); go_simp <;> with_reducible rfl)
        try simp only [Act.put, List.setIfInBounds_toArray, List.set_cons_zero, List.set_cons_succ]
        refine hR.take (i := 24) (oi := ?ow188_24) (v := ?vw188_24) (m' := 33554431) ?hw188_24 (by kernel_rfl) (by kernel_rfl) (fun _ _ _ h => h) (Or.inl ⟨?sw188_24, ?yw188_24⟩) (by assumption) ?nw188_24
        case hw188_24 => simp only [List.getElem?_toArray, List.getElem?_cons_succ, List.getElem?_cons_zero]; rfl
        case sw188_24 => rfl
        case yw188_24 => (intro w hSw; (try dsimp only at hSw); go_simp <;> with_reducible rfl)
        try simp only [Act.put, List.setIfInBounds_toArray, List.set_cons_zero, List.set_cons_succ]
        refine hR.take (i := 25) (oi := ?ow189_25) (v := ?vw189_25) (m' := 67108863) ?hw189_25 (by kernel_rfl) (by kernel_rfl) (fun _ _ _ h => h) (Or.inl ⟨?sw189_25, ?yw189_25⟩) (by assumption) ?nw189_25
        case hw189_25 => simp only [List.getElem?_toArray, List.getElem?_cons_succ, List.getElem?_cons_zero]; rfl
        case sw189_25 => rfl
        case yw189_25 => (intro w hSw; (try dsimp only at hSw); go_simp <;> with_reducible rfl)
        try simp only [Act.put, List.setIfInBounds_toArray, List.set_cons_zero, List.set_cons_succ]
        refine hR.take (i := 26) (oi := ?ow190_26) (v := ?vw190_26) (m' := 134217727) ?hw190_26 (by kernel_rfl) (by kernel_rfl) (fun _ _ _ h => h) (Or.inl ⟨?sw190_26, ?yw190_26⟩) (by assumption) ?nw190_26
        case hw190_26 => simp only [List.getElem?_toArray, List.getElem?_cons_succ, List.getElem?_cons_zero]; rfl
        case sw190_26 => rfl
        case yw190_26 => (intro w hSw; (try dsimp only at hSw); go_simp <;> with_reducible rfl)
        try simp only [Act.put, List.setIfInBounds_toArray, List.set_cons_zero, List.set_cons_succ]
        refine hR.take (i := 27) (oi := ?ow191_27) (v := ?vw191_27) (m' := 268435455) ?hw191_27 (by kernel_rfl) (by kernel_rfl) (fun _ _ _ h => h) (Or.inl ⟨?sw191_27, ?yw191_27⟩) (by assumption) ?nw191_27
        case hw191_27 => simp only [List.getElem?_toArray, List.getElem?_cons_succ, List.getElem?_cons_zero]; rfl
        case sw191_27 => rfl
        case yw191_27 => (intro w hSw; (try dsimp only at hSw); go_simp <;> with_reducible rfl)
        try simp only [Act.put, List.setIfInBounds_toArray, List.set_cons_zero, List.set_cons_succ]
        refine hR.take (i := 28) (oi := ?ow192_28) (v := ?vw192_28) (m' := 536870911) ?hw192_28 (by kernel_rfl) (by kernel_rfl) (fun _ _ _ h => h) (Or.inl ⟨?sw192_28, ?yw192_28⟩) (by assumption) ?nw192_28
        case hw192_28 => simp only [List.getElem?_toArray, List.getElem?_cons_succ, List.getElem?_cons_zero]; rfl
        case sw192_28 => rfl
        case yw192_28 => (intro w hSw; (try dsimp only at hSw); go_simp <;> with_reducible rfl)
        try simp only [Act.put, List.setIfInBounds_toArray, List.set_cons_zero, List.set_cons_succ]
        refine hR.take (i := 29) (oi := ?ow193_29) (v := ?vw193_29) (m' := 1073741823) ?hw193_29 (by kernel_rfl) (by kernel_rfl) (fun _ _ _ h => h) (Or.inl ⟨?sw193_29, ?yw193_29⟩) (by assumption) ?nw193_29
        case hw193_29 => simp only [List.getElem?_toArray, List.getElem?_cons_succ, List.getElem?_cons_zero]; rfl
        case sw193_29 => rfl
        case yw193_29 => (intro w hSw; (try dsimp only at hSw); go_simp <;> with_reducible rfl)
        try simp only [Act.put, List.setIfInBounds_toArray, List.set_cons_zero, List.set_cons_succ]
        refine hR.take (i := 30) (oi := ?ow194_30) (v := ?vw194_30) (m' := 2147483647) ?hw194_30 (by kernel_rfl) (by kernel_rfl) (fun _ _ _ h => h) (Or.inl ⟨?sw194_30, ?yw194_30⟩) (by assumption) ?nw194_30
        case hw194_30 => simp only [List.getElem?_toArray, List.getElem?_cons_succ, List.getElem?_cons_zero]; rfl
        case sw194_30 => rfl
        case yw194_30 => (intro w hSw; (try dsimp only at hSw); go_simp <;> with_reducible rfl)
        try simp only [Act.put, List.setIfInBounds_toArray, List.set_cons_zero, List.set_cons_succ]
        refine hR.take (i := 31) (oi := ?ow195_31) (v := ?vw195_31) (m' := 4294967295) ?hw195_31 (by kernel_rfl) (by kernel_rfl) (fun _ _ _ h => h) (Or.inl ⟨?sw195_31, ?yw195_31⟩) (by assumption) ?nw195_31
        case hw195_31 => simp only [List.getElem?_toArray, List.getElem?_cons_succ, List.getElem?_cons_zero]; rfl
        case sw195_31 => rfl
        case yw195_31 => (intro w hSw; (try dsimp only at hSw); go_simp <;> with_reducible rfl)
        try simp only [Act.put, List.setIfInBounds_toArray, List.set_cons_zero, List.set_cons_succ]
        refine hR.take (i := 32) (oi := ?ow196_32) (v := ?vw196_32) (m' := 8589934591) ?hw196_32 (by kernel_rfl) (by kernel_rfl) (fun _ _ _ h => h) (Or.inl ⟨?sw196_32, ?yw196_32⟩) (by assumption) ?nw196_32
        case hw196_32 => simp only [List.getElem?_toArray, List.getElem?_cons_succ, List.getElem?_cons_zero]; rfl
        case sw196_32 => rfl
        case yw196_32 => (intro w hSw; (try dsimp only at hSw); go_simp <;> with_reducible rfl)
        try simp only [Act.put, List.setIfInBounds_toArray, List.set_cons_zero, List.set_cons_succ]
        refine hR.take (i := 33) (oi := ?ow197_33) (v := ?vw197_33) (m' := 17179869183) ?hw197_33 (by kernel_rfl) (by kernel_rfl) (fun _ _ _ h => h) (Or.inl ⟨?sw197_33, ?yw197_33⟩) (by assumption) ?nw197_33
        case hw197_33 => simp only [List.getElem?_toArray, List.getElem?_cons_succ, List.getElem?_cons_zero]; rfl
        case sw197_33 => rfl
        case yw197_33 => (intro w hSw; (try dsimp only at hSw); go_simp <;> with_reducible rfl)
        try simp only [Act.put, List.setIfInBounds_toArray, List.set_cons_zero, List.set_cons_succ]
        refine hR.take (i := 34) (oi := ?ow198_34) (v := ?vw198_34) (m' := 34359738367) ?hw198_34 (by kernel_rfl) (by kernel_rfl) (fun _ _ _ h => h) (Or.inl ⟨?sw198_34, ?yw198_34⟩) (by assumption) ?nw198_34
        case hw198_34 => simp only [List.getElem?_toArray, List.getElem?_cons_succ, List.getElem?_cons_zero]; rfl
        case sw198_34 => rfl
        case yw198_34 => (intro w hSw; (try dsimp only at hSw); go_simp <;> with_reducible rfl)
        try simp only [Act.put, List.setIfInBounds_toArray, List.set_cons_zero, List.set_cons_succ]
        refine hR.take (i := 35) (oi := ?ow199_35) (v := ?vw199_35) (m' := 68719476735) ?hw199_35 (by kernel_rfl) (by kernel_rfl) (fun _ _ _ h => h) (Or.inl ⟨?sw199_35, ?yw199_35⟩) (by assumption) ?nw199_35
        case hw199_35 => simp only [List.getElem?_toArray, List.getElem?_cons_succ, List.getElem?_cons_zero]; rfl
        case sw199_35 => rfl
        case yw199_35 => (intro w hSw; (try dsimp only at hSw); go_simp <;> with_reducible rfl)
        try simp only [Act.put, List.setIfInBounds_toArray, List.set_cons_zero, List.set_cons_succ]
        refine hR.take (i := 36) (oi := ?ow200_36) (v := ?vw200_36) (m' := 137438953471) ?hw200_36 (by kernel_rfl) (by kernel_rfl) (fun _ _ _ h => h) (Or.inr ⟨?sw200_36, ?yw200_36⟩) (by assumption) ?nw200_36
        case hw200_36 => simp only [List.getElem?_toArray, List.getElem?_cons_succ, List.getElem?_cons_zero]; rfl
        case sw200_36 => rfl
        case yw200_36 => rfl
        try simp only [Act.put, List.setIfInBounds_toArray, List.set_cons_zero, List.set_cons_succ]
        refine hR.take (i := 37) (oi := ?ow201_37) (v := ?vw201_37) (m' := 274877906943) ?hw201_37 (by kernel_rfl) (by kernel_rfl) (fun _ _ _ h => h) (Or.inr ⟨?sw201_37, ?yw201_37⟩) (by assumption) ?nw201_37
        case hw201_37 => simp only [List.getElem?_toArray, List.getElem?_cons_succ, List.getElem?_cons_zero]; rfl
        case sw201_37 => rfl
        case yw201_37 => rfl
        try simp only [Act.put, List.setIfInBounds_toArray, List.set_cons_zero, List.set_cons_succ]
        refine hR.take (i := 38) (oi := ?ow202_38) (v := ?vw202_38) (m' := 549755813887) ?hw202_38 (by kernel_rfl) (by kernel_rfl) (fun _ _ _ h => h) (Or.inr ⟨?sw202_38, ?yw202_38⟩) (by assumption) ?nw202_38
        case hw202_38 => simp only [List.getElem?_toArray, List.getElem?_cons_succ, List.getElem?_cons_zero]; rfl
        case sw202_38 => rfl
        case yw202_38 => rfl
        try simp only [Act.put, List.setIfInBounds_toArray, List.set_cons_zero, List.set_cons_succ]
        refine hR.take (i := 39) (oi := ?ow203_39) (v := ?vw203_39) (m' := 1099511627775) ?hw203_39 (by kernel_rfl) (by kernel_rfl) (fun _ _ _ h => h) (Or.inr ⟨?sw203_39, ?yw203_39⟩) (by assumption) ?nw203_39
        case hw203_39 => simp only [List.getElem?_toArray, List.getElem?_cons_succ, List.getElem?_cons_zero]; rfl
        case sw203_39 => rfl
        case yw203_39 => rfl
        try simp only [Act.put, List.setIfInBounds_toArray, List.set_cons_zero, List.set_cons_succ]
        refine hR.take (i := 40) (oi := ?ow204_40) (v := ?vw204_40) (m' := 2199023255551) ?hw204_40 (by kernel_rfl) (by kernel_rfl) (fun _ _ _ h => h) (Or.inr ⟨?sw204_40, ?yw204_40⟩) (by assumption) ?nw204_40
        case hw204_40 => simp only [List.getElem?_toArray, List.getElem?_cons_succ, List.getElem?_cons_zero]; rfl
        case sw204_40 => rfl
        case yw204_40 => rfl
        try simp only [Act.put, List.setIfInBounds_toArray, List.set_cons_zero, List.set_cons_succ]
        refine hR.take (i := 41) (oi := ?ow205_41) (v := ?vw205_41) (m' := 4398046511103) ?hw205_41 (by kernel_rfl) (by kernel_rfl) (fun _ _ _ h => h) (Or.inr ⟨?sw205_41, ?yw205_41⟩) (by assumption) ?nw205_41
        case hw205_41 => simp only [List.getElem?_toArray, List.getElem?_cons_succ, List.getElem?_cons_zero]; rfl
        case sw205_41 => rfl
        case yw205_41 => rfl
        try simp only [Act.put, List.setIfInBounds_toArray, List.set_cons_zero, List.set_cons_succ]
        refine hR.take (i := 42) (oi := ?ow206_42) (v := ?vw206_42) (m' := 8796093022207) ?hw206_42 (by kernel_rfl) (by kernel_rfl) (fun _ _ _ h => h) (Or.inr ⟨?sw206_42, ?yw206_42⟩) (by assumption) ?nw206_42
        case hw206_42 => simp only [List.getElem?_toArray, List.getElem?_cons_succ, List.getElem?_cons_zero]; rfl
        case sw206_42 => rfl
        case yw206_42 => rfl
        try simp only [Act.put, List.setIfInBounds_toArray, List.set_cons_zero, List.set_cons_succ]
        refine hR.take (i := 43) (oi := ?ow207_43) (v := ?vw207_43) (m' := 17592186044415) ?hw207_43 (by kernel_rfl) (by kernel_rfl) (fun _ _ _ h => h) (Or.inr ⟨?sw207_43, ?yw207_43⟩) (by assumption) ?nw207_43
        case hw207_43 => simp only [List.getElem?_toArray, List.getElem?_cons_succ, List.getElem?_cons_zero]; rfl
        case sw207_43 => rfl
        case yw207_43 => rfl
        try simp only [Act.put, List.setIfInBounds_toArray, List.set_cons_zero, List.set_cons_succ]
        refine hR.take (i := 44) (oi := ?ow208_44) (v := ?vw208_44) (m' := 35184372088831) ?hw208_44 (by kernel_rfl) (by kernel_rfl) (fun _ _ _ h => h) (Or.inr ⟨?sw208_44, ?yw208_44⟩) (by assumption) ?nw208_44
        case hw208_44 => simp only [List.getElem?_toArray, List.getElem?_cons_succ, List.getElem?_cons_zero]; rfl
        case sw208_44 => rfl
        case yw208_44 => rfl
        try simp only [Act.put, List.setIfInBounds_toArray, List.set_cons_zero, List.set_cons_succ]
        refine hR.take (i := 45) (oi := ?ow209_45) (v := ?vw209_45) (m' := 70368744177663) ?hw209_45 (by kernel_rfl) (by kernel_rfl) (fun _ _ _ h => h) (Or.inr ⟨?sw209_45, ?yw209_45⟩) (by assumption) ?nw209_45
        case hw209_45 => simp only [List.getElem?_toArray, List.getElem?_cons_succ, List.getElem?_cons_zero]; rfl
        case sw209_45 => rfl
        case yw209_45 => rfl
        try simp only [Act.put, List.setIfInBounds_toArray, List.set_cons_zero, List.set_cons_succ]
        refine hR.take (i := 46) (oi := ?ow210_46) (v := ?vw210_46) (m' := 140737488355327) ?hw210_46 (by kernel_rfl) (by kernel_rfl) (fun _ _ _ h => h) (Or.inr ⟨?sw210_46, ?yw210_46⟩) (by assumption) ?nw210_46
        case hw210_46 => simp only [List.getElem?_toArray, List.getElem?_cons_succ, List.getElem?_cons_zero]; rfl
        case sw210_46 => rfl
        case yw210_46 => rfl
        try simp only [Act.put, List.setIfInBounds_toArray, List.set_cons_zero, List.set_cons_succ]
        refine hR.take (i := 47) (oi := ?ow211_47) (v := ?vw211_47) (m' := 281474976710655) ?hw211_47 (by kernel_rfl) (by kernel_rfl) (fun _ _ _ h => h) (Or.inr ⟨?sw211_47, ?yw211_47⟩) (by assumption) ?nw211_47
        case hw211_47 => simp only [List.getElem?_toArray, List.getElem?_cons_succ, List.getElem?_cons_zero]; rfl
        case sw211_47 => rfl
        case yw211_47 => rfl
        try simp only [Act.put, List.setIfInBounds_toArray, List.set_cons_zero, List.set_cons_succ]
        refine hR.take (i := 48) (oi := ?ow212_48) (v := ?vw212_48) (m' := 562949953421311) ?hw212_48 (by kernel_rfl) (by kernel_rfl) (fun _ _ _ h => h) (Or.inl ⟨?sw212_48, ?yw212_48⟩) (by assumption) ?nw212_48
        case hw212_48 => simp only [List.getElem?_toArray, List.getElem?_cons_succ, List.getElem?_cons_zero]; rfl
        case sw212_48 => rfl
        case yw212_48 => (intro w hSw; (try dsimp only at hSw); go_simp <;> with_reducible rfl)
        try simp only [Act.put, List.setIfInBounds_toArray, List.set_cons_zero, List.set_cons_succ]
        refine hR.all (by kernel_rfl) ?_ _
        refine NoPanic.normal ?_
        go_wp2_with fail
        go_ret
        exact ⟨ret_b (not_cd (List.mem_of_getElem? Hx.out) hv.out).symm, Hb.out.drew⟩
      have f4 : (x.hi < x.lo) = False := eq_false c4
      by_cases c5 : maxC x.col < x.hi
      · have f5 : (maxC x.col < x.hi) = True := eq_true c5
        have hv := Lib.hid (show validCdB x = false from decide_eq_false (fun h => by unfold ValidCd at h; omega))
        refine wp_region_noPanic ?_
        refine wp_region_held_drew (S := fun X => Below wr.heap.size wr X) (by kernel_rfl) ?_ (fun hHeld => ?_)
        · (first | with_reducible assumption | (with_reducible refine Below.drew ?_; with_reducible assumption) | (with_reducible refine ba _ _ ?_; with_reducible assumption) | (with_reducible refine Below.drew ?_; with_reducible refine ba _ _ ?_; with_reducible assumption) | exact Below.refl _ _ | exact (Below.refl _ _).drew | exact (Below.refl _ _).alloc (Nat.le_refl _) _ | (refine bc _ _ (by assumption) (by assumption)))
        refine RegOk.begin_ (n := 49) (T := q5A) ⟨by kernel_rfl, by kernel_rfl, by kernel_rfl, by kernel_rfl⟩ fun hR => ?_
        refine hR.take (i := 0) (oi := ?ow213_0) (v := ?vw213_0) (m' := 1) ?hw213_0 (by kernel_rfl) (by kernel_rfl) (fun _ _ _ h => h) (Or.inl ⟨?sw213_0, ?yw213_0⟩) (by assumption) ?nw213_0
        case hw213_0 => simp only [List.getElem?_toArray, List.getElem?_cons_succ, List.getElem?_cons_zero]; rfl
        case sw213_0 => rfl
        case yw213_0 => (intro w hSw; (try dsimp only at hSw); go_simp <;> with_reducible rfl)
        try simp only [Act.put, List.setIfInBounds_toArray, List.set_cons_zero, List.set_cons_succ]
        refine hR.take (i := 1) (oi := ?ow214_1) (v := ?vw214_1) (m' := 3) ?hw214_1 (by kernel_rfl) (by kernel_rfl) (fun _ _ _ h => h) (Or.inl ⟨?sw214_1, ?yw214_1⟩) (by assumption) ?nw214_1
        case hw214_1 => simp only [List.getElem?_toArray, List.getElem?_cons_succ, List.getElem?_cons_zero]; rfl
        case sw214_1 => rfl
        case yw214_1 => (intro w hSw; (try dsimp only at hSw); go_simp <;> with_reducible rfl)
        try simp only [Act.put, List.setIfInBounds_toArray, List.set_cons_zero, List.set_cons_succ]
        refine hR.take (i := 2) (oi := ?ow215_2) (v := ?vw215_2) (m' := 7) ?hw215_2 (by kernel_rfl) (by kernel_rfl) (fun _ _ _ h => h) (Or.inl ⟨?sw215_2, ?yw215_2⟩) (by assumption) ?nw215_2
        case hw215_2 => simp only [List.getElem?_toArray, List.getElem?_cons_succ, List.getElem?_cons_zero]; rfl
        case sw215_2 => rfl
        case yw215_2 => (intro w hSw; (try dsimp only at hSw); go_simp <;> with_reducible rfl)
        try simp only [Act.put, List.setIfInBounds_toArray, List.set_cons_zero, List.set_cons_succ]
        refine hR.take (i := 3) (oi := ?ow216_3) (v := ?vw216_3) (m' := 15) ?hw216_3 (by kernel_rfl) (by kernel_rfl) (fun _ _ _ h => h) (Or.inl ⟨?sw216_3, ?yw216_3⟩) (by assumption) ?nw216_3
        case hw216_3 => simp only [List.getElem?_toArray, List.getElem?_cons_succ, List.getElem?_cons_zero]; rfl
        case sw216_3 => rfl
        case yw216_3 => (intro w hSw; (try dsimp only at hSw); go_simp <;> with_reducible rfl)
        try simp only [Act.put, List.setIfInBounds_toArray, List.set_cons_zero, List.set_cons_succ]
        refine hR.take (i := 4) (oi := ?ow217_4) (v := ?vw217_4) (m' := 31) ?hw217_4 (by kernel_rfl) (by kernel_rfl) (fun _ _ _ h => h) (Or.inl ⟨?sw217_4, ?yw217_4⟩) (by assumption) ?nw217_4
        case hw217_4 => simp only [List.getElem?_toArray, List.getElem?_cons_succ, List.getElem?_cons_zero]; rfl
        case sw217_4 => rfl
        case yw217_4 => (intro w hSw; (try dsimp only at hSw); go_simp <;> with_reducible rfl)
        try simp only [Act.put, List.setIfInBounds_toArray, List.set_cons_zero, List.set_cons_succ]
        refine hR.take (i := 5) (oi := ?ow218_5) (v := ?vw218_5) (m' := 63) ?hw218_5 (by kernel_rfl) (by kernel_rfl) (fun _ _ _ h => h) (Or.inl ⟨?sw218_5, ?yw218_5⟩) (by assumption) ?nw218_5
        case hw218_5 => simp only [List.getElem?_toArray, List.getElem?_cons_succ, List.getElem?_cons_zero]; rfl
        case sw218_5 => rfl
        case yw218_5 => (intro w hSw; (try dsimp only at hSw); go_simp <;> with_reducible rfl)
        try simp only [Act.put, List.setIfInBounds_toArray, List.set_cons_zero, List.set_cons_succ]
        refine hR.take (i := 6) (oi := ?ow219_6) (v := ?vw219_6) (m' := 127) ?hw219_6 (by kernel_rfl) (by kernel_rfl) (fun _ _ _ h => h) (Or.inl ⟨?sw219_6, ?yw219_6⟩) (by assumption) ?nw219_6
        case hw219_6 => simp only [List.getElem?_toArray, List.getElem?_cons_succ, List.getElem?_cons_zero]; rfl
        case sw219_6 => rfl
        case yw219_6 => (intro w hSw; (try dsimp only at hSw); go_simp <;> with_reducible rfl)
        try simp only [Act.put, List.setIfInBounds_toArray, List.set_cons_zero, List.set_cons_succ]
        refine hR.take (i := 7) (oi := ?ow220_7) (v := ?vw220_7) (m' := 255) ?hw220_7 (by kernel_rfl) (by kernel_rfl) (fun _ _ _ h => h) (Or.inl ⟨?sw220_7, ?yw220_7⟩) (by assumption) ?nw220_7
        case hw220_7 => simp only [List.getElem?_toArray, List.getElem?_cons_succ, List.getElem?_cons_zero]; rfl
        case sw220_7 => rfl
        case yw220_7 => (intro w hSw; (try dsimp only at hSw); go_simp <;> with_reducible rfl)
        try simp only [Act.put, List.setIfInBounds_toArray, List.set_cons_zero, List.set_cons_succ]
        refine hR.take (i := 8) (oi := ?ow221_8) (v := ?vw221_8) (m' := 511) ?hw221_8 (by kernel_rfl) (by kernel_rfl) (fun _ _ _ h => h) (Or.inl ⟨?sw221_8, ?yw221_8⟩) (by assumption) ?nw221_8
        case hw221_8 => simp only [List.getElem?_toArray, List.getElem?_cons_succ, List.getElem?_cons_zero]; rfl
        case sw221_8 => rfl
        case yw221_8 => (intro w hSw; (try dsimp only at hSw); go_simp <;> with_reducible rfl)
        try simp only [Act.put, List.setIfInBounds_toArray, List.set_cons_zero, List.set_cons_succ]
        refine hR.take (i := 9) (oi := ?ow222_9) (v := ?vw222_9) (m' := 1023) ?hw222_9 (by kernel_rfl) (by kernel_rfl) (fun _ _ _ h => h) (Or.inl ⟨?sw222_9, ?yw222_9⟩) (by assumption) ?nw222_9
        case hw222_9 => simp only [List.getElem?_toArray, List.getElem?_cons_succ, List.getElem?_cons_zero]; rfl
        case sw222_9 => rfl
        case yw222_9 => (intro w hSw; (try dsimp only at hSw); go_simp <;> with_reducible rfl)
        try simp only [Act.put, List.setIfInBounds_toArray, List.set_cons_zero, List.set_cons_succ]
        refine hR.take (i := 10) (oi := ?ow223_10) (v := ?vw223_10) (m' := 2047) ?hw223_10 (by kernel_rfl) (by kernel_rfl) (fun _ _ _ h => h) (Or.inl ⟨?sw223_10, ?yw223_10⟩) (by assumption) ?nw223_10
        case hw223_10 => simp only [List.getElem?_toArray, List.getElem?_cons_succ, List.getElem?_cons_zero]; rfl
        case sw223_10 => rfl
        case yw223_10 => (intro w hSw; (try dsimp only at hSw); go_simp <;> with_reducible rfl)
        try simp only [Act.put, List.setIfInBounds_toArray, List.set_cons_zero, List.set_cons_succ]
        refine hR.take (i := 11) (oi := ?ow224_11) (v := ?vw224_11) (m' := 4095) ?hw224_11 (by kernel_rfl) (by kernel_rfl) (fun _ _ _ h => h) (Or.inl ⟨?sw224_11, ?yw224_11⟩) (by assumption) ?nw224_11
        case hw224_11 => simp only [List.getElem?_toArray, List.getElem?_cons_succ, List.getElem?_cons_zero]; rfl
        case sw224_11 => rfl
        case yw224_11 => (intro w hSw; (try dsimp only at hSw); go_simp <;> with_reducible rfl)
        try simp only [Act.put, List.setIfInBounds_toArray, List.set_cons_zero, List.set_cons_succ]
        refine hR.take (i := 12) (oi := ?ow225_12) (v := ?vw225_12) (m' := 8191) ?hw225_12 (by kernel_rfl) (by kernel_rfl) (fun _ _ _ h => h) (Or.inl ⟨?sw225_12, ?yw225_12⟩) (by assumption) ?nw225_12
        case hw225_12 => simp only [List.getElem?_toArray, List.getElem?_cons_succ, List.getElem?_cons_zero]; rfl
        case sw225_12 => rfl
        case yw225_12 => (intro w hSw; (try dsimp only at hSw); go_simp <;> with_reducible rfl)
        try simp only [Act.put, List.setIfInBounds_toArray, List.set_cons_zero, List.set_cons_succ]
        refine hR.take (i := 13) (oi := ?ow226_13) (v := ?vw226_13) (m' := 16383) ?hw226_13 (by kernel_rfl) (by kernel_rfl) (fun _ _ _ h => h) (Or.inl ⟨?sw226_13, ?yw226_13⟩) (by assumption) ?nw226_13
        case hw226_13 => simp only [List.getElem?_toArray, List.getElem?_cons_succ, List.getElem?_cons_zero]; rfl
        case sw226_13 => rfl
        case yw226_13 => (intro w hSw; (try dsimp only at hSw); go_simp <;> with_reducible rfl)
        try simp only [Act.put, List.setIfInBounds_toArray, List.set_cons_zero, List.set_cons_succ]
        refine hR.take (i := 14) (oi := ?ow227_14) (v := ?vw227_14) (m' := 32767) ?hw227_14 (by kernel_rfl) (by kernel_rfl) (fun _ _ _ h => h) (Or.inl ⟨?sw227_14, ?yw227_14⟩) (by assumption) ?nw227_14
        case hw227_14 => simp only [List.getElem?_toArray, List.getElem?_cons_succ, List.getElem?_cons_zero]; rfl
        case sw227_14 => rfl
        case yw227_14 => (intro w hSw; (try dsimp only at hSw); go_simp <;> with_reducible rfl)
        try simp only [Act.put, List.setIfInBounds_toArray, List.set_cons_zero, List.set_cons_succ]
        refine hR.take (i := 15) (oi := ?ow228_15) (v := ?vw228_15) (m' := 65535) ?hw228_15 (by kernel_rfl) (by kernel_rfl) (fun _ _ _ h => h) (Or.inl ⟨?sw228_15, ?yw228_15⟩) (by assumption) ?nw228_15
        case hw228_15 => simp only [List.getElem?_toArray, List.getElem?_cons_succ, List.getElem?_cons_zero]; rfl
        case sw228_15 => rfl
        case yw228_15 => (intro w hSw; (try dsimp only at hSw); go_simp <;> with_reducible rfl)
        try simp only [Act.put, List.setIfInBounds_toArray, List.set_cons_zero, List.set_cons_succ]
        refine hR.take (i := 16) (oi := ?ow229_16) (v := ?vw229_16) (m' := 131071) ?hw229_16 (by kernel_rfl) (by kernel_rfl) (fun _ _ _ h => h) (Or.inl ⟨?sw229_16, ?yw229_16⟩) (by assumption) ?nw229_16
        case hw229_16 => simp only [List.getElem?_toArray, List.getElem?_cons_succ, List.getElem?_cons_zero]; rfl
        case sw229_16 => rfl
        case yw229_16 => (intro w hSw; (try dsimp only at hSw); go_simp <;> with_reducible rfl)
        try simp only [Act.put, List.setIfInBounds_toArray, List.set_cons_zero, List.set_cons_succ]
        refine hR.take (i := 17) (oi := ?ow230_17) (v := ?vw230_17) (m' := 262143) ?hw230_17 (by kernel_rfl) (by kernel_rfl) (fun _ _ _ h => h) (Or.inl ⟨?sw230_17, ?yw230_17⟩) (by assumption) ?nw230_17
        case hw230_17 => simp only [List.getElem?_toArray, List.getElem?_cons_succ, List.getElem?_cons_zero]; rfl
        case sw230_17 => rfl
        case yw230_17 => (intro w hSw; (try dsimp only at hSw); go_simp <;> with_reducible rfl)
        try simp only [Act.put, List.setIfInBounds_toArray, List.set_cons_zero, List.set_cons_succ]
        refine hR.take (i := 18) (oi := ?ow231_18) (v := ?vw231_18) (m' := 524287) ?hw231_18 (by kernel_rfl) (by kernel_rfl) (fun _ _ _ h => h) (Or.inl ⟨?sw231_18, ?yw231_18⟩) (by assumption) ?nw231_18
        case hw231_18 => simp only [List.getElem?_toArray, List.getElem?_cons_succ, List.getElem?_cons_zero]; rfl
        case sw231_18 => rfl
        case yw231_18 => (intro w hSw; (try dsimp only at hSw); go_simp <;> with_reducible rfl)
        try simp only [Act.put, List.setIfInBounds_toArray, List.set_cons_zero, List.set_cons_succ]
        refine hR.take (i := 19) (oi := ?ow232_19) (v := ?vw232_19) (m' := 1048575) ?hw232_19 (by kernel_rfl) (by kernel_rfl) (fun _ _ _ h => h) (Or.inl ⟨?sw232_19, ?yw232_19⟩) (by assumption) ?nw232_19
        case hw232_19 => simp only [List.getElem?_toArray, List.getElem?_cons_succ, List.getElem?_cons_zero]; rfl
        case sw232_19 => rfl
        case yw232_19 => (intro w hSw; (try dsimp only at hSw); go_simp <;> with_reducible rfl)
        try simp only [Act.put, List.setIfInBounds_toArray, List.set_cons_zero, List.set_cons_succ]
        refine hR.take (i := 20) (oi := ?ow233_20) (v := ?vw233_20) (m' := 2097151) ?hw233_20 (by kernel_rfl) (by kernel_rfl) (fun _ _ _ h => h) (Or.inl ⟨?sw233_20, ?yw233_20⟩) (by assumption) ?nw233_20
        case hw233_20 => simp only [List.getElem?_toArray, List.getElem?_cons_succ, List.getElem?_cons_zero]; rfl
        case sw233_20 => rfl
        case yw233_20 => (intro w hSw; (try dsimp only at hSw); go_simp <;> with_reducible rfl)
        try simp only [Act.put, List.setIfInBounds_toArray, List.set_cons_zero, List.set_cons_succ]
        refine hR.take (i := 21) (oi := ?ow234_21) (v := ?vw234_21) (m' := 4194303) ?hw234_21 (by kernel_rfl) (by kernel_rfl) (fun _ _ _ h => h) (Or.inl ⟨?sw234_21, ?yw234_21⟩) (by assumption) ?nw234_21
        case hw234_21 => simp only [List.getElem?_toArray, List.getElem?_cons_succ, List.getElem?_cons_zero]; rfl
        case sw234_21 => rfl
        case yw234_21 => (intro w hSw; (try dsimp only at hSw); go_simp <;> with_reducible rfl)
        try simp only [Act.put, List.setIfInBounds_toArray, List.set_cons_zero, List.set_cons_succ]
        refine hR.take (i := 22) (oi := ?ow235_22) (v := ?vw235_22) (m' := 8388607) ?hw235_22 (by kernel_rfl) (by kernel_rfl) (fun _ _ _ h => h) (Or.inl ⟨?sw235_22, ?yw235_22⟩) (by assumption) ?nw235_22
        case hw235_22 => simp only [List.getElem?_toArray, List.getElem?_cons_succ, List.getElem?_cons_zero]; rfl
        case sw235_22 => rfl
        case yw235_22 => (intro w hSw; (try dsimp only at hSw); go_simp <;> with_reducible rfl)
        try simp only [Act.put, List.setIfInBounds_toArray, List.set_cons_zero, List.set_cons_succ]
        refine hR.take (i := 23) (oi := ?ow236_23) (v := ?vw236_23) (m' := 16777215) ?hw236_23 (by kernel_rfl) (by kernel_rfl) (fun _ _ _ h => h) (Or.inl ⟨?sw236_23, ?yw236_23⟩) (by assumption) ?nw236_23
        case hw236_23 => simp only [List.getElem?_toArray, List.getElem?_cons_succ, List.getElem?_cons_zero]; rfl
        case sw236_23 => rfl
        case yw236_23 => (intro w hSw; (try dsimp only at hSw); go_simp <;> with_reducible rfl)
        try simp only [Act.put, List.setIfInBounds_toArray, List.set_cons_zero, List.set_cons_succ]
        refine hR.take (i := 24) (oi := ?ow237_24) (v := ?vw237_24) (m' := 33554431) ?hw237_24 (by kernel_rfl) (by kernel_rfl) (fun _ _ _ h => h) (Or.inl ⟨?sw237_24, ?yw237_24⟩) (by assumption) ?nw237_24
        case hw237_24 => simp only [List.getElem?_toArray, List.getElem?_cons_succ, List.getElem?_cons_zero]; rfl
        case sw237_24 => rfl
        case yw237_24 => (intro w hSw; (try dsimp only at hSw); go_simp <;> with_reducible rfl)
        try simp only [Act.put, List.setIfInBounds_toArray, List.set_cons_zero, List.set_cons_succ]
        refine hR.take (i := 25) (oi := ?ow238_25) (v := ?vw238_25) (m' := 67108863) ?hw238_25 (by kernel_rfl) (by kernel_rfl) (fun _ _ _ h => h) (Or.inl ⟨?sw238_25, ?yw238_25⟩) (by assumption) ?nw238_25
        case hw238_25 => simp only [List.getElem?_toArray, List.getElem?_cons_succ, List.getElem?_cons_zero]; rfl
        case sw238_25 => rfl
        case yw238_25 => (intro w hSw; (try dsimp only at hSw); go_simp <;> with_reducible rfl)
        try simp only [Act.put, List.setIfInBounds_toArray, List.set_cons_zero, List.set_cons_succ]
        refine hR.take (i := 26) (oi := ?ow239_26) (v := ?vw239_26) (m' := 134217727) ?hw239_26 (by kernel_rfl) (by kernel_rfl) (fun _ _ _ h => h) (Or.inl ⟨?sw239_26, ?yw239_26⟩) (by assumption) ?nw239_26
        case hw239_26 => simp only [List.getElem?_toArray, List.getElem?_cons_succ, List.getElem?_cons_zero]; rfl
        case sw239_26 => rfl
        case yw239_26 => (intro w hSw; (try dsimp only at hSw); go_simp <;> with_reducible rfl)
        try simp only [Act.put, List.setIfInBounds_toArray, List.set_cons_zero, List.set_cons_succ]
        refine hR.take (i := 27) (oi := ?ow240_27) (v := ?vw240_27) (m' := 268435455) ?hw240_27 (by kernel_rfl) (by kernel_rfl) (fun _ _ _ h => h) (Or.inl ⟨?sw240_27, ?yw240_27⟩) (by assumption) ?nw240_27
        case hw240_27 => simp only [List.getElem?_toArray, List.getElem?_cons_succ, List.getElem?_cons_zero]; rfl
        case sw240_27 => rfl
        case yw240_27 => (intro w hSw; (try dsimp only at hSw); go_simp <;> with_reducible rfl)
        try simp only [Act.put, List.setIfInBounds_toArray, List.set_cons_zero, List.set_cons_succ]
        refine hR.take (i := 28) (oi := ?ow241_28) (v := ?vw241_28) (m' := 536870911) ?hw241_28 (by kernel_rfl) (by kernel_rfl) (fun _ _ _ h => h) (Or.inl ⟨?sw241_28, ?yw241_28⟩) (by assumption) ?nw241_28
        case hw241_28 => simp only [List.getElem?_toArray, List.getElem?_cons_succ, List.getElem?_cons_zero]; rfl
        case sw241_28 => rfl
        case yw241_28 => (intro w hSw; (try dsimp only at hSw); go_simp <;> with_reducible rfl)
        try simp only [Act.put, List.setIfInBounds_toArray, List.set_cons_zero, List.set_cons_succ]
        refine hR.take (i := 29) (oi := ?ow242_29) (v := ?vw242_29) (m' := 1073741823) ?hw242_29 (by kernel_rfl) (by kernel_rfl) (fun _ _ _ h => h) (Or.inl ⟨?sw242_29, ?yw242_29⟩) (by assumption) ?nw242_29
        case hw242_29 => simp only [List.getElem?_toArray, List.getElem?_cons_succ, List.getElem?_cons_zero]; rfl
        case sw242_29 => rfl
        case yw242_29 => (intro w hSw; (try dsimp only at hSw); go_simp <;> with_reducible rfl)
        try simp only [Act.put, List.setIfInBounds_toArray, List.set_cons_zero, List.set_cons_succ]
        refine hR.take (i := 30) (oi := ?ow243_30) (v := ?vw243_30) (m' := 2147483647) ?hw243_30 (by kernel_rfl) (by kernel_rfl) (fun _ _ _ h => h) (Or.inl ⟨?sw243_30, ?yw243_30⟩) (by assumption) ?nw243_30
        case hw243_30 => simp only [List.getElem?_toArray, List.getElem?_cons_succ, List.getElem?_cons_zero]; rfl
        case sw243_30 => rfl
        case yw243_30 => (intro w hSw; (try dsimp only at hSw); go_simp <;> with_reducible rfl)
        try simp only [Act.put, List.setIfInBounds_toArray, List.set_cons_zero, List.set_cons_succ]
        refine hR.take (i := 31) (oi := ?ow244_31) (v := ?vw244_31) (m' := 4294967295) ?hw244_31 (by kernel_rfl) (by kernel_rfl) (fun _ _ _ h => h) (Or.inl ⟨?sw244_31, ?yw244_31⟩) (by assumption) ?nw244_31
        case hw244_31 => simp only [List.getElem?_toArray, List.getElem?_cons_succ, List.getElem?_cons_zero]; rfl
        case sw244_31 => rfl
        case yw244_31 => (intro w hSw; (try dsimp only at hSw); go_simp <;> with_reducible rfl)
        try simp only [Act.put, List.setIfInBounds_toArray, List.set_cons_zero, List.set_cons_succ]
        refine hR.take (i := 32) (oi := ?ow245_32) (v := ?vw245_32) (m' := 8589934591) ?hw245_32 (by kernel_rfl) (by kernel_rfl) (fun _ _ _ h => h) (Or.inl ⟨?sw245_32, ?yw245_32⟩) (by assumption) ?nw245_32
        case hw245_32 => simp only [List.getElem?_toArray, List.getElem?_cons_succ, List.getElem?_cons_zero]; rfl
        case sw245_32 => rfl
        case yw245_32 => (intro w hSw; (try dsimp only at hSw); go_simp <;> with_reducible rfl)
        try simp only [Act.put, List.setIfInBounds_toArray, List.set_cons_zero, List.set_cons_succ]
        refine hR.take (i := 33) (oi := ?ow246_33) (v := ?vw246_33) (m' := 17179869183) ?hw246_33 (by kernel_rfl) (by kernel_rfl) (fun _ _ _ h => h) (Or.inl ⟨?sw246_33, ?yw246_33⟩) (by assumption) ?nw246_33
        case hw246_33 => simp only [List.getElem?_toArray, List.getElem?_cons_succ, List.getElem?_cons_zero]; rfl
        case sw246_33 => rfl
        case yw246_33 => (intro w hSw; (try dsimp only at hSw); go_simp <;> with_reducible rfl)
        try simp only [Act.put, List.setIfInBounds_toArray, List.set_cons_zero, List.set_cons_succ]
        refine hR.take (i := 34) (oi := ?ow247_34) (v := ?vw247_34) (m' := 34359738367) ?hw247_34 (by kernel_rfl) (by kernel_rfl) (fun _ _ _ h => h) (Or.inl ⟨?sw247_34, ?yw247_34⟩) (by assumption) ?nw247_34
        case hw247_34 => simp only [List.getElem?_toArray, List.getElem?_cons_succ, List.getElem?_cons_zero]; rfl
        case sw247_34 => rfl
        case yw247_34 => (intro w hSw; (try dsimp only at hSw); go_simp <;> with_reducible rfl)
        try simp only [Act.put, List.setIfInBounds_toArray, List.set_cons_zero, List.set_cons_succ]
        refine hR.take (i := 35) (oi := ?ow248_35) (v := ?vw248_35) (m' := 68719476735) ?hw248_35 (by kernel_rfl) (by kernel_rfl) (fun _ _ _ h => h) (Or.inl ⟨?sw248_35, ?yw248_35⟩) (by assumption) ?nw248_35
        case hw248_35 => simp only [List.getElem?_toArray, List.getElem?_cons_succ, List.getElem?_cons_zero]; rfl
        case sw248_35 => rfl
        case yw248_35 => (intro w hSw; (try dsimp only at hSw); go_simp <;> with_reducible rfl)
        try simp only [Act.put, List.setIfInBounds_toArray, List.set_cons_zero, List.set_cons_succ]
        refine hR.take (i := 36) (oi := ?ow249_36) (v := ?vw249_36) (m' := 137438953471) ?hw249_36 (by kernel_rfl) (by kernel_rfl) (fun _ _ _ h => h) (Or.inl ⟨?sw249_36, ?yw249_36⟩) (by assumption) ?nw249_36
        case hw249_36 => simp only [List.getElem?_toArray, List.getElem?_cons_succ, List.getElem?_cons_zero]; rfl
        case sw249_36 => rfl
        case yw249_36 => (intro w hSw; (try dsimp only at hSw); go_simp <;> with_reducible rfl)
        try simp only [Act.put, List.setIfInBounds_toArray, List.set_cons_zero, List.set_cons_succ]
        refine hR.take (i := 37) (oi := ?ow250_37) (v := ?vw250_37) (m' := 274877906943) ?hw250_37 (by kernel_rfl) (by kernel_rfl) (fun _ _ _ h => h) (Or.inl ⟨?sw250_37, ?yw250_37⟩) (by assumption) ?nw250_37
        case hw250_37 => simp only [List.getElem?_toArray, List.getElem?_cons_succ, List.getElem?_cons_zero]; rfl
        case sw250_37 => rfl
        case yw250_37 => (intro w hSw; (try dsimp only at hSw); go_simp <;> with_reducible rfl)
        try simp only [Act.put, List.setIfInBounds_toArray, List.set_cons_zero, List.set_cons_succ]
        refine hR.take (i := 38) (oi := ?ow251_38) (v := ?vw251_38) (m' := 549755813887) ?hw251_38 (by kernel_rfl) (by kernel_rfl) (fun _ _ _ h => h) (Or.inl ⟨?sw251_38, ?yw251_38⟩) (by assumption) ?nw251_38
        case hw251_38 => simp only [List.getElem?_toArray, List.getElem?_cons_succ, List.getElem?_cons_zero]; rfl
        case sw251_38 => rfl
        case yw251_38 => (intro w hSw; (try dsimp only at hSw); go_simp <;> with_reducible rfl)
        try simp only [Act.put, List.setIfInBounds_toArray, List.set_cons_zero, List.set_cons_succ]
        refine hR.take (i := 39) (oi := ?ow252_39) (v := ?vw252_39) (m' := 1099511627775) ?hw252_39 (by kernel_rfl) (by kernel_rfl) (fun _ _ _ h => h) (Or.inl ⟨?sw252_39, ?yw252_39⟩) (by assumption) ?nw252_39
        case hw252_39 => simp only [List.getElem?_toArray, List.getElem?_cons_succ, List.getElem?_cons_zero]; rfl
        case sw252_39 => rfl
        case yw252_39 => (intro w hSw; (try dsimp only at hSw); go_simp <;> with_reducible rfl)
        try simp only [Act.put, List.setIfInBounds_toArray, List.set_cons_zero, List.set_cons_succ]
        refine hR.take (i := 40) (oi := ?ow253_40) (v := ?vw253_40) (m' := 2199023255551) ?hw253_40 (by kernel_rfl) (by kernel_rfl) (fun _ _ _ h => h) (Or.inl ⟨?sw253_40, ?yw253_40⟩) (by assumption) ?nw253_40
        case hw253_40 => simp only [List.getElem?_toArray, List.getElem?_cons_succ, List.getElem?_cons_zero]; rfl
        case sw253_40 => rfl
        case yw253_40 => (intro w hSw; (try dsimp only at hSw); go_simp <;> with_reducible rfl)
        try simp only [Act.put, List.setIfInBounds_toArray, List.set_cons_zero, List.set_cons_succ]
        refine hR.take (i := 41) (oi := ?ow254_41) (v := ?vw254_41) (m' := 4398046511103) ?hw254_41 (by kernel_rfl) (by kernel_rfl) (fun _ _ _ h => h) (Or.inl ⟨?sw254_41, ?yw254_41⟩) (by assumption) ?nw254_41
        case hw254_41 => simp only [List.getElem?_toArray, List.getElem?_cons_succ, List.getElem?_cons_zero]; rfl
        case sw254_41 => rfl
        case yw254_41 => (intro w hSw; (try dsimp only at hSw); go_simp <;> with_reducible rfl)
        try simp only [Act.put, List.setIfInBounds_toArray, List.set_cons_zero, List.set_cons_succ]
        refine hR.take (i := 42) (oi := ?ow255_42) (v := ?vw255_42) (m' := 8796093022207) ?hw255_42 (by kernel_rfl) (by kernel_rfl) (fun _ _ _ h => h) (Or.inl ⟨?sw255_42, ?yw255_42⟩) (by assumption) ?nw255_42
        case hw255_42 => simp only [List.getElem?_toArray, List.getElem?_cons_succ, List.getElem?_cons_zero]; rfl
        case sw255_42 => rfl
        case yw255_42 => (intro w hSw; (try dsimp only at hSw); go_simp <;> with_reducible rfl)
        try simp only [Act.put, List.setIfInBounds_toArray, List.set_cons_zero, List.set_cons_succ]
        refine hR.take (i := 43) (oi := ?ow256_43) (v := ?vw256_43) (m' := 17592186044415) ?hw256_43 (by kernel_rfl) (by kernel_rfl) (fun _ _ _ h => h) (Or.inl ⟨?sw256_43, ?yw256_43⟩) (by assumption) ?nw256_43
        case hw256_43 => simp only [List.getElem?_toArray, List.getElem?_cons_succ, List.getElem?_cons_zero]; rfl
        case sw256_43 => rfl
        case yw256_43 => (intro w hSw; (try dsimp only at hSw); go_simp <;> with_reducible rfl)
        try simp only [Act.put, List.setIfInBounds_toArray, List.set_cons_zero, List.set_cons_succ]
        refine hR.take (i := 44) (oi := ?ow257_44) (v := ?vw257_44) (m' := 35184372088831) ?hw257_44 (by kernel_rfl) (by kernel_rfl) (fun _ _ _ h => h) (Or.inl ⟨?sw257_44, ?yw257_44⟩) (by assumption) ?nw257_44
        case hw257_44 => simp only [List.getElem?_toArray, List.getElem?_cons_succ, List.getElem?_cons_zero]; rfl
        case sw257_44 => rfl
        case yw257_44 => (intro w hSw; (try dsimp only at hSw); go_simp <;> with_reducible rfl)
        try simp only [Act.put, List.setIfInBounds_toArray, List.set_cons_zero, List.set_cons_succ]
        refine hR.take (i := 45) (oi := ?ow258_45) (v := ?vw258_45) (m' := 70368744177663) ?hw258_45 (by kernel_rfl) (by kernel_rfl) (fun _ _ _ h => h) (Or.inl ⟨?sw258_45, ?yw258_45⟩) (by assumption) ?nw258_45
        case hw258_45 => simp only [List.getElem?_toArray, List.getElem?_cons_succ, List.getElem?_cons_zero]; rfl
        case sw258_45 => rfl
        case yw258_45 => (intro w hSw; (try dsimp only at hSw); go_simp <;> with_reducible rfl)
        try simp only [Act.put, List.setIfInBounds_toArray, List.set_cons_zero, List.set_cons_succ]
        refine hR.come (rs := [46]) (by kernel_rfl) (by simp) ?_
        refine AllReadyH.cons (o := ?o259_46) ?h259_46 (fun K hK => ?kw259_46) AllReadyH.nil
        case h259_46 => simp only [List.getElem?_toArray, List.getElem?_cons_succ, List.getElem?_cons_zero]; rfl
        go_simp
        go_at_call 27; refine (maxRef _ _).mono ?_; rintro e w2 ⟨rfl, rfl⟩
        refine hK.out _ _ ?_ (fun hHeld => ?_)
        · (first | with_reducible assumption | (with_reducible refine Below.drew ?_; with_reducible assumption) | (with_reducible refine ba _ _ ?_; with_reducible assumption) | (with_reducible refine Below.drew ?_; with_reducible refine ba _ _ ?_; with_reducible assumption) | exact Below.refl _ _ | exact (Below.refl _ _).drew | exact (Below.refl _ _).alloc (Nat.le_refl _) _ | (refine bc _ _ (by assumption) (by assumption)))
        clear hK K
        refine RegOk.put_ (m' := 140737488355327) (by kernel_rfl) ?_
        try simp only [Act.put, List.setIfInBounds_toArray, List.set_cons_zero, List.set_cons_succ]
        refine hR.take (i := 47) (oi := ?ow260_47) (v := ?vw260_47) (m' := 281474976710655) ?hw260_47 (by kernel_rfl) (by kernel_rfl) (fun _ _ _ h => h) (Or.inl ⟨?sw260_47, ?yw260_47⟩) (by assumption) ?nw260_47
        case hw260_47 => simp only [List.getElem?_toArray, List.getElem?_cons_succ, List.getElem?_cons_zero]; rfl
        case sw260_47 => rfl
        case yw260_47 => (intro w hSw; (try dsimp only at hSw); go_simp <;> with_reducible rfl)
        try simp only [Act.put, List.setIfInBounds_toArray, List.set_cons_zero, List.set_cons_succ]
        refine hR.take (i := 48) (oi := ?ow261_48) (v := ?vw261_48) (m' := 562949953421311) ?hw261_48 (by kernel_rfl) (by kernel_rfl) (fun _ _ _ h => h) (Or.inl ⟨?sw261_48, ?yw261_48⟩) (by assumption) ?nw261_48
        case hw261_48 => simp only [List.getElem?_toArray, List.getElem?_cons_succ, List.getElem?_cons_zero]; rfl
        case sw261_48 => rfl
        case yw261_48 => (intro w hSw; (try dsimp only at hSw); go_simp <;> with_reducible rfl)
        try simp only [Act.put, List.setIfInBounds_toArray, List.set_cons_zero, List.set_cons_succ]
        refine hR.all (by kernel_rfl) ?_ _
        refine NoPanic.normal ?_
        go_wp2_with fail
        go_ret
        exact ⟨ret_b (not_cd (List.mem_of_getElem? Hx.out) hv.out).symm, Hb.out.drew⟩
      · have f5 : (maxC x.col < x.hi) = False := eq_false c5
        have hv := Lib.hid (show validCdB x = true from decide_eq_true (by unfold ValidCd; omega))
        refine wp_region_noPanic ?_
        refine wp_region_held_drew (S := fun X => Below wr.heap.size wr X) (by kernel_rfl) ?_ (fun hHeld => ?_)
        · (first | with_reducible assumption | (with_reducible refine Below.drew ?_; with_reducible assumption) | (with_reducible refine ba _ _ ?_; with_reducible assumption) | (with_reducible refine Below.drew ?_; with_reducible refine ba _ _ ?_; with_reducible assumption) | exact Below.refl _ _ | exact (Below.refl _ _).drew | exact (Below.refl _ _).alloc (Nat.le_refl _) _ | (refine bc _ _ (by assumption) (by assumption)))
        refine RegOk.begin_ (n := 49) (T := q5A) ⟨by kernel_rfl, by kernel_rfl, by kernel_rfl, by kernel_rfl⟩ fun hR => ?_
        refine hR.take (i := 0) (oi := ?ow262_0) (v := ?vw262_0) (m' := 1) ?hw262_0 (by kernel_rfl) (by kernel_rfl) (fun _ _ _ h => h) (Or.inl ⟨?sw262_0, ?yw262_0⟩) (by assumption) ?nw262_0
        case hw262_0 => simp only [List.getElem?_toArray, List.getElem?_cons_succ, List.getElem?_cons_zero]; rfl
        case sw262_0 => rfl
        case yw262_0 => (intro w hSw; (try dsimp only at hSw); go_simp <;> with_reducible rfl)
        try simp only [Act.put, List.setIfInBounds_toArray, List.set_cons_zero, List.set_cons_succ]
        refine hR.take (i := 1) (oi := ?ow263_1) (v := ?vw263_1) (m' := 3) ?hw263_1 (by kernel_rfl) (by kernel_rfl) (fun _ _ _ h => h) (Or.inl ⟨?sw263_1, ?yw263_1⟩) (by assumption) ?nw263_1
        case hw263_1 => simp only [List.getElem?_toArray, List.getElem?_cons_succ, List.getElem?_cons_zero]; rfl
        case sw263_1 => rfl
        case yw263_1 => (intro w hSw; (try dsimp only at hSw); go_simp <;> with_reducible rfl)
        try simp only [Act.put, List.setIfInBounds_toArray, List.set_cons_zero, List.set_cons_succ]
        refine hR.take (i := 2) (oi := ?ow264_2) (v := ?vw264_2) (m' := 7) ?hw264_2 (by kernel_rfl) (by kernel_rfl) (fun _ _ _ h => h) (Or.inl ⟨?sw264_2, ?yw264_2⟩) (by assumption) ?nw264_2
        case hw264_2 => simp only [List.getElem?_toArray, List.getElem?_cons_succ, List.getElem?_cons_zero]; rfl
        case sw264_2 => rfl
        case yw264_2 => (intro w hSw; (try dsimp only at hSw); go_simp <;> with_reducible rfl)
        try simp only [Act.put, List.setIfInBounds_toArray, List.set_cons_zero, List.set_cons_succ]
        refine hR.take (i := 3) (oi := ?ow265_3) (v := ?vw265_3) (m' := 15) ?hw265_3 (by kernel_rfl) (by kernel_rfl) (fun _ _ _ h => h) (Or.inl ⟨?sw265_3, ?yw265_3⟩) (by assumption) ?nw265_3
        case hw265_3 => simp only [List.getElem?_toArray, List.getElem?_cons_succ, List.getElem?_cons_zero]; rfl
        case sw265_3 => rfl
        case yw265_3 => (intro w hSw; (try dsimp only at hSw); go_simp <;> with_reducible rfl)
        try simp only [Act.put, List.setIfInBounds_toArray, List.set_cons_zero, List.set_cons_succ]
        refine hR.take (i := 4) (oi := ?ow266_4) (v := ?vw266_4) (m' := 31) ?hw266_4 (by kernel_rfl) (by kernel_rfl) (fun _ _ _ h => h) (Or.inl ⟨?sw266_4, ?yw266_4⟩) (by assumption) ?nw266_4
        case hw266_4 => simp only [List.getElem?_toArray, List.getElem?_cons_succ, List.getElem?_cons_zero]; rfl
        case sw266_4 => rfl
        case yw266_4 => (intro w hSw; (try dsimp only at hSw); go_simp <;> with_reducible rfl)
        try simp only [Act.put, List.setIfInBounds_toArray, List.set_cons_zero, List.set_cons_succ]
        refine hR.take (i := 5) (oi := ?ow267_5) (v := ?vw267_5) (m' := 63) ?hw267_5 (by kernel_rfl) (by kernel_rfl) (fun _ _ _ h => h) (Or.inl ⟨?sw267_5, ?yw267_5⟩) (by assumption) ?nw267_5
        case hw267_5 => simp only [List.getElem?_toArray, List.getElem?_cons_succ, List.getElem?_cons_zero]; rfl
        case sw267_5 => rfl
        case yw267_5 => (intro w hSw; (try dsimp only at hSw); go_simp <;> with_reducible rfl)
        try simp only [Act.put, List.setIfInBounds_toArray, List.set_cons_zero, List.set_cons_succ]
        refine hR.take (i := 6) (oi := ?ow268_6) (v := ?vw268_6) (m' := 127) ?hw268_6 (by kernel_rfl) (by kernel_rfl) (fun _ _ _ h => h) (Or.inl ⟨?sw268_6, ?yw268_6⟩) (by assumption) ?nw268_6
        case hw268_6 => simp only [List.getElem?_toArray, List.getElem?_cons_succ, List.getElem?_cons_zero]; rfl
        case sw268_6 => rfl
        case yw268_6 => (intro w hSw; (try dsimp only at hSw); go_simp <;> with_reducible rfl)
        try simp only [Act.put, List.setIfInBounds_toArray, List.set_cons_zero, List.set_cons_succ]
        refine hR.take (i := 7) (oi := ?ow269_7) (v := ?vw269_7) (m' := 255) ?hw269_7 (by kernel_rfl) (by kernel_rfl) (fun _ _ _ h => h) (Or.inl ⟨?sw269_7, ?yw269_7⟩) (by assumption) ?nw269_7
        case hw269_7 => simp only [List.getElem?_toArray, List.getElem?_cons_succ, List.getElem?_cons_zero]; rfl
        case sw269_7 => rfl
        case yw269_7 => (intro w hSw; (try dsimp only at hSw); go_simp <;> with_reducible rfl)
        try simp only [Act.put, List.setIfInBounds_toArray, List.set_cons_zero, List.set_cons_succ]
        refine hR.take (i := 8) (oi := ?ow270_8) (v := ?vw270_8) (m' := 511) ?hw270_8 (by kernel_rfl) (by kernel_rfl) (fun _ _ _ h => h) (Or.inl ⟨?sw270_8, ?yw270_8⟩) (by assumption) ?nw270_8
        case hw270_8 => simp only [List.getElem?_toArray, List.getElem?_cons_succ, List.getElem?_cons_zero]; rfl
        case sw270_8 => rfl
        case yw270_8 => (intro w hSw; (try dsimp only at hSw); go_simp <;> with_reducible rfl)
        try simp only [Act.put, List.setIfInBounds_toArray, List.set_cons_zero, List.set_cons_succ]
        refine hR.take (i := 9) (oi := ?ow271_9) (v := ?vw271_9) (m' := 1023) ?hw271_9 (by kernel_rfl) (by kernel_rfl) (fun _ _ _ h => h) (Or.inl ⟨?sw271_9, ?yw271_9⟩) (by assumption) ?nw271_9
        case hw271_9 => simp only [List.getElem?_toArray, List.getElem?_cons_succ, List.getElem?_cons_zero]; rfl
        case sw271_9 => rfl
        case yw271_9 => (intro w hSw; (try dsimp only at hSw); go_simp <;> with_reducible rfl)
        try simp only [Act.put, List.setIfInBounds_toArray, List.set_cons_zero, List.set_cons_succ]
        refine hR.take (i := 10) (oi := ?ow272_10) (v := ?vw272_10) (m' := 2047) ?hw272_10 (by kernel_rfl) (by kernel_rfl) (fun _ _ _ h => h) (Or.inl ⟨?sw272_10, ?yw272_10⟩) (by assumption) ?nw272_10
        case hw272_10 => simp only [List.getElem?_toArray, List.getElem?_cons_succ, List.getElem?_cons_zero]; rfl
        case sw272_10 => rfl
        case yw272_10 => (intro w hSw; (try dsimp only at hSw); go_simp <;> with_reducible rfl)
        try simp only [Act.put, List.setIfInBounds_toArray, List.set_cons_zero, List.set_cons_succ]
        refine hR.take (i := 11) (oi := ?ow273_11) (v := ?vw273_11) (m' := 4095) ?hw273_11 (by kernel_rfl) (by kernel_rfl) (fun _ _ _ h => h) (Or.inl ⟨?sw273_11, ?yw273_11⟩) (by assumption) ?nw273_11
        case hw273_11 => simp only [List.getElem?_toArray, List.getElem?_cons_succ, List.getElem?_cons_zero]; rfl
        case sw273_11 => rfl
        case yw273_11 => (intro w hSw; (try dsimp only at hSw); go_simp <;> with_reducible rfl)
        try simp only [Act.put, List.setIfInBounds_toArray, List.set_cons_zero, List.set_cons_succ]
        refine hR.take (i := 12) (oi := ?ow274_12) (v := ?vw274_12) (m' := 8191) ?hw274_12 (by kernel_rfl) (by kernel_rfl) (fun _ _ _ h => h) (Or.inl ⟨?sw274_12, ?yw274_12⟩) (by assumption) ?nw274_12
        case hw274_12 => simp only [List.getElem?_toArray, List.getElem?_cons_succ, List.getElem?_cons_zero]; rfl
        case sw274_12 => rfl
        case yw274_12 => (intro w hSw; (try dsimp only at hSw); go_simp <;> with_reducible rfl)
        try simp only [Act.put, List.setIfInBounds_toArray, List.set_cons_zero, List.set_cons_succ]
        refine hR.take (i := 13) (oi := ?ow275_13) (v := ?vw275_13) (m' := 16383) ?hw275_13 (by kernel_rfl) (by kernel_rfl) (fun _ _ _ h => h) (Or.inl ⟨?sw275_13, ?yw275_13⟩) (by assumption) ?nw275_13
        case hw275_13 => simp only [List.getElem?_toArray, List.getElem?_cons_succ, List.getElem?_cons_zero]; rfl
        case sw275_13 => rfl
        case yw275_13 => (intro w hSw; (try dsimp only at hSw); go_simp <;> with_reducible rfl)
        try simp only [Act.put, List.setIfInBounds_toArray, List.set_cons_zero, List.set_cons_succ]
        refine hR.take (i := 14) (oi := ?ow276_14) (v := ?vw276_14) (m' := 32767) ?hw276_14 (by kernel_rfl) (by kernel_rfl) (fun _ _ _ h => h) (Or.inl ⟨?sw276_14, ?yw276_14⟩) (by assumption) ?nw276_14
        case hw276_14 => simp only [List.getElem?_toArray, List.getElem?_cons_succ, List.getElem?_cons_zero]; rfl
        case sw276_14 => rfl
        case yw276_14 => (intro w hSw; (try dsimp only at hSw); go_simp <;> with_reducible rfl)
        try simp only [Act.put, List.setIfInBounds_toArray, List.set_cons_zero, List.set_cons_succ]
        refine hR.take (i := 15) (oi := ?ow277_15) (v := ?vw277_15) (m' := 65535) ?hw277_15 (by kernel_rfl) (by kernel_rfl) (fun _ _ _ h => h) (Or.inl ⟨?sw277_15, ?yw277_15⟩) (by assumption) ?nw277_15
        case hw277_15 => simp only [List.getElem?_toArray, List.getElem?_cons_succ, List.getElem?_cons_zero]; rfl
        case sw277_15 => rfl
        case yw277_15 => (intro w hSw; (try dsimp only at hSw); go_simp <;> with_reducible rfl)
        try simp only [Act.put, List.setIfInBounds_toArray, List.set_cons_zero, List.set_cons_succ]
        refine hR.take (i := 16) (oi := ?ow278_16) (v := ?vw278_16) (m' := 131071) ?hw278_16 (by kernel_rfl) (by kernel_rfl) (fun _ _ _ h => h) (Or.inl ⟨?sw278_16, ?yw278_16⟩) (by assumption) ?nw278_16
        case hw278_16 => simp only [List.getElem?_toArray, List.getElem?_cons_succ, List.getElem?_cons_zero]; rfl
        case sw278_16 => rfl
        case yw278_16 => (intro w hSw; (try dsimp only at hSw); go_simp <;> with_reducible rfl)
        try simp only [Act.put, List.setIfInBounds_toArray, List.set_cons_zero, List.set_cons_succ]
        refine hR.take (i := 17) (oi := ?ow279_17) (v := ?vw279_17) (m' := 262143) ?hw279_17 (by kernel_rfl) (by kernel_rfl) (fun _ _ _ h => h) (Or.inl ⟨?sw279_17, ?yw279_17⟩) (by assumption) ?nw279_17
        case hw279_17 => simp only [List.getElem?_toArray, List.getElem?_cons_succ, List.getElem?_cons_zero]; rfl
        case sw279_17 => rfl
        case yw279_17 => (intro w hSw; (try dsimp only at hSw); go_simp <;> with_reducible rfl)
        try simp only [Act.put, List.setIfInBounds_toArray, List.set_cons_zero, List.set_cons_succ]
        refine hR.take (i := 18) (oi := ?ow280_18) (v := ?vw280_18) (m' := 524287) ?hw280_18 (by kernel_rfl) (by kernel_rfl) (fun _ _ _ h => h) (Or.inl ⟨?sw280_18, ?yw280_18⟩) (by assumption) ?nw280_18
        case hw280_18 => simp only [List.getElem?_toArray, List.getElem?_cons_succ, List.getElem?_cons_zero]; rfl
        case sw280_18 => rfl
        case yw280_18 => (intro w hSw; (try dsimp only at hSw); go_simp <;> with_reducible rfl)
        try simp only [Act.put, List.setIfInBounds_toArray, List.set_cons_zero, List.set_cons_succ]
        refine hR.take (i := 19) (oi := ?ow281_19) (v := ?vw281_19) (m' := 1048575) ?hw281_19 (by kernel_rfl) (by kernel_rfl) (fun _ _ _ h => h) (Or.inl ⟨?sw281_19, ?yw281_19⟩) (by assumption) ?nw281_19
        case hw281_19 => simp only [List.getElem?_toArray, List.getElem?_cons_succ, List.getElem?_cons_zero]; rfl
        case sw281_19 => rfl
        case yw281_19 => (intro w hSw; (try dsimp only at hSw); go_simp <;> with_reducible rfl)
        try simp only [Act.put, List.setIfInBounds_toArray, List.set_cons_zero, List.set_cons_succ]
        refine hR.take (i := 20) (oi := ?ow282_20) (v := ?vw282_20) (m' := 2097151) ?hw282_20 (by kernel_rfl) (by kernel_rfl) (fun _ _ _ h => h) (Or.inl ⟨?sw282_20, ?yw282_20⟩) (by assumption) ?nw282_20
        case hw282_20 => simp only [List.getElem?_toArray, List.getElem?_cons_succ, List.getElem?_cons_zero]; rfl
        case sw282_20 => rfl
        case yw282_20 => (intro w hSw; (try dsimp only at hSw); go_simp <;> with_reducible rfl)
        try simp only [Act.put, List.setIfInBounds_toArray, List.set_cons_zero, List.set_cons_succ]
        refine hR.take (i := 21) (oi := ?ow283_21) (v := ?vw283_21) (m' := 4194303) ?hw283_21 (by kernel_rfl) (by kernel_rfl) (fun _ _ _ h => h) (Or.inl ⟨?sw283_21, ?yw283_21⟩) (by assumption) ?nw283_21
        case hw283_21 => simp only [List.getElem?_toArray, List.getElem?_cons_succ, List.getElem?_cons_zero]; rfl
        case sw283_21 => rfl
        case yw283_21 => (intro w hSw; (try dsimp only at hSw); go_simp <;> with_reducible rfl)
        try simp only [Act.put, List.setIfInBounds_toArray, List.set_cons_zero, List.set_cons_succ]
        refine hR.take (i := 22) (oi := ?ow284_22) (v := ?vw284_22) (m' := 8388607) ?hw284_22 (by kernel_rfl) (by kernel_rfl) (fun _ _ _ h => h) (Or.inl ⟨?sw284_22, ?yw284_22⟩) (by assumption) ?nw284_22
        case hw284_22 => simp only [List.getElem?_toArray, List.getElem?_cons_succ, List.getElem?_cons_zero]; rfl
        case sw284_22 => rfl
        case yw284_22 => (intro w hSw; (try dsimp only at hSw); go_simp <;> with_reducible rfl)
        try simp only [Act.put, List.setIfInBounds_toArray, List.set_cons_zero, List.set_cons_succ]
        refine hR.take (i := 23) (oi := ?ow285_23) (v := ?vw285_23) (m' := 16777215) ?hw285_23 (by kernel_rfl) (by kernel_rfl) (fun _ _ _ h => h) (Or.inl ⟨?sw285_23, ?yw285_23⟩) (by assumption) ?nw285_23
        case hw285_23 => simp only [List.getElem?_toArray, List.getElem?_cons_succ, List.getElem?_cons_zero]; rfl
        case sw285_23 => rfl
        case yw285_23 => (intro w hSw; (try dsimp only at hSw); go_simp <;> with_reducible rfl)
        try simp only [Act.put, List.setIfInBounds_toArray, List.set_cons_zero, List.set_cons_succ]
        refine hR.take (i := 24) (oi := ?ow286_24) (v := ?vw286_24) (m' := 33554431) ?hw286_24 (by kernel_rfl) (by kernel_rfl) (fun _ _ _ h => h) (Or.inl ⟨?sw286_24, ?yw286_24⟩) (by assumption) ?nw286_24
        case hw286_24 => simp only [List.getElem?_toArray, List.getElem?_cons_succ, List.getElem?_cons_zero]; rfl
        case sw286_24 => rfl
        case yw286_24 => (intro w hSw; (try dsimp only at hSw); go_simp <;> with_reducible rfl)
        try simp only [Act.put, List.setIfInBounds_toArray, List.set_cons_zero, List.set_cons_succ]
        refine hR.take (i := 25) (oi := ?ow287_25) (v := ?vw287_25) (m' := 67108863) ?hw287_25 (by kernel_rfl) (by kernel_rfl) (fun _ _ _ h => h) (Or.inl ⟨?sw287_25, ?yw287_25⟩) (by assumption) ?nw287_25
        case hw287_25 => simp only [List.getElem?_toArray, List.getElem?_cons_succ, List.getElem?_cons_zero]; rfl
        case sw287_25 => rfl
        case yw287_25 => (intro w hSw; (try dsimp only at hSw); go_simp <;> with_reducible rfl)
        try simp only [Act.put, List.setIfInBounds_toArray, List.set_cons_zero, List.set_cons_succ]
        refine hR.take (i := 26) (oi := ?ow288_26) (v := ?vw288_26) (m' := 134217727) ?hw288_26 (by kernel_rfl) (by kernel_rfl) (fun _ _ _ h => h) (Or.inl ⟨?sw288_26, ?yw288_26⟩) (by assumption) ?nw288_26
        case hw288_26 => simp only [List.getElem?_toArray, List.getElem?_cons_succ, List.getElem?_cons_zero]; rfl
        case sw288_26 => rfl
        case yw288_26 => (intro w hSw; (try dsimp only at hSw); go_simp <;> with_reducible rfl)
        try simp only [Act.put, List.setIfInBounds_toArray, List.set_cons_zero, List.set_cons_succ]
        refine hR.take (i := 27) (oi := ?ow289_27) (v := ?vw289_27) (m' := 268435455) ?hw289_27 (by kernel_rfl) (by kernel_rfl) (fun _ _ _ h => h) (Or.inl ⟨?sw289_27, ?yw289_27⟩) (by assumption) ?nw289_27
        case hw289_27 => simp only [List.getElem?_toArray, List.getElem?_cons_succ, List.getElem?_cons_zero]; rfl
        case sw289_27 => rfl
        case yw289_27 => (intro w hSw; (try dsimp only at hSw); go_simp <;> with_reducible rfl)
        try simp only [Act.put, List.setIfInBounds_toArray, List.set_cons_zero, List.set_cons_succ]
        refine hR.take (i := 28) (oi := ?ow290_28) (v := ?vw290_28) (m' := 536870911) ?hw290_28 (by kernel_rfl) (by kernel_rfl) (fun _ _ _ h => h) (Or.inl ⟨?sw290_28, ?yw290_28⟩) (by assumption) ?nw290_28
        case hw290_28 => simp only [List.getElem?_toArray, List.getElem?_cons_succ, List.getElem?_cons_zero]; rfl
        case sw290_28 => rfl
        case yw290_28 => (intro w hSw; (try dsimp only at hSw); go_simp <;> with_reducible rfl)
        try simp only [Act.put, List.setIfInBounds_toArray, List.set_cons_zero, List.set_cons_succ]
        refine hR.take (i := 29) (oi := ?ow291_29) (v := ?vw291_29) (m' := 1073741823) ?hw291_29 (by kernel_rfl) (by kernel_rfl) (fun _ _ _ h => h) (Or.inl ⟨?sw291_29, ?yw291_29⟩) (by assumption) ?nw291_29
        case hw291_29 => simp only [List.getElem?_toArray, List.getElem?_cons_succ, List.getElem?_cons_zero]; rfl
        case sw291_29 => rfl
        case yw291_29 => (intro w hSw; (try dsimp only at hSw); go_simp <;> with_reducible rfl)
        try simp only [Act.put, List.setIfInBounds_toArray, List.set_cons_zero, List.set_cons_succ]
        refine hR.take (i := 30) (oi := ?ow292_30) (v := ?vw292_30) (m' := 2147483647) ?hw292_30 (by kernel_rfl) (by kernel_rfl) (fun _ _ _ h => h) (Or.inl ⟨?sw292_30, ?yw292_30⟩) (by assumption) ?nw292_30
        case hw292_30 => simp only [List.getElem?_toArray, List.getElem?_cons_succ, List.getElem?_cons_zero]; rfl
        case sw292_30 => rfl
        case yw292_30 => (intro w hSw; (try dsimp only at hSw); go_simp <;> with_reducible rfl)
        try simp only [Act.put, List.setIfInBounds_toArray, List.set_cons_zero, List.set_cons_succ]
        refine hR.take (i := 31) (oi := ?ow293_31) (v := ?vw293_31) (m' := 4294967295) ?hw293_31 (by kernel_rfl) (by kernel_rfl) (fun _ _ _ h => h) (Or.inl ⟨?sw293_31, ?yw293_31⟩) (by assumption) ?nw293_31
        case hw293_31 => simp only [List.getElem?_toArray, List.getElem?_cons_succ, List.getElem?_cons_zero]; rfl
        case sw293_31 => rfl
        case yw293_31 => (intro w hSw; (try dsimp only at hSw); go_simp <;> with_reducible rfl)
        try simp only [Act.put, List.setIfInBounds_toArray, List.set_cons_zero, List.set_cons_succ]
        refine hR.take (i := 32) (oi := ?ow294_32) (v := ?vw294_32) (m' := 8589934591) ?hw294_32 (by kernel_rfl) (by kernel_rfl) (fun _ _ _ h => h) (Or.inl ⟨?sw294_32, ?yw294_32⟩) (by assumption) ?nw294_32
        case hw294_32 => simp only [List.getElem?_toArray, List.getElem?_cons_succ, List.getElem?_cons_zero]; rfl
        case sw294_32 => rfl
        case yw294_32 => (intro w hSw; (try dsimp only at hSw); go_simp <;> with_reducible rfl)
        try simp only [Act.put, List.setIfInBounds_toArray, List.set_cons_zero, List.set_cons_succ]
        refine hR.take (i := 33) (oi := ?ow295_33) (v := ?vw295_33) (m' := 17179869183) ?hw295_33 (by kernel_rfl) (by kernel_rfl) (fun _ _ _ h => h) (Or.inl ⟨?sw295_33, ?yw295_33⟩) (by assumption) ?nw295_33
        case hw295_33 => simp only [List.getElem?_toArray, List.getElem?_cons_succ, List.getElem?_cons_zero]; rfl
        case sw295_33 => rfl
        case yw295_33 => (intro w hSw; (try dsimp only at hSw); go_simp <;> with_reducible rfl)
        try simp only [Act.put, List.setIfInBounds_toArray, List.set_cons_zero, List.set_cons_succ]
        refine hR.take (i := 34) (oi := ?ow296_34) (v := ?vw296_34) (m' := 34359738367) ?hw296_34 (by kernel_rfl) (by kernel_rfl) (fun _ _ _ h => h) (Or.inl ⟨?sw296_34, ?yw296_34⟩) (by assumption) ?nw296_34
        case hw296_34 => simp only [List.getElem?_toArray, List.getElem?_cons_succ, List.getElem?_cons_zero]; rfl
        case sw296_34 => rfl
        case yw296_34 => (intro w hSw; (try dsimp only at hSw); go_simp <;> with_reducible rfl)
        try simp only [Act.put, List.setIfInBounds_toArray, List.set_cons_zero, List.set_cons_succ]
        refine hR.take (i := 35) (oi := ?ow297_35) (v := ?vw297_35) (m' := 68719476735) ?hw297_35 (by kernel_rfl) (by kernel_rfl) (fun _ _ _ h => h) (Or.inl ⟨?sw297_35, ?yw297_35⟩) (by assumption) ?nw297_35
        case hw297_35 => simp only [List.getElem?_toArray, List.getElem?_cons_succ, List.getElem?_cons_zero]; rfl
        case sw297_35 => rfl
        case yw297_35 => (intro w hSw; (try dsimp only at hSw); go_simp <;> with_reducible rfl)
        try simp only [Act.put, List.setIfInBounds_toArray, List.set_cons_zero, List.set_cons_succ]
        refine hR.take (i := 36) (oi := ?ow298_36) (v := ?vw298_36) (m' := 137438953471) ?hw298_36 (by kernel_rfl) (by kernel_rfl) (fun _ _ _ h => h) (Or.inl ⟨?sw298_36, ?yw298_36⟩) (by assumption) ?nw298_36
        case hw298_36 => simp only [List.getElem?_toArray, List.getElem?_cons_succ, List.getElem?_cons_zero]; rfl
        case sw298_36 => rfl
        case yw298_36 => (intro w hSw; (try dsimp only at hSw); go_simp <;> with_reducible rfl)
        try simp only [Act.put, List.setIfInBounds_toArray, List.set_cons_zero, List.set_cons_succ]
        refine hR.take (i := 37) (oi := ?ow299_37) (v := ?vw299_37) (m' := 274877906943) ?hw299_37 (by kernel_rfl) (by kernel_rfl) (fun _ _ _ h => h) (Or.inl ⟨?sw299_37, ?yw299_37⟩) (by assumption) ?nw299_37
        case hw299_37 => simp only [List.getElem?_toArray, List.getElem?_cons_succ, List.getElem?_cons_zero]; rfl
        case sw299_37 => rfl
        case yw299_37 => (intro w hSw; (try dsimp only at hSw); go_simp <;> with_reducible rfl)
        try simp only [Act.put, List.setIfInBounds_toArray, List.set_cons_zero, List.set_cons_succ]
        refine hR.take (i := 38) (oi := ?ow300_38) (v := ?vw300_38) (m' := 549755813887) ?hw300_38 (by kernel_rfl) (by kernel_rfl) (fun _ _ _ h => h) (Or.inl ⟨?sw300_38, ?yw300_38⟩) (by assumption) ?nw300_38
        case hw300_38 => simp only [List.getElem?_toArray, List.getElem?_cons_succ, List.getElem?_cons_zero]; rfl
        case sw300_38 => rfl
        case yw300_38 => (intro w hSw; (try dsimp only at hSw); go_simp <;> with_reducible rfl)
        try simp only [Act.put, List.setIfInBounds_toArray, List.set_cons_zero, List.set_cons_succ]
        refine hR.take (i := 39) (oi := ?ow301_39) (v := ?vw301_39) (m' := 1099511627775) ?hw301_39 (by kernel_rfl) (by kernel_rfl) (fun _ _ _ h => h) (Or.inl ⟨?sw301_39, ?yw301_39⟩) (by assumption) ?nw301_39
        case hw301_39 => simp only [List.getElem?_toArray, List.getElem?_cons_succ, List.getElem?_cons_zero]; rfl
        case sw301_39 => rfl
        case yw301_39 => (intro w hSw; (try dsimp only at hSw); go_simp <;> with_reducible rfl)
        try simp only [Act.put, List.setIfInBounds_toArray, List.set_cons_zero, List.set_cons_succ]
        refine hR.take (i := 40) (oi := ?ow302_40) (v := ?vw302_40) (m' := 2199023255551) ?hw302_40 (by kernel_rfl) (by kernel_rfl) (fun _ _ _ h => h) (Or.inl ⟨?sw302_40, ?yw302_40⟩) (by assumption) ?nw302_40
        case hw302_40 => simp only [List.getElem?_toArray, List.getElem?_cons_succ, List.getElem?_cons_zero]; rfl
        case sw302_40 => rfl
        case yw302_40 => (intro w hSw; (try dsimp only at hSw); go_simp <;> with_reducible rfl)
        try simp only [Act.put, List.setIfInBounds_toArray, List.set_cons_zero, List.set_cons_succ]
        refine hR.take (i := 41) (oi := ?ow303_41) (v := ?vw303_41) (m' := 4398046511103) ?hw303_41 (by kernel_rfl) (by kernel_rfl) (fun _ _ _ h => h) (Or.inl ⟨?sw303_41, ?yw303_41⟩) (by assumption) ?nw303_41
        case hw303_41 => simp only [List.getElem?_toArray, List.getElem?_cons_succ, List.getElem?_cons_zero]; rfl
        case sw303_41 => rfl
        case yw303_41 => (intro w hSw; (try dsimp only at hSw); go_simp <;> with_reducible rfl)
        try simp only [Act.put, List.setIfInBounds_toArray, List.set_cons_zero, List.set_cons_succ]
        refine hR.take (i := 42) (oi := ?ow304_42) (v := ?vw304_42) (m' := 8796093022207) ?hw304_42 (by kernel_rfl) (by kernel_rfl) (fun _ _ _ h => h) (Or.inl ⟨?sw304_42, ?yw304_42⟩) (by assumption) ?nw304_42
        case hw304_42 => simp only [List.getElem?_toArray, List.getElem?_cons_succ, List.getElem?_cons_zero]; rfl
        case sw304_42 => rfl
        case yw304_42 => (intro w hSw; (try dsimp only at hSw); go_simp <;> with_reducible rfl)
        try simp only [Act.put, List.setIfInBounds_toArray, List.set_cons_zero, List.set_cons_succ]
        refine hR.take (i := 43) (oi := ?ow305_43) (v := ?vw305_43) (m' := 17592186044415) ?hw305_43 (by kernel_rfl) (by kernel_rfl) (fun _ _ _ h => h) (Or.inl ⟨?sw305_43, ?yw305_43⟩) (by assumption) ?nw305_43
        case hw305_43 => simp only [List.getElem?_toArray, List.getElem?_cons_succ, List.getElem?_cons_zero]; rfl
        case sw305_43 => rfl
        case yw305_43 => (intro w hSw; (try dsimp only at hSw); go_simp <;> with_reducible rfl)
        try simp only [Act.put, List.setIfInBounds_toArray, List.set_cons_zero, List.set_cons_succ]
        refine hR.take (i := 44) (oi := ?ow306_44) (v := ?vw306_44) (m' := 35184372088831) ?hw306_44 (by kernel_rfl) (by kernel_rfl) (fun _ _ _ h => h) (Or.inl ⟨?sw306_44, ?yw306_44⟩) (by assumption) ?nw306_44
        case hw306_44 => simp only [List.getElem?_toArray, List.getElem?_cons_succ, List.getElem?_cons_zero]; rfl
        case sw306_44 => rfl
        case yw306_44 => (intro w hSw; (try dsimp only at hSw); go_simp <;> with_reducible rfl)
        try simp only [Act.put, List.setIfInBounds_toArray, List.set_cons_zero, List.set_cons_succ]
        refine hR.take (i := 45) (oi := ?ow307_45) (v := ?vw307_45) (m' := 70368744177663) ?hw307_45 (by kernel_rfl) (by kernel_rfl) (fun _ _ _ h => h) (Or.inl ⟨?sw307_45, ?yw307_45⟩) (by assumption) ?nw307_45
        case hw307_45 => simp only [List.getElem?_toArray, List.getElem?_cons_succ, List.getElem?_cons_zero]; rfl
        case sw307_45 => rfl
        case yw307_45 => (intro w hSw; (try dsimp only at hSw); go_simp <;> with_reducible rfl)
        try simp only [Act.put, List.setIfInBounds_toArray, List.set_cons_zero, List.set_cons_succ]
        refine hR.come (rs := [46]) (by kernel_rfl) (by simp) ?_
        refine AllReadyH.cons (o := ?o308_46) ?h308_46 (fun K hK => ?kw308_46) AllReadyH.nil
        case h308_46 => simp only [List.getElem?_toArray, List.getElem?_cons_succ, List.getElem?_cons_zero]; rfl
        go_simp
        go_at_call 27; refine (maxRef _ _).mono ?_; rintro e w2 ⟨rfl, rfl⟩
        refine hK.out _ _ ?_ (fun hHeld => ?_)
        · (first | with_reducible assumption | (with_reducible refine Below.drew ?_; with_reducible assumption) | (with_reducible refine ba _ _ ?_; with_reducible assumption) | (with_reducible refine Below.drew ?_; with_reducible refine ba _ _ ?_; with_reducible assumption) | exact Below.refl _ _ | exact (Below.refl _ _).drew | exact (Below.refl _ _).alloc (Nat.le_refl _) _ | (refine bc _ _ (by assumption) (by assumption)))
        clear hK K
        refine RegOk.put_ (m' := 140737488355327) (by kernel_rfl) ?_
        try simp only [Act.put, List.setIfInBounds_toArray, List.set_cons_zero, List.set_cons_succ]
        refine hR.take (i := 47) (oi := ?ow309_47) (v := ?vw309_47) (m' := 281474976710655) ?hw309_47 (by kernel_rfl) (by kernel_rfl) (fun _ _ _ h => h) (Or.inl ⟨?sw309_47, ?yw309_47⟩) (by assumption) ?nw309_47
        case hw309_47 => simp only [List.getElem?_toArray, List.getElem?_cons_succ, List.getElem?_cons_zero]; rfl
        case sw309_47 => rfl
        case yw309_47 => (intro w hSw; (try dsimp only at hSw); go_simp <;> with_reducible rfl)
        try simp only [Act.put, List.setIfInBounds_toArray, List.set_cons_zero, List.set_cons_succ]
        refine hR.take (i := 48) (oi := ?ow310_48) (v := ?vw310_48) (m' := 562949953421311) ?hw310_48 (by kernel_rfl) (by kernel_rfl) (fun _ _ _ h => h) (Or.inl ⟨?sw310_48, ?yw310_48⟩) (by assumption) ?nw310_48
        case hw310_48 => simp only [List.getElem?_toArray, List.getElem?_cons_succ, List.getElem?_cons_zero]; rfl
        case sw310_48 => rfl
        case yw310_48 => (intro w hSw; (try dsimp only at hSw); go_simp <;> with_reducible rfl)
        try simp only [Act.put, List.setIfInBounds_toArray, List.set_cons_zero, List.set_cons_succ]
        refine hR.all (by kernel_rfl) ?_ _
        refine NoPanic.normal ?_
        go_wp2_with fail
        go_roundw
        case rel => exact ⟨j + 1, by omega, by go_num, by rw [Hn.out, Ha.out, hv.out]; rfl, Hb.out.drew⟩
        case measure => simp [intOf]; omega
    · have hj1 : ¬ (j : Int) < (l.length : Int) := by omega
      go_wp2_with fail
      go_ret
      refine ⟨ret_b ?_, Hb.out⟩
      have := Ha.out
      rw [List.take_of_length_le (by omega)] at this
      unfold validFltB
      rw [decide_eq_true h3, this]; rfl
end Go.Proofs.YtmkpaolbejlodaaDoor
