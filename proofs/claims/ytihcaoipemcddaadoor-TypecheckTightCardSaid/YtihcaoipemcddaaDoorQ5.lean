/-
  Contracts of the queries (XQ5): the reference's filters and Valid.
-/
import Derived.Test.YtihcaoipemcddaaDoorQ4
namespace Go.Proofs.YtihcaoipemcddaaDoor
open Go.RowKit

theorem not_cd {l : List Cd} {c : Cd} (h : c ∈ l) (hc : validCdB c = false) : validFltB l = false := by
  unfold validFltB
  rw [Bool.and_eq_false_iff]
  exact .inr (List.all_eq_false.2 ⟨c, h, by simp [hc]⟩)
def q5A : List FRow := [(0, ([], (14, [0]))), (1, ([], (15, [3]))), (2, ([0, 1], (16, [13, 14]))), (3, ([2], (17, [15]))), (4, ([3], (18, [16]))), (5, ([4], (19, [17]))), (6, ([5], (20, [18]))), (7, ([6], (21, [0, 19]))), (8, ([6], (22, [3, 19]))), (9, ([7, 8, 6], (23, [20, 21, 19]))), (10, ([9, 6], (24, [22, 19]))), (11, ([10, 6], (25, [23, 19]))), (12, ([11, 6], (26, [24, 19]))), (13, ([6, 12], (27, [19, 25]))), (14, ([13, 6], (28, [26]))), (15, ([14], (29, [0, 27]))), (16, ([14], (30, [3, 27]))), (17, ([15, 16, 14], (31, [28, 29, 27]))), (18, ([17, 14], (32, [30, 27]))), (19, ([18, 14], (33, [31, 27]))), (20, ([19, 14], (34, [32, 27]))), (21, ([14, 20], (35, [27, 33]))), (22, ([21, 14], (36, [34]))), (23, ([22], (37, [0, 35]))), (24, ([22], (38, [3, 35]))), (25, ([23, 24, 22], (39, [36, 37, 35]))), (26, ([25, 22], (40, [38, 35]))), (27, ([26, 22], (41, [39, 35]))), (28, ([22], (42, [0, 35]))), (29, ([22], (43, [3, 35]))), (30, ([28, 29, 22], (44, [41, 42, 35]))), (31, ([30, 22], (45, [43, 35]))), (32, ([31, 22], (46, [44, 35]))), (33, ([27, 32, 22], (47, [40, 45, 35]))), (34, ([22, 33], (48, [35, 46]))), (35, ([34, 22], (49, [47]))), (36, ([35], (50, [0, 48]))), (37, ([35], (51, [3, 48]))), (38, ([36, 37, 35], (52, [49, 50, 48]))), (39, ([38, 35], (53, [51, 48]))), (40, ([39, 35], (54, [52, 48]))), (41, ([35], (55, [0, 48]))), (42, ([35], (56, [3, 48]))), (43, ([41, 42, 35], (57, [54, 55, 48]))), (44, ([43, 35], (58, [56, 48]))), (45, ([44, 35], (59, [57, 48]))), (46, ([45, 35, 35], (60, [58, 48]))), (47, ([40, 46, 35], (61, [53, 59, 48]))), (48, ([35, 47], (62, [48, 60])))]
set_option maxRecDepth 100000 in
set_option maxHeartbeats 4000000 in
theorem validFltRef {l : List Cd} {A : Option Addr} {c : Nat} {S : Nat → Prop} (w : World) (h : Sl cdE S w A c l) :
    Calls Tryd.prog 51 #[.slice A l.length c] w fun e w' => e = .returned (.bool (validFltB l)) ∧ Below w.heap.size w w' := by
  have hm := h.max
  have H := Lib.hid h
  clear h
  by_cases h3 : l.length ≤ 3
  rotate_left
  · have h3' : (3 < (l.length : Int)) := by omega
    have hv := Lib.hid (show validFltB l = false by unfold validFltB; rw [decide_eq_false h3]; rfl)
    go_enter Tryd.func51, Tryd.ntmps51
    go_wp2_with fail
    go_ret
    exact ⟨ret_b hv.out.symm, Below.refl _ _⟩
  have h3' : ¬ (3 < (l.length : Int)) := by omega
  go_enter Tryd.func51, Tryd.ntmps51
  go_wp2_with fail
  go_loopw [3] (fun i wr => ∃ j : Nat, j ≤ l.length ∧ i = .int .i64 j ∧ (l.take j).all validCdB = true ∧ Below w.heap.size w wr) (fun i _ => l.length - (intOf i).toNat)
  case atStart => exact ⟨0, Nat.zero_le _, rfl, rfl, Below.refl _ _⟩
  case round =>
    obtain ⟨j, hj, rfl, ha, hb⟩ := hrel
    have Ha := Lib.hid ha
    have Hb := Lib.hid hb
    have hj0 : (0 : Int) ≤ (j : Int) := by omega
    by_cases hlt : j < l.length
    · obtain ⟨x, hx⟩ : ∃ x, l[j]? = some x := ⟨_, List.getElem?_eq_getElem hlt⟩
      obtain ⟨b1, o1, e1, -, l1, x0, x1, x2⟩ := cd_at (H.out.keep (Below.agree hb)) hx
      subst e1
      have hj1 : (j : Int) < (l.length : Int) := by omega
      have hn : (l.take (j + 1)).all validCdB = ((l.take j).all validCdB && validCdB x) := by rw [take_snocR hx]; simp
      have Hn := Lib.hid hn
      have Hx := Lib.hid hx
      have z0 := hold x0
      have z1 := hold x1
      have z2 := hold x2
      have br : Below wr.heap.size wr wr := Below.refl _ _
      have ba : ∀ W o, Below wr.heap.size wr W → Below wr.heap.size wr (W.alloc o) := fun W o h => h.alloc h.size o
      have bc : ∀ W W', Below wr.heap.size wr W → Below W.heap.size W W' → Below wr.heap.size wr W' := fun W W' h k => h.trans (k.mono h.size)
      clear ha hb hn hx l1
      go_wp2_with fail
      by_cases c1 : x.col < 0
      · have f1 : (x.col < 0) = True := eq_true c1
        have hv := Lib.hid (show validCdB x = false from decide_eq_false (fun h => by unfold ValidCd at h; omega))
        refine wp_region_noPanic ?_
        refine wp_region_held_drew (S := fun X => Below wr.heap.size wr X) (by kernel_rfl) ?_ (fun hHeld => ?_)
        · (first | with_reducible assumption | (with_reducible refine Below.drew ?_; with_reducible assumption) | (with_reducible refine ba _ _ ?_; with_reducible assumption) | (with_reducible refine Below.drew ?_; with_reducible refine ba _ _ ?_; with_reducible assumption) | exact Below.refl _ _ | exact (Below.refl _ _).drew | exact (Below.refl _ _).alloc (Nat.le_refl _) _ | (refine bc _ _ (by assumption) (by assumption)))
        refine RegOk.begin_ (n := 49) (T := q5A) ⟨by kernel_rfl, by kernel_rfl, by kernel_rfl, by kernel_rfl⟩ fun hR => ?_
        refine hR.take (i := 0) (oi := ?ow1_0) (v := ?vw1_0) (m' := 1) ?hw1_0 (by kernel_rfl) (by kernel_rfl) (fun _ _ _ h => h) (Or.inl ⟨?sw1_0, ?yw1_0⟩) (by assumption) ?nw1_0
        case hw1_0 => simp only [List.getElem?_toArray, List.getElem?_cons_succ, List.getElem?_cons_zero]; rfl
        case sw1_0 => rfl
        case yw1_0 => (intro w hSw; (try dsimp only at hSw); go_simp <;> with_reducible rfl)
        try simp only [Act.put, List.setIfInBounds_toArray, List.set_cons_zero, List.set_cons_succ]
        refine hR.take (i := 1) (oi := ?ow2_1) (v := ?vw2_1) (m' := 3) ?hw2_1 (by kernel_rfl) (by kernel_rfl) (fun _ _ _ h => h) (Or.inl ⟨?sw2_1, ?yw2_1⟩) (by assumption) ?nw2_1
        case hw2_1 => simp only [List.getElem?_toArray, List.getElem?_cons_succ, List.getElem?_cons_zero]; rfl
        case sw2_1 => rfl
        case yw2_1 => (intro w hSw; (try dsimp only at hSw); go_simp <;> with_reducible rfl)
        try simp only [Act.put, List.setIfInBounds_toArray, List.set_cons_zero, List.set_cons_succ]
        refine hR.take (i := 2) (oi := ?ow3_2) (v := ?vw3_2) (m' := 7) ?hw3_2 (by kernel_rfl) (by kernel_rfl) (fun _ _ _ h => h) (Or.inl ⟨?sw3_2, ?yw3_2⟩) (by assumption) ?nw3_2
        case hw3_2 => simp only [List.getElem?_toArray, List.getElem?_cons_succ, List.getElem?_cons_zero]; rfl
        case sw3_2 => rfl
        case yw3_2 => (intro w hSw; (try dsimp only at hSw); go_simp <;> with_reducible rfl)
        try simp only [Act.put, List.setIfInBounds_toArray, List.set_cons_zero, List.set_cons_succ]
        refine hR.take (i := 3) (oi := ?ow4_3) (v := ?vw4_3) (m' := 15) ?hw4_3 (by kernel_rfl) (by kernel_rfl) (fun _ _ _ h => h) (Or.inl ⟨?sw4_3, ?yw4_3⟩) (by assumption) ?nw4_3
        case hw4_3 => simp only [List.getElem?_toArray, List.getElem?_cons_succ, List.getElem?_cons_zero]; rfl
        case sw4_3 => rfl
        case yw4_3 => (intro w hSw; (try dsimp only at hSw); go_simp <;> with_reducible rfl)
        try simp only [Act.put, List.setIfInBounds_toArray, List.set_cons_zero, List.set_cons_succ]
        refine hR.take (i := 4) (oi := ?ow5_4) (v := ?vw5_4) (m' := 31) ?hw5_4 (by kernel_rfl) (by kernel_rfl) (fun _ _ _ h => h) (Or.inl ⟨?sw5_4, ?yw5_4⟩) (by assumption) ?nw5_4
        case hw5_4 => simp only [List.getElem?_toArray, List.getElem?_cons_succ, List.getElem?_cons_zero]; rfl
        case sw5_4 => rfl
        case yw5_4 => (intro w hSw; (try dsimp only at hSw); go_simp <;> with_reducible rfl)
        try simp only [Act.put, List.setIfInBounds_toArray, List.set_cons_zero, List.set_cons_succ]
        refine hR.take (i := 5) (oi := ?ow6_5) (v := ?vw6_5) (m' := 63) ?hw6_5 (by kernel_rfl) (by kernel_rfl) (fun _ _ _ h => h) (Or.inl ⟨?sw6_5, ?yw6_5⟩) (by assumption) ?nw6_5
        case hw6_5 => simp only [List.getElem?_toArray, List.getElem?_cons_succ, List.getElem?_cons_zero]; rfl
        case sw6_5 => rfl
        case yw6_5 => (intro w hSw; (try dsimp only at hSw); go_simp <;> with_reducible rfl)
        try simp only [Act.put, List.setIfInBounds_toArray, List.set_cons_zero, List.set_cons_succ]
        refine hR.take (i := 6) (oi := ?ow7_6) (v := ?vw7_6) (m' := 127) ?hw7_6 (by kernel_rfl) (by kernel_rfl) (fun _ _ _ h => h) (Or.inl ⟨?sw7_6, ?yw7_6⟩) (by assumption) ?nw7_6
        case hw7_6 => simp only [List.getElem?_toArray, List.getElem?_cons_succ, List.getElem?_cons_zero]; rfl
        case sw7_6 => rfl
        case yw7_6 => (intro w hSw; (try dsimp only at hSw); go_simp <;> with_reducible rfl)
        try simp only [Act.put, List.setIfInBounds_toArray, List.set_cons_zero, List.set_cons_succ]
        refine hR.take (i := 7) (oi := ?ow8_7) (v := ?vw8_7) (m' := 255) ?hw8_7 (by kernel_rfl) (by kernel_rfl) (fun _ _ _ h => h) (Or.inr ⟨?sw8_7, ?yw8_7⟩) (by assumption) ?nw8_7
        case hw8_7 => simp only [List.getElem?_toArray, List.getElem?_cons_succ, List.getElem?_cons_zero]; rfl
        case sw8_7 => rfl
        case yw8_7 => rfl
        try simp only [Act.put, List.setIfInBounds_toArray, List.set_cons_zero, List.set_cons_succ]
        refine hR.take (i := 8) (oi := ?ow9_8) (v := ?vw9_8) (m' := 511) ?hw9_8 (by kernel_rfl) (by kernel_rfl) (fun _ _ _ h => h) (Or.inr ⟨?sw9_8, ?yw9_8⟩) (by assumption) ?nw9_8
        case hw9_8 => simp only [List.getElem?_toArray, List.getElem?_cons_succ, List.getElem?_cons_zero]; rfl
        case sw9_8 => rfl
        case yw9_8 => rfl
        try simp only [Act.put, List.setIfInBounds_toArray, List.set_cons_zero, List.set_cons_succ]
        refine hR.take (i := 9) (oi := ?ow10_9) (v := ?vw10_9) (m' := 1023) ?hw10_9 (by kernel_rfl) (by kernel_rfl) (fun _ _ _ h => h) (Or.inr ⟨?sw10_9, ?yw10_9⟩) (by assumption) ?nw10_9
        case hw10_9 => simp only [List.getElem?_toArray, List.getElem?_cons_succ, List.getElem?_cons_zero]; rfl
        case sw10_9 => rfl
        case yw10_9 => rfl
        try simp only [Act.put, List.setIfInBounds_toArray, List.set_cons_zero, List.set_cons_succ]
        refine hR.take (i := 10) (oi := ?ow11_10) (v := ?vw11_10) (m' := 2047) ?hw11_10 (by kernel_rfl) (by kernel_rfl) (fun _ _ _ h => h) (Or.inr ⟨?sw11_10, ?yw11_10⟩) (by assumption) ?nw11_10
        case hw11_10 => simp only [List.getElem?_toArray, List.getElem?_cons_succ, List.getElem?_cons_zero]; rfl
        case sw11_10 => rfl
        case yw11_10 => rfl
        try simp only [Act.put, List.setIfInBounds_toArray, List.set_cons_zero, List.set_cons_succ]
        refine hR.take (i := 11) (oi := ?ow12_11) (v := ?vw12_11) (m' := 4095) ?hw12_11 (by kernel_rfl) (by kernel_rfl) (fun _ _ _ h => h) (Or.inr ⟨?sw12_11, ?yw12_11⟩) (by assumption) ?nw12_11
        case hw12_11 => simp only [List.getElem?_toArray, List.getElem?_cons_succ, List.getElem?_cons_zero]; rfl
        case sw12_11 => rfl
        case yw12_11 => rfl
        try simp only [Act.put, List.setIfInBounds_toArray, List.set_cons_zero, List.set_cons_succ]
        refine hR.take (i := 12) (oi := ?ow13_12) (v := ?vw13_12) (m' := 8191) ?hw13_12 (by kernel_rfl) (by kernel_rfl) (fun _ _ _ h => h) (Or.inr ⟨?sw13_12, ?yw13_12⟩) (by assumption) ?nw13_12
        case hw13_12 => simp only [List.getElem?_toArray, List.getElem?_cons_succ, List.getElem?_cons_zero]; rfl
        case sw13_12 => rfl
        case yw13_12 => rfl
        try simp only [Act.put, List.setIfInBounds_toArray, List.set_cons_zero, List.set_cons_succ]
        refine hR.take (i := 13) (oi := ?ow14_13) (v := ?vw14_13) (m' := 16383) ?hw14_13 (by kernel_rfl) (by kernel_rfl) (fun _ _ _ h => h) (Or.inl ⟨?sw14_13, ?yw14_13⟩) (by assumption) ?nw14_13
        case hw14_13 => simp only [List.getElem?_toArray, List.getElem?_cons_succ, List.getElem?_cons_zero]; rfl
        case sw14_13 => rfl
        case yw14_13 => (intro w hSw; (try dsimp only at hSw); go_simp <;> with_reducible rfl)
        try simp only [Act.put, List.setIfInBounds_toArray, List.set_cons_zero, List.set_cons_succ]
        refine hR.take (i := 14) (oi := ?ow15_14) (v := ?vw15_14) (m' := 32767) ?hw15_14 (by kernel_rfl) (by kernel_rfl) (fun _ _ _ h => h) (Or.inl ⟨?sw15_14, ?yw15_14⟩) (by assumption) ?nw15_14
        case hw15_14 => simp only [List.getElem?_toArray, List.getElem?_cons_succ, List.getElem?_cons_zero]; rfl
        case sw15_14 => rfl
        case yw15_14 => (intro w hSw; (try dsimp only at hSw); go_simp <;> with_reducible rfl)
        try simp only [Act.put, List.setIfInBounds_toArray, List.set_cons_zero, List.set_cons_succ]
        refine hR.take (i := 15) (oi := ?ow16_15) (v := ?vw16_15) (m' := 65535) ?hw16_15 (by kernel_rfl) (by kernel_rfl) (fun _ _ _ h => h) (Or.inr ⟨?sw16_15, ?yw16_15⟩) (by assumption) ?nw16_15
        case hw16_15 => simp only [List.getElem?_toArray, List.getElem?_cons_succ, List.getElem?_cons_zero]; rfl
        case sw16_15 => rfl
        case yw16_15 => rfl
        try simp only [Act.put, List.setIfInBounds_toArray, List.set_cons_zero, List.set_cons_succ]
        refine hR.take (i := 16) (oi := ?ow17_16) (v := ?vw17_16) (m' := 131071) ?hw17_16 (by kernel_rfl) (by kernel_rfl) (fun _ _ _ h => h) (Or.inr ⟨?sw17_16, ?yw17_16⟩) (by assumption) ?nw17_16
        case hw17_16 => simp only [List.getElem?_toArray, List.getElem?_cons_succ, List.getElem?_cons_zero]; rfl
        case sw17_16 => rfl
        case yw17_16 => rfl
        try simp only [Act.put, List.setIfInBounds_toArray, List.set_cons_zero, List.set_cons_succ]
        refine hR.take (i := 17) (oi := ?ow18_17) (v := ?vw18_17) (m' := 262143) ?hw18_17 (by kernel_rfl) (by kernel_rfl) (fun _ _ _ h => h) (Or.inr ⟨?sw18_17, ?yw18_17⟩) (by assumption) ?nw18_17
        case hw18_17 => simp only [List.getElem?_toArray, List.getElem?_cons_succ, List.getElem?_cons_zero]; rfl
        case sw18_17 => rfl
        case yw18_17 => rfl
        try simp only [Act.put, List.setIfInBounds_toArray, List.set_cons_zero, List.set_cons_succ]
        refine hR.take (i := 18) (oi := ?ow19_18) (v := ?vw19_18) (m' := 524287) ?hw19_18 (by kernel_rfl) (by kernel_rfl) (fun _ _ _ h => h) (Or.inr ⟨?sw19_18, ?yw19_18⟩) (by assumption) ?nw19_18
        case hw19_18 => simp only [List.getElem?_toArray, List.getElem?_cons_succ, List.getElem?_cons_zero]; rfl
        case sw19_18 => rfl
        case yw19_18 => rfl
        try simp only [Act.put, List.setIfInBounds_toArray, List.set_cons_zero, List.set_cons_succ]
        refine hR.take (i := 19) (oi := ?ow20_19) (v := ?vw20_19) (m' := 1048575) ?hw20_19 (by kernel_rfl) (by kernel_rfl) (fun _ _ _ h => h) (Or.inr ⟨?sw20_19, ?yw20_19⟩) (by assumption) ?nw20_19
        case hw20_19 => simp only [List.getElem?_toArray, List.getElem?_cons_succ, List.getElem?_cons_zero]; rfl
        case sw20_19 => rfl
        case yw20_19 => rfl
        try simp only [Act.put, List.setIfInBounds_toArray, List.set_cons_zero, List.set_cons_succ]
        refine hR.take (i := 20) (oi := ?ow21_20) (v := ?vw21_20) (m' := 2097151) ?hw21_20 (by kernel_rfl) (by kernel_rfl) (fun _ _ _ h => h) (Or.inr ⟨?sw21_20, ?yw21_20⟩) (by assumption) ?nw21_20
        case hw21_20 => simp only [List.getElem?_toArray, List.getElem?_cons_succ, List.getElem?_cons_zero]; rfl
        case sw21_20 => rfl
        case yw21_20 => rfl
        try simp only [Act.put, List.setIfInBounds_toArray, List.set_cons_zero, List.set_cons_succ]
        refine hR.take (i := 21) (oi := ?ow22_21) (v := ?vw22_21) (m' := 4194303) ?hw22_21 (by kernel_rfl) (by kernel_rfl) (fun _ _ _ h => h) (Or.inl ⟨?sw22_21, ?yw22_21⟩) (by assumption) ?nw22_21
        case hw22_21 => simp only [List.getElem?_toArray, List.getElem?_cons_succ, List.getElem?_cons_zero]; rfl
        case sw22_21 => rfl
        case yw22_21 => (intro w hSw; (try dsimp only at hSw); go_simp <;> with_reducible rfl)
        try simp only [Act.put, List.setIfInBounds_toArray, List.set_cons_zero, List.set_cons_succ]
        refine hR.take (i := 22) (oi := ?ow23_22) (v := ?vw23_22) (m' := 8388607) ?hw23_22 (by kernel_rfl) (by kernel_rfl) (fun _ _ _ h => h) (Or.inl ⟨?sw23_22, ?yw23_22⟩) (by assumption) ?nw23_22
        case hw23_22 => simp only [List.getElem?_toArray, List.getElem?_cons_succ, List.getElem?_cons_zero]; rfl
        case sw23_22 => rfl
        case yw23_22 => (intro w hSw; (try dsimp only at hSw); go_simp <;> with_reducible rfl)
        try simp only [Act.put, List.setIfInBounds_toArray, List.set_cons_zero, List.set_cons_succ]
        refine hR.take (i := 23) (oi := ?ow24_23) (v := ?vw24_23) (m' := 16777215) ?hw24_23 (by kernel_rfl) (by kernel_rfl) (fun _ _ _ h => h) (Or.inr ⟨?sw24_23, ?yw24_23⟩) (by assumption) ?nw24_23
        case hw24_23 => simp only [List.getElem?_toArray, List.getElem?_cons_succ, List.getElem?_cons_zero]; rfl
        case sw24_23 => rfl
        case yw24_23 => rfl
        try simp only [Act.put, List.setIfInBounds_toArray, List.set_cons_zero, List.set_cons_succ]
        refine hR.take (i := 24) (oi := ?ow25_24) (v := ?vw25_24) (m' := 33554431) ?hw25_24 (by kernel_rfl) (by kernel_rfl) (fun _ _ _ h => h) (Or.inr ⟨?sw25_24, ?yw25_24⟩) (by assumption) ?nw25_24
        case hw25_24 => simp only [List.getElem?_toArray, List.getElem?_cons_succ, List.getElem?_cons_zero]; rfl
        case sw25_24 => rfl
        case yw25_24 => rfl
        try simp only [Act.put, List.setIfInBounds_toArray, List.set_cons_zero, List.set_cons_succ]
        refine hR.take (i := 25) (oi := ?ow26_25) (v := ?vw26_25) (m' := 67108863) ?hw26_25 (by kernel_rfl) (by kernel_rfl) (fun _ _ _ h => h) (Or.inr ⟨?sw26_25, ?yw26_25⟩) (by assumption) ?nw26_25
        case hw26_25 => simp only [List.getElem?_toArray, List.getElem?_cons_succ, List.getElem?_cons_zero]; rfl
        case sw26_25 => rfl
        case yw26_25 => rfl
        try simp only [Act.put, List.setIfInBounds_toArray, List.set_cons_zero, List.set_cons_succ]
        refine hR.take (i := 26) (oi := ?ow27_26) (v := ?vw27_26) (m' := 134217727) ?hw27_26 (by kernel_rfl) (by kernel_rfl) (fun _ _ _ h => h) (Or.inr ⟨?sw27_26, ?yw27_26⟩) (by assumption) ?nw27_26
        case hw27_26 => simp only [List.getElem?_toArray, List.getElem?_cons_succ, List.getElem?_cons_zero]; rfl
        case sw27_26 => rfl
        case yw27_26 => rfl
        try simp only [Act.put, List.setIfInBounds_toArray, List.set_cons_zero, List.set_cons_succ]
        refine hR.take (i := 27) (oi := ?ow28_27) (v := ?vw28_27) (m' := 268435455) ?hw28_27 (by kernel_rfl) (by kernel_rfl) (fun _ _ _ h => h) (Or.inr ⟨?sw28_27, ?yw28_27⟩) (by assumption) ?nw28_27
        case hw28_27 => simp only [List.getElem?_toArray, List.getElem?_cons_succ, List.getElem?_cons_zero]; rfl
        case sw28_27 => rfl
        case yw28_27 => rfl
        try simp only [Act.put, List.setIfInBounds_toArray, List.set_cons_zero, List.set_cons_succ]
        refine hR.take (i := 28) (oi := ?ow29_28) (v := ?vw29_28) (m' := 536870911) ?hw29_28 (by kernel_rfl) (by kernel_rfl) (fun _ _ _ h => h) (Or.inr ⟨?sw29_28, ?yw29_28⟩) (by assumption) ?nw29_28
        case hw29_28 => simp only [List.getElem?_toArray, List.getElem?_cons_succ, List.getElem?_cons_zero]; rfl
        case sw29_28 => rfl
        case yw29_28 => rfl
        try simp only [Act.put, List.setIfInBounds_toArray, List.set_cons_zero, List.set_cons_succ]
        refine hR.take (i := 29) (oi := ?ow30_29) (v := ?vw30_29) (m' := 1073741823) ?hw30_29 (by kernel_rfl) (by kernel_rfl) (fun _ _ _ h => h) (Or.inr ⟨?sw30_29, ?yw30_29⟩) (by assumption) ?nw30_29
        case hw30_29 => simp only [List.getElem?_toArray, List.getElem?_cons_succ, List.getElem?_cons_zero]; rfl
        case sw30_29 => rfl
        case yw30_29 => rfl
        try simp only [Act.put, List.setIfInBounds_toArray, List.set_cons_zero, List.set_cons_succ]
        refine hR.take (i := 30) (oi := ?ow31_30) (v := ?vw31_30) (m' := 2147483647) ?hw31_30 (by kernel_rfl) (by kernel_rfl) (fun _ _ _ h => h) (Or.inr ⟨?sw31_30, ?yw31_30⟩) (by assumption) ?nw31_30
        case hw31_30 => simp only [List.getElem?_toArray, List.getElem?_cons_succ, List.getElem?_cons_zero]; rfl
        case sw31_30 => rfl
        case yw31_30 => rfl
        try simp only [Act.put, List.setIfInBounds_toArray, List.set_cons_zero, List.set_cons_succ]
        refine hR.take (i := 31) (oi := ?ow32_31) (v := ?vw32_31) (m' := 4294967295) ?hw32_31 (by kernel_rfl) (by kernel_rfl) (fun _ _ _ h => h) (Or.inr ⟨?sw32_31, ?yw32_31⟩) (by assumption) ?nw32_31
        case hw32_31 => simp only [List.getElem?_toArray, List.getElem?_cons_succ, List.getElem?_cons_zero]; rfl
        case sw32_31 => rfl
        case yw32_31 => rfl
        try simp only [Act.put, List.setIfInBounds_toArray, List.set_cons_zero, List.set_cons_succ]
        refine hR.take (i := 32) (oi := ?ow33_32) (v := ?vw33_32) (m' := 8589934591) ?hw33_32 (by kernel_rfl) (by kernel_rfl) (fun _ _ _ h => h) (Or.inr ⟨?sw33_32, ?yw33_32⟩) (by assumption) ?nw33_32
        case hw33_32 => simp only [List.getElem?_toArray, List.getElem?_cons_succ, List.getElem?_cons_zero]; rfl
        case sw33_32 => rfl
        case yw33_32 => rfl
        try simp only [Act.put, List.setIfInBounds_toArray, List.set_cons_zero, List.set_cons_succ]
        refine hR.take (i := 33) (oi := ?ow34_33) (v := ?vw34_33) (m' := 17179869183) ?hw34_33 (by kernel_rfl) (by kernel_rfl) (fun _ _ _ h => h) (Or.inr ⟨?sw34_33, ?yw34_33⟩) (by assumption) ?nw34_33
        case hw34_33 => simp only [List.getElem?_toArray, List.getElem?_cons_succ, List.getElem?_cons_zero]; rfl
        case sw34_33 => rfl
        case yw34_33 => rfl
        try simp only [Act.put, List.setIfInBounds_toArray, List.set_cons_zero, List.set_cons_succ]
        refine hR.take (i := 34) (oi := ?ow35_34) (v := ?vw35_34) (m' := 34359738367) ?hw35_34 (by kernel_rfl) (by kernel_rfl) (fun _ _ _ h => h) (Or.inl ⟨?sw35_34, ?yw35_34⟩) (by assumption) ?nw35_34
        case hw35_34 => simp only [List.getElem?_toArray, List.getElem?_cons_succ, List.getElem?_cons_zero]; rfl
        case sw35_34 => rfl
        case yw35_34 => (intro w hSw; (try dsimp only at hSw); go_simp <;> with_reducible rfl)
        try simp only [Act.put, List.setIfInBounds_toArray, List.set_cons_zero, List.set_cons_succ]
        refine hR.take (i := 35) (oi := ?ow36_35) (v := ?vw36_35) (m' := 68719476735) ?hw36_35 (by kernel_rfl) (by kernel_rfl) (fun _ _ _ h => h) (Or.inl ⟨?sw36_35, ?yw36_35⟩) (by assumption) ?nw36_35
        case hw36_35 => simp only [List.getElem?_toArray, List.getElem?_cons_succ, List.getElem?_cons_zero]; rfl
        case sw36_35 => rfl
        case yw36_35 => (intro w hSw; (try dsimp only at hSw); go_simp <;> with_reducible rfl)
        try simp only [Act.put, List.setIfInBounds_toArray, List.set_cons_zero, List.set_cons_succ]
        refine hR.take (i := 36) (oi := ?ow37_36) (v := ?vw37_36) (m' := 137438953471) ?hw37_36 (by kernel_rfl) (by kernel_rfl) (fun _ _ _ h => h) (Or.inr ⟨?sw37_36, ?yw37_36⟩) (by assumption) ?nw37_36
        case hw37_36 => simp only [List.getElem?_toArray, List.getElem?_cons_succ, List.getElem?_cons_zero]; rfl
        case sw37_36 => rfl
        case yw37_36 => rfl
        try simp only [Act.put, List.setIfInBounds_toArray, List.set_cons_zero, List.set_cons_succ]
        refine hR.take (i := 37) (oi := ?ow38_37) (v := ?vw38_37) (m' := 274877906943) ?hw38_37 (by kernel_rfl) (by kernel_rfl) (fun _ _ _ h => h) (Or.inr ⟨?sw38_37, ?yw38_37⟩) (by assumption) ?nw38_37
        case hw38_37 => simp only [List.getElem?_toArray, List.getElem?_cons_succ, List.getElem?_cons_zero]; rfl
        case sw38_37 => rfl
        case yw38_37 => rfl
        try simp only [Act.put, List.setIfInBounds_toArray, List.set_cons_zero, List.set_cons_succ]
        refine hR.take (i := 38) (oi := ?ow39_38) (v := ?vw39_38) (m' := 549755813887) ?hw39_38 (by kernel_rfl) (by kernel_rfl) (fun _ _ _ h => h) (Or.inr ⟨?sw39_38, ?yw39_38⟩) (by assumption) ?nw39_38
        case hw39_38 => simp only [List.getElem?_toArray, List.getElem?_cons_succ, List.getElem?_cons_zero]; rfl
        case sw39_38 => rfl
        case yw39_38 => rfl
        try simp only [Act.put, List.setIfInBounds_toArray, List.set_cons_zero, List.set_cons_succ]
        refine hR.take (i := 39) (oi := ?ow40_39) (v := ?vw40_39) (m' := 1099511627775) ?hw40_39 (by kernel_rfl) (by kernel_rfl) (fun _ _ _ h => h) (Or.inr ⟨?sw40_39, ?yw40_39⟩) (by assumption) ?nw40_39
        case hw40_39 => simp only [List.getElem?_toArray, List.getElem?_cons_succ, List.getElem?_cons_zero]; rfl
        case sw40_39 => rfl
        case yw40_39 => rfl
        try simp only [Act.put, List.setIfInBounds_toArray, List.set_cons_zero, List.set_cons_succ]
        refine hR.take (i := 40) (oi := ?ow41_40) (v := ?vw41_40) (m' := 2199023255551) ?hw41_40 (by kernel_rfl) (by kernel_rfl) (fun _ _ _ h => h) (Or.inr ⟨?sw41_40, ?yw41_40⟩) (by assumption) ?nw41_40
        case hw41_40 => simp only [List.getElem?_toArray, List.getElem?_cons_succ, List.getElem?_cons_zero]; rfl
        case sw41_40 => rfl
        case yw41_40 => rfl
        try simp only [Act.put, List.setIfInBounds_toArray, List.set_cons_zero, List.set_cons_succ]
        refine hR.take (i := 41) (oi := ?ow42_41) (v := ?vw42_41) (m' := 4398046511103) ?hw42_41 (by kernel_rfl) (by kernel_rfl) (fun _ _ _ h => h) (Or.inr ⟨?sw42_41, ?yw42_41⟩) (by assumption) ?nw42_41
        case hw42_41 => simp only [List.getElem?_toArray, List.getElem?_cons_succ, List.getElem?_cons_zero]; rfl
        case sw42_41 => rfl
        case yw42_41 => rfl
        try simp only [Act.put, List.setIfInBounds_toArray, List.set_cons_zero, List.set_cons_succ]
        refine hR.take (i := 42) (oi := ?ow43_42) (v := ?vw43_42) (m' := 8796093022207) ?hw43_42 (by kernel_rfl) (by kernel_rfl) (fun _ _ _ h => h) (Or.inr ⟨?sw43_42, ?yw43_42⟩) (by assumption) ?nw43_42
        case hw43_42 => simp only [List.getElem?_toArray, List.getElem?_cons_succ, List.getElem?_cons_zero]; rfl
        case sw43_42 => rfl
        case yw43_42 => rfl
        try simp only [Act.put, List.setIfInBounds_toArray, List.set_cons_zero, List.set_cons_succ]
        refine hR.take (i := 43) (oi := ?ow44_43) (v := ?vw44_43) (m' := 17592186044415) ?hw44_43 (by kernel_rfl) (by kernel_rfl) (fun _ _ _ h => h) (Or.inr ⟨?sw44_43, ?yw44_43⟩) (by assumption) ?nw44_43
        case hw44_43 => simp only [List.getElem?_toArray, List.getElem?_cons_succ, List.getElem?_cons_zero]; rfl
        case sw44_43 => rfl
        case yw44_43 => rfl
        try simp only [Act.put, List.setIfInBounds_toArray, List.set_cons_zero, List.set_cons_succ]
        refine hR.take (i := 44) (oi := ?ow45_44) (v := ?vw45_44) (m' := 35184372088831) ?hw45_44 (by kernel_rfl) (by kernel_rfl) (fun _ _ _ h => h) (Or.inr ⟨?sw45_44, ?yw45_44⟩) (by assumption) ?nw45_44
        case hw45_44 => simp only [List.getElem?_toArray, List.getElem?_cons_succ, List.getElem?_cons_zero]; rfl
        case sw45_44 => rfl
        case yw45_44 => rfl
        try simp only [Act.put, List.setIfInBounds_toArray, List.set_cons_zero, List.set_cons_succ]
        refine hR.take (i := 45) (oi := ?ow46_45) (v := ?vw46_45) (m' := 70368744177663) ?hw46_45 (by kernel_rfl) (by kernel_rfl) (fun _ _ _ h => h) (Or.inr ⟨?sw46_45, ?yw46_45⟩) (by assumption) ?nw46_45
        case hw46_45 => simp only [List.getElem?_toArray, List.getElem?_cons_succ, List.getElem?_cons_zero]; rfl
        case sw46_45 => rfl
        case yw46_45 => rfl
        try simp only [Act.put, List.setIfInBounds_toArray, List.set_cons_zero, List.set_cons_succ]
        refine hR.take (i := 46) (oi := ?ow47_46) (v := ?vw47_46) (m' := 140737488355327) ?hw47_46 (by kernel_rfl) (by kernel_rfl) (fun _ _ _ h => h) (Or.inr ⟨?sw47_46, ?yw47_46⟩) (by assumption) ?nw47_46
        case hw47_46 => simp only [List.getElem?_toArray, List.getElem?_cons_succ, List.getElem?_cons_zero]; rfl
        case sw47_46 => rfl
        case yw47_46 => rfl
        try simp only [Act.put, List.setIfInBounds_toArray, List.set_cons_zero, List.set_cons_succ]
        refine hR.take (i := 47) (oi := ?ow48_47) (v := ?vw48_47) (m' := 281474976710655) ?hw48_47 (by kernel_rfl) (by kernel_rfl) (fun _ _ _ h => h) (Or.inr ⟨?sw48_47, ?yw48_47⟩) (by assumption) ?nw48_47
        case hw48_47 => simp only [List.getElem?_toArray, List.getElem?_cons_succ, List.getElem?_cons_zero]; rfl
        case sw48_47 => rfl
        case yw48_47 => rfl
        try simp only [Act.put, List.setIfInBounds_toArray, List.set_cons_zero, List.set_cons_succ]
        refine hR.take (i := 48) (oi := ?ow49_48) (v := ?vw49_48) (m' := 562949953421311) ?hw49_48 (by kernel_rfl) (by kernel_rfl) (fun _ _ _ h => h) (Or.inl ⟨?sw49_48, ?yw49_48⟩) (by assumption) ?nw49_48
        case hw49_48 => simp only [List.getElem?_toArray, List.getElem?_cons_succ, List.getElem?_cons_zero]; rfl
        case sw49_48 => rfl
        case yw49_48 => (intro w hSw; (try dsimp only at hSw); go_simp <;> with_reducible rfl)
        try simp only [Act.put, List.setIfInBounds_toArray, List.set_cons_zero, List.set_cons_succ]
        refine hR.all (by kernel_rfl) ?_ _
        refine NoPanic.normal ?_
        go_wp2_with fail
        go_ret
        exact ⟨ret_b (not_cd (List.mem_of_getElem? Hx.out) hv.out).symm, Hb.out.drew⟩
      have f1 : (x.col < 0) = False := eq_false c1
      by_cases c2 : 3 < x.col
      · have f2 : (3 < x.col) = True := eq_true c2
        have hv := Lib.hid (show validCdB x = false from decide_eq_false (fun h => by unfold ValidCd at h; omega))
        refine wp_region_noPanic ?_
        refine wp_region_held_drew (S := fun X => Below wr.heap.size wr X) (by kernel_rfl) ?_ (fun hHeld => ?_)
        · (first | with_reducible assumption | (with_reducible refine Below.drew ?_; with_reducible assumption) | (with_reducible refine ba _ _ ?_; with_reducible assumption) | (with_reducible refine Below.drew ?_; with_reducible refine ba _ _ ?_; with_reducible assumption) | exact Below.refl _ _ | exact (Below.refl _ _).drew | exact (Below.refl _ _).alloc (Nat.le_refl _) _ | (refine bc _ _ (by assumption) (by assumption)))
        refine RegOk.begin_ (n := 49) (T := q5A) ⟨by kernel_rfl, by kernel_rfl, by kernel_rfl, by kernel_rfl⟩ fun hR => ?_
        refine hR.take (i := 0) (oi := ?ow50_0) (v := ?vw50_0) (m' := 1) ?hw50_0 (by kernel_rfl) (by kernel_rfl) (fun _ _ _ h => h) (Or.inl ⟨?sw50_0, ?yw50_0⟩) (by assumption) ?nw50_0
        case hw50_0 => simp only [List.getElem?_toArray, List.getElem?_cons_succ, List.getElem?_cons_zero]; rfl
        case sw50_0 => rfl
        case yw50_0 => (intro w hSw; (try dsimp only at hSw); go_simp <;> with_reducible rfl)
        try simp only [Act.put, List.setIfInBounds_toArray, List.set_cons_zero, List.set_cons_succ]
        refine hR.take (i := 1) (oi := ?ow51_1) (v := ?vw51_1) (m' := 3) ?hw51_1 (by kernel_rfl) (by kernel_rfl) (fun _ _ _ h => h) (Or.inl ⟨?sw51_1, ?yw51_1⟩) (by assumption) ?nw51_1
        case hw51_1 => simp only [List.getElem?_toArray, List.getElem?_cons_succ, List.getElem?_cons_zero]; rfl
        case sw51_1 => rfl
        case yw51_1 => (intro w hSw; (try dsimp only at hSw); go_simp <;> with_reducible rfl)
        try simp only [Act.put, List.setIfInBounds_toArray, List.set_cons_zero, List.set_cons_succ]
        refine hR.take (i := 2) (oi := ?ow52_2) (v := ?vw52_2) (m' := 7) ?hw52_2 (by kernel_rfl) (by kernel_rfl) (fun _ _ _ h => h) (Or.inl ⟨?sw52_2, ?yw52_2⟩) (by assumption) ?nw52_2
        case hw52_2 => simp only [List.getElem?_toArray, List.getElem?_cons_succ, List.getElem?_cons_zero]; rfl
        case sw52_2 => rfl
        case yw52_2 => (intro w hSw; (try dsimp only at hSw); go_simp <;> with_reducible rfl)
        try simp only [Act.put, List.setIfInBounds_toArray, List.set_cons_zero, List.set_cons_succ]
        refine hR.take (i := 3) (oi := ?ow53_3) (v := ?vw53_3) (m' := 15) ?hw53_3 (by kernel_rfl) (by kernel_rfl) (fun _ _ _ h => h) (Or.inl ⟨?sw53_3, ?yw53_3⟩) (by assumption) ?nw53_3
        case hw53_3 => simp only [List.getElem?_toArray, List.getElem?_cons_succ, List.getElem?_cons_zero]; rfl
        case sw53_3 => rfl
        case yw53_3 => (intro w hSw; (try dsimp only at hSw); go_simp <;> with_reducible rfl)
        try simp only [Act.put, List.setIfInBounds_toArray, List.set_cons_zero, List.set_cons_succ]
        refine hR.take (i := 4) (oi := ?ow54_4) (v := ?vw54_4) (m' := 31) ?hw54_4 (by kernel_rfl) (by kernel_rfl) (fun _ _ _ h => h) (Or.inl ⟨?sw54_4, ?yw54_4⟩) (by assumption) ?nw54_4
        case hw54_4 => simp only [List.getElem?_toArray, List.getElem?_cons_succ, List.getElem?_cons_zero]; rfl
        case sw54_4 => rfl
        case yw54_4 => (intro w hSw; (try dsimp only at hSw); go_simp <;> with_reducible rfl)
        try simp only [Act.put, List.setIfInBounds_toArray, List.set_cons_zero, List.set_cons_succ]
        refine hR.take (i := 5) (oi := ?ow55_5) (v := ?vw55_5) (m' := 63) ?hw55_5 (by kernel_rfl) (by kernel_rfl) (fun _ _ _ h => h) (Or.inl ⟨?sw55_5, ?yw55_5⟩) (by assumption) ?nw55_5
        case hw55_5 => simp only [List.getElem?_toArray, List.getElem?_cons_succ, List.getElem?_cons_zero]; rfl
        case sw55_5 => rfl
        case yw55_5 => (intro w hSw; (try dsimp only at hSw); go_simp <;> with_reducible rfl)
        try simp only [Act.put, List.setIfInBounds_toArray, List.set_cons_zero, List.set_cons_succ]
        refine hR.take (i := 6) (oi := ?ow56_6) (v := ?vw56_6) (m' := 127) ?hw56_6 (by kernel_rfl) (by kernel_rfl) (fun _ _ _ h => h) (Or.inl ⟨?sw56_6, ?yw56_6⟩) (by assumption) ?nw56_6
        case hw56_6 => simp only [List.getElem?_toArray, List.getElem?_cons_succ, List.getElem?_cons_zero]; rfl
        case sw56_6 => rfl
        case yw56_6 => (intro w hSw; (try dsimp only at hSw); go_simp <;> with_reducible rfl)
        try simp only [Act.put, List.setIfInBounds_toArray, List.set_cons_zero, List.set_cons_succ]
        refine hR.take (i := 7) (oi := ?ow57_7) (v := ?vw57_7) (m' := 255) ?hw57_7 (by kernel_rfl) (by kernel_rfl) (fun _ _ _ h => h) (Or.inl ⟨?sw57_7, ?yw57_7⟩) (by assumption) ?nw57_7
        case hw57_7 => simp only [List.getElem?_toArray, List.getElem?_cons_succ, List.getElem?_cons_zero]; rfl
        case sw57_7 => rfl
        case yw57_7 => (intro w hSw; (try dsimp only at hSw); go_simp <;> with_reducible rfl)
        try simp only [Act.put, List.setIfInBounds_toArray, List.set_cons_zero, List.set_cons_succ]
        refine hR.take (i := 8) (oi := ?ow58_8) (v := ?vw58_8) (m' := 511) ?hw58_8 (by kernel_rfl) (by kernel_rfl) (fun _ _ _ h => h) (Or.inl ⟨?sw58_8, ?yw58_8⟩) (by assumption) ?nw58_8
        case hw58_8 => simp only [List.getElem?_toArray, List.getElem?_cons_succ, List.getElem?_cons_zero]; rfl
        case sw58_8 => rfl
        case yw58_8 => (intro w hSw; (try dsimp only at hSw); go_simp <;> with_reducible rfl)
        try simp only [Act.put, List.setIfInBounds_toArray, List.set_cons_zero, List.set_cons_succ]
        refine hR.take (i := 9) (oi := ?ow59_9) (v := ?vw59_9) (m' := 1023) ?hw59_9 (by kernel_rfl) (by kernel_rfl) (fun _ _ _ h => h) (Or.inl ⟨?sw59_9, ?yw59_9⟩) (by assumption) ?nw59_9
        case hw59_9 => simp only [List.getElem?_toArray, List.getElem?_cons_succ, List.getElem?_cons_zero]; rfl
        case sw59_9 => rfl
        case yw59_9 => (intro w hSw; (try dsimp only at hSw); go_simp <;> with_reducible rfl)
        try simp only [Act.put, List.setIfInBounds_toArray, List.set_cons_zero, List.set_cons_succ]
        refine hR.take (i := 10) (oi := ?ow60_10) (v := ?vw60_10) (m' := 2047) ?hw60_10 (by kernel_rfl) (by kernel_rfl) (fun _ _ _ h => h) (Or.inl ⟨?sw60_10, ?yw60_10⟩) (by assumption) ?nw60_10
        case hw60_10 => simp only [List.getElem?_toArray, List.getElem?_cons_succ, List.getElem?_cons_zero]; rfl
        case sw60_10 => rfl
        case yw60_10 => (intro w hSw; (try dsimp only at hSw); go_simp <;> with_reducible rfl)
        try simp only [Act.put, List.setIfInBounds_toArray, List.set_cons_zero, List.set_cons_succ]
        refine hR.take (i := 11) (oi := ?ow61_11) (v := ?vw61_11) (m' := 4095) ?hw61_11 (by kernel_rfl) (by kernel_rfl) (fun _ _ _ h => h) (Or.inl ⟨?sw61_11, ?yw61_11⟩) (by assumption) ?nw61_11
        case hw61_11 => simp only [List.getElem?_toArray, List.getElem?_cons_succ, List.getElem?_cons_zero]; rfl
        case sw61_11 => rfl
        case yw61_11 => (intro w hSw; (try dsimp only at hSw); go_simp <;> with_reducible rfl)
        try simp only [Act.put, List.setIfInBounds_toArray, List.set_cons_zero, List.set_cons_succ]
        refine hR.take (i := 12) (oi := ?ow62_12) (v := ?vw62_12) (m' := 8191) ?hw62_12 (by kernel_rfl) (by kernel_rfl) (fun _ _ _ h => h) (Or.inl ⟨?sw62_12, ?yw62_12⟩) (by assumption) ?nw62_12
        case hw62_12 => simp only [List.getElem?_toArray, List.getElem?_cons_succ, List.getElem?_cons_zero]; rfl
        case sw62_12 => rfl
        case yw62_12 => (intro w hSw; (try dsimp only at hSw); go_simp <;> with_reducible rfl)
        try simp only [Act.put, List.setIfInBounds_toArray, List.set_cons_zero, List.set_cons_succ]
        refine hR.take (i := 13) (oi := ?ow63_13) (v := ?vw63_13) (m' := 16383) ?hw63_13 (by kernel_rfl) (by kernel_rfl) (fun _ _ _ h => h) (Or.inl ⟨?sw63_13, ?yw63_13⟩) (by assumption) ?nw63_13
        case hw63_13 => simp only [List.getElem?_toArray, List.getElem?_cons_succ, List.getElem?_cons_zero]; rfl
        case sw63_13 => rfl
        case yw63_13 => (intro w hSw; (try dsimp only at hSw); go_simp <;> with_reducible rfl)
        try simp only [Act.put, List.setIfInBounds_toArray, List.set_cons_zero, List.set_cons_succ]
        refine hR.take (i := 14) (oi := ?ow64_14) (v := ?vw64_14) (m' := 32767) ?hw64_14 (by kernel_rfl) (by kernel_rfl) (fun _ _ _ h => h) (Or.inl ⟨?sw64_14, ?yw64_14⟩) (by assumption) ?nw64_14
        case hw64_14 => simp only [List.getElem?_toArray, List.getElem?_cons_succ, List.getElem?_cons_zero]; rfl
        case sw64_14 => rfl
        case yw64_14 => (intro w hSw; (try dsimp only at hSw); go_simp <;> with_reducible rfl)
        try simp only [Act.put, List.setIfInBounds_toArray, List.set_cons_zero, List.set_cons_succ]
        refine hR.take (i := 15) (oi := ?ow65_15) (v := ?vw65_15) (m' := 65535) ?hw65_15 (by kernel_rfl) (by kernel_rfl) (fun _ _ _ h => h) (Or.inr ⟨?sw65_15, ?yw65_15⟩) (by assumption) ?nw65_15
        case hw65_15 => simp only [List.getElem?_toArray, List.getElem?_cons_succ, List.getElem?_cons_zero]; rfl
        case sw65_15 => rfl
        case yw65_15 => rfl
        try simp only [Act.put, List.setIfInBounds_toArray, List.set_cons_zero, List.set_cons_succ]
        refine hR.take (i := 16) (oi := ?ow66_16) (v := ?vw66_16) (m' := 131071) ?hw66_16 (by kernel_rfl) (by kernel_rfl) (fun _ _ _ h => h) (Or.inr ⟨?sw66_16, ?yw66_16⟩) (by assumption) ?nw66_16
        case hw66_16 => simp only [List.getElem?_toArray, List.getElem?_cons_succ, List.getElem?_cons_zero]; rfl
        case sw66_16 => rfl
        case yw66_16 => rfl
        try simp only [Act.put, List.setIfInBounds_toArray, List.set_cons_zero, List.set_cons_succ]
        refine hR.take (i := 17) (oi := ?ow67_17) (v := ?vw67_17) (m' := 262143) ?hw67_17 (by kernel_rfl) (by kernel_rfl) (fun _ _ _ h => h) (Or.inr ⟨?sw67_17, ?yw67_17⟩) (by assumption) ?nw67_17
        case hw67_17 => simp only [List.getElem?_toArray, List.getElem?_cons_succ, List.getElem?_cons_zero]; rfl
        case sw67_17 => rfl
        case yw67_17 => rfl
        try simp only [Act.put, List.setIfInBounds_toArray, List.set_cons_zero, List.set_cons_succ]
        refine hR.take (i := 18) (oi := ?ow68_18) (v := ?vw68_18) (m' := 524287) ?hw68_18 (by kernel_rfl) (by kernel_rfl) (fun _ _ _ h => h) (Or.inr ⟨?sw68_18, ?yw68_18⟩) (by assumption) ?nw68_18
        case hw68_18 => simp only [List.getElem?_toArray, List.getElem?_cons_succ, List.getElem?_cons_zero]; rfl
        case sw68_18 => rfl
        case yw68_18 => rfl
        try simp only [Act.put, List.setIfInBounds_toArray, List.set_cons_zero, List.set_cons_succ]
        refine hR.take (i := 19) (oi := ?ow69_19) (v := ?vw69_19) (m' := 1048575) ?hw69_19 (by kernel_rfl) (by kernel_rfl) (fun _ _ _ h => h) (Or.inr ⟨?sw69_19, ?yw69_19⟩) (by assumption) ?nw69_19
        case hw69_19 => simp only [List.getElem?_toArray, List.getElem?_cons_succ, List.getElem?_cons_zero]; rfl
        case sw69_19 => rfl
        case yw69_19 => rfl
        try simp only [Act.put, List.setIfInBounds_toArray, List.set_cons_zero, List.set_cons_succ]
        refine hR.take (i := 20) (oi := ?ow70_20) (v := ?vw70_20) (m' := 2097151) ?hw70_20 (by kernel_rfl) (by kernel_rfl) (fun _ _ _ h => h) (Or.inr ⟨?sw70_20, ?yw70_20⟩) (by assumption) ?nw70_20
        case hw70_20 => simp only [List.getElem?_toArray, List.getElem?_cons_succ, List.getElem?_cons_zero]; rfl
        case sw70_20 => rfl
        case yw70_20 => rfl
        try simp only [Act.put, List.setIfInBounds_toArray, List.set_cons_zero, List.set_cons_succ]
        refine hR.take (i := 21) (oi := ?ow71_21) (v := ?vw71_21) (m' := 4194303) ?hw71_21 (by kernel_rfl) (by kernel_rfl) (fun _ _ _ h => h) (Or.inl ⟨?sw71_21, ?yw71_21⟩) (by assumption) ?nw71_21
        case hw71_21 => simp only [List.getElem?_toArray, List.getElem?_cons_succ, List.getElem?_cons_zero]; rfl
        case sw71_21 => rfl
        case yw71_21 => (intro w hSw; (try dsimp only at hSw); go_simp <;> with_reducible rfl)
        try simp only [Act.put, List.setIfInBounds_toArray, List.set_cons_zero, List.set_cons_succ]
        refine hR.take (i := 22) (oi := ?ow72_22) (v := ?vw72_22) (m' := 8388607) ?hw72_22 (by kernel_rfl) (by kernel_rfl) (fun _ _ _ h => h) (Or.inl ⟨?sw72_22, ?yw72_22⟩) (by assumption) ?nw72_22
        case hw72_22 => simp only [List.getElem?_toArray, List.getElem?_cons_succ, List.getElem?_cons_zero]; rfl
        case sw72_22 => rfl
        case yw72_22 => (intro w hSw; (try dsimp only at hSw); go_simp <;> with_reducible rfl)
        try simp only [Act.put, List.setIfInBounds_toArray, List.set_cons_zero, List.set_cons_succ]
        refine hR.take (i := 23) (oi := ?ow73_23) (v := ?vw73_23) (m' := 16777215) ?hw73_23 (by kernel_rfl) (by kernel_rfl) (fun _ _ _ h => h) (Or.inr ⟨?sw73_23, ?yw73_23⟩) (by assumption) ?nw73_23
        case hw73_23 => simp only [List.getElem?_toArray, List.getElem?_cons_succ, List.getElem?_cons_zero]; rfl
        case sw73_23 => rfl
        case yw73_23 => rfl
        try simp only [Act.put, List.setIfInBounds_toArray, List.set_cons_zero, List.set_cons_succ]
        refine hR.take (i := 24) (oi := ?ow74_24) (v := ?vw74_24) (m' := 33554431) ?hw74_24 (by kernel_rfl) (by kernel_rfl) (fun _ _ _ h => h) (Or.inr ⟨?sw74_24, ?yw74_24⟩) (by assumption) ?nw74_24
        case hw74_24 => simp only [List.getElem?_toArray, List.getElem?_cons_succ, List.getElem?_cons_zero]; rfl
        case sw74_24 => rfl
        case yw74_24 => rfl
        try simp only [Act.put, List.setIfInBounds_toArray, List.set_cons_zero, List.set_cons_succ]
        refine hR.take (i := 25) (oi := ?ow75_25) (v := ?vw75_25) (m' := 67108863) ?hw75_25 (by kernel_rfl) (by kernel_rfl) (fun _ _ _ h => h) (Or.inr ⟨?sw75_25, ?yw75_25⟩) (by assumption) ?nw75_25
        case hw75_25 => simp only [List.getElem?_toArray, List.getElem?_cons_succ, List.getElem?_cons_zero]; rfl
        case sw75_25 => rfl
        case yw75_25 => rfl
        try simp only [Act.put, List.setIfInBounds_toArray, List.set_cons_zero, List.set_cons_succ]
        refine hR.take (i := 26) (oi := ?ow76_26) (v := ?vw76_26) (m' := 134217727) ?hw76_26 (by kernel_rfl) (by kernel_rfl) (fun _ _ _ h => h) (Or.inr ⟨?sw76_26, ?yw76_26⟩) (by assumption) ?nw76_26
        case hw76_26 => simp only [List.getElem?_toArray, List.getElem?_cons_succ, List.getElem?_cons_zero]; rfl
        case sw76_26 => rfl
        case yw76_26 => rfl
        try simp only [Act.put, List.setIfInBounds_toArray, List.set_cons_zero, List.set_cons_succ]
        refine hR.take (i := 27) (oi := ?ow77_27) (v := ?vw77_27) (m' := 268435455) ?hw77_27 (by kernel_rfl) (by kernel_rfl) (fun _ _ _ h => h) (Or.inr ⟨?sw77_27, ?yw77_27⟩) (by assumption) ?nw77_27
        case hw77_27 => simp only [List.getElem?_toArray, List.getElem?_cons_succ, List.getElem?_cons_zero]; rfl
        case sw77_27 => rfl
        case yw77_27 => rfl
        try simp only [Act.put, List.setIfInBounds_toArray, List.set_cons_zero, List.set_cons_succ]
        refine hR.take (i := 28) (oi := ?ow78_28) (v := ?vw78_28) (m' := 536870911) ?hw78_28 (by kernel_rfl) (by kernel_rfl) (fun _ _ _ h => h) (Or.inr ⟨?sw78_28, ?yw78_28⟩) (by assumption) ?nw78_28
        case hw78_28 => simp only [List.getElem?_toArray, List.getElem?_cons_succ, List.getElem?_cons_zero]; rfl
        case sw78_28 => rfl
        case yw78_28 => rfl
        try simp only [Act.put, List.setIfInBounds_toArray, List.set_cons_zero, List.set_cons_succ]
        refine hR.take (i := 29) (oi := ?ow79_29) (v := ?vw79_29) (m' := 1073741823) ?hw79_29 (by kernel_rfl) (by kernel_rfl) (fun _ _ _ h => h) (Or.inr ⟨?sw79_29, ?yw79_29⟩) (by assumption) ?nw79_29
        case hw79_29 => simp only [List.getElem?_toArray, List.getElem?_cons_succ, List.getElem?_cons_zero]; rfl
        case sw79_29 => rfl
        case yw79_29 => rfl
        try simp only [Act.put, List.setIfInBounds_toArray, List.set_cons_zero, List.set_cons_succ]
        refine hR.take (i := 30) (oi := ?ow80_30) (v := ?vw80_30) (m' := 2147483647) ?hw80_30 (by kernel_rfl) (by kernel_rfl) (fun _ _ _ h => h) (Or.inr ⟨?sw80_30, ?yw80_30⟩) (by assumption) ?nw80_30
        case hw80_30 => simp only [List.getElem?_toArray, List.getElem?_cons_succ, List.getElem?_cons_zero]; rfl
        case sw80_30 => rfl
        case yw80_30 => rfl
        try simp only [Act.put, List.setIfInBounds_toArray, List.set_cons_zero, List.set_cons_succ]
        refine hR.take (i := 31) (oi := ?ow81_31) (v := ?vw81_31) (m' := 4294967295) ?hw81_31 (by kernel_rfl) (by kernel_rfl) (fun _ _ _ h => h) (Or.inr ⟨?sw81_31, ?yw81_31⟩) (by assumption) ?nw81_31
        case hw81_31 => simp only [List.getElem?_toArray, List.getElem?_cons_succ, List.getElem?_cons_zero]; rfl
        case sw81_31 => rfl
        case yw81_31 => rfl
        try simp only [Act.put, List.setIfInBounds_toArray, List.set_cons_zero, List.set_cons_succ]
        refine hR.take (i := 32) (oi := ?ow82_32) (v := ?vw82_32) (m' := 8589934591) ?hw82_32 (by kernel_rfl) (by kernel_rfl) (fun _ _ _ h => h) (Or.inr ⟨?sw82_32, ?yw82_32⟩) (by assumption) ?nw82_32
        case hw82_32 => simp only [List.getElem?_toArray, List.getElem?_cons_succ, List.getElem?_cons_zero]; rfl
        case sw82_32 => rfl
        case yw82_32 => rfl
        try simp only [Act.put, List.setIfInBounds_toArray, List.set_cons_zero, List.set_cons_succ]
        refine hR.take (i := 33) (oi := ?ow83_33) (v := ?vw83_33) (m' := 17179869183) ?hw83_33 (by kernel_rfl) (by kernel_rfl) (fun _ _ _ h => h) (Or.inr ⟨?sw83_33, ?yw83_33⟩) (by assumption) ?nw83_33
        case hw83_33 => simp only [List.getElem?_toArray, List.getElem?_cons_succ, List.getElem?_cons_zero]; rfl
        case sw83_33 => rfl
        case yw83_33 => rfl
        try simp only [Act.put, List.setIfInBounds_toArray, List.set_cons_zero, List.set_cons_succ]
        refine hR.take (i := 34) (oi := ?ow84_34) (v := ?vw84_34) (m' := 34359738367) ?hw84_34 (by kernel_rfl) (by kernel_rfl) (fun _ _ _ h => h) (Or.inl ⟨?sw84_34, ?yw84_34⟩) (by assumption) ?nw84_34
        case hw84_34 => simp only [List.getElem?_toArray, List.getElem?_cons_succ, List.getElem?_cons_zero]; rfl
        case sw84_34 => rfl
        case yw84_34 => (intro w hSw; (try dsimp only at hSw); go_simp <;> with_reducible rfl)
        try simp only [Act.put, List.setIfInBounds_toArray, List.set_cons_zero, List.set_cons_succ]
        refine hR.take (i := 35) (oi := ?ow85_35) (v := ?vw85_35) (m' := 68719476735) ?hw85_35 (by kernel_rfl) (by kernel_rfl) (fun _ _ _ h => h) (Or.inl ⟨?sw85_35, ?yw85_35⟩) (by assumption) ?nw85_35
        case hw85_35 => simp only [List.getElem?_toArray, List.getElem?_cons_succ, List.getElem?_cons_zero]; rfl
        case sw85_35 => rfl
        case yw85_35 => (intro w hSw; (try dsimp only at hSw); go_simp <;> with_reducible rfl)
        try simp only [Act.put, List.setIfInBounds_toArray, List.set_cons_zero, List.set_cons_succ]
        refine hR.take (i := 36) (oi := ?ow86_36) (v := ?vw86_36) (m' := 137438953471) ?hw86_36 (by kernel_rfl) (by kernel_rfl) (fun _ _ _ h => h) (Or.inr ⟨?sw86_36, ?yw86_36⟩) (by assumption) ?nw86_36
        case hw86_36 => simp only [List.getElem?_toArray, List.getElem?_cons_succ, List.getElem?_cons_zero]; rfl
        case sw86_36 => rfl
        case yw86_36 => rfl
        try simp only [Act.put, List.setIfInBounds_toArray, List.set_cons_zero, List.set_cons_succ]
        refine hR.take (i := 37) (oi := ?ow87_37) (v := ?vw87_37) (m' := 274877906943) ?hw87_37 (by kernel_rfl) (by kernel_rfl) (fun _ _ _ h => h) (Or.inr ⟨?sw87_37, ?yw87_37⟩) (by assumption) ?nw87_37
        case hw87_37 => simp only [List.getElem?_toArray, List.getElem?_cons_succ, List.getElem?_cons_zero]; rfl
        case sw87_37 => rfl
        case yw87_37 => rfl
        try simp only [Act.put, List.setIfInBounds_toArray, List.set_cons_zero, List.set_cons_succ]
        refine hR.take (i := 38) (oi := ?ow88_38) (v := ?vw88_38) (m' := 549755813887) ?hw88_38 (by kernel_rfl) (by kernel_rfl) (fun _ _ _ h => h) (Or.inr ⟨?sw88_38, ?yw88_38⟩) (by assumption) ?nw88_38
        case hw88_38 => simp only [List.getElem?_toArray, List.getElem?_cons_succ, List.getElem?_cons_zero]; rfl
        case sw88_38 => rfl
        case yw88_38 => rfl
        try simp only [Act.put, List.setIfInBounds_toArray, List.set_cons_zero, List.set_cons_succ]
        refine hR.take (i := 39) (oi := ?ow89_39) (v := ?vw89_39) (m' := 1099511627775) ?hw89_39 (by kernel_rfl) (by kernel_rfl) (fun _ _ _ h => h) (Or.inr ⟨?sw89_39, ?yw89_39⟩) (by assumption) ?nw89_39
        case hw89_39 => simp only [List.getElem?_toArray, List.getElem?_cons_succ, List.getElem?_cons_zero]; rfl
        case sw89_39 => rfl
        case yw89_39 => rfl
        try simp only [Act.put, List.setIfInBounds_toArray, List.set_cons_zero, List.set_cons_succ]
        refine hR.take (i := 40) (oi := ?ow90_40) (v := ?vw90_40) (m' := 2199023255551) ?hw90_40 (by kernel_rfl) (by kernel_rfl) (fun _ _ _ h => h) (Or.inr ⟨?sw90_40, ?yw90_40⟩) (by assumption) ?nw90_40
        case hw90_40 => simp only [List.getElem?_toArray, List.getElem?_cons_succ, List.getElem?_cons_zero]; rfl
        case sw90_40 => rfl
        case yw90_40 => rfl
        try simp only [Act.put, List.setIfInBounds_toArray, List.set_cons_zero, List.set_cons_succ]
        refine hR.take (i := 41) (oi := ?ow91_41) (v := ?vw91_41) (m' := 4398046511103) ?hw91_41 (by kernel_rfl) (by kernel_rfl) (fun _ _ _ h => h) (Or.inr ⟨?sw91_41, ?yw91_41⟩) (by assumption) ?nw91_41
        case hw91_41 => simp only [List.getElem?_toArray, List.getElem?_cons_succ, List.getElem?_cons_zero]; rfl
        case sw91_41 => rfl
        case yw91_41 => rfl
        try simp only [Act.put, List.setIfInBounds_toArray, List.set_cons_zero, List.set_cons_succ]
        refine hR.take (i := 42) (oi := ?ow92_42) (v := ?vw92_42) (m' := 8796093022207) ?hw92_42 (by kernel_rfl) (by kernel_rfl) (fun _ _ _ h => h) (Or.inr ⟨?sw92_42, ?yw92_42⟩) (by assumption) ?nw92_42
        case hw92_42 => simp only [List.getElem?_toArray, List.getElem?_cons_succ, List.getElem?_cons_zero]; rfl
        case sw92_42 => rfl
        case yw92_42 => rfl
        try simp only [Act.put, List.setIfInBounds_toArray, List.set_cons_zero, List.set_cons_succ]
        refine hR.take (i := 43) (oi := ?ow93_43) (v := ?vw93_43) (m' := 17592186044415) ?hw93_43 (by kernel_rfl) (by kernel_rfl) (fun _ _ _ h => h) (Or.inr ⟨?sw93_43, ?yw93_43⟩) (by assumption) ?nw93_43
        case hw93_43 => simp only [List.getElem?_toArray, List.getElem?_cons_succ, List.getElem?_cons_zero]; rfl
        case sw93_43 => rfl
        case yw93_43 => rfl
        try simp only [Act.put, List.setIfInBounds_toArray, List.set_cons_zero, List.set_cons_succ]
        refine hR.take (i := 44) (oi := ?ow94_44) (v := ?vw94_44) (m' := 35184372088831) ?hw94_44 (by kernel_rfl) (by kernel_rfl) (fun _ _ _ h => h) (Or.inr ⟨?sw94_44, ?yw94_44⟩) (by assumption) ?nw94_44
        case hw94_44 => simp only [List.getElem?_toArray, List.getElem?_cons_succ, List.getElem?_cons_zero]; rfl
        case sw94_44 => rfl
        case yw94_44 => rfl
        try simp only [Act.put, List.setIfInBounds_toArray, List.set_cons_zero, List.set_cons_succ]
        refine hR.take (i := 45) (oi := ?ow95_45) (v := ?vw95_45) (m' := 70368744177663) ?hw95_45 (by kernel_rfl) (by kernel_rfl) (fun _ _ _ h => h) (Or.inr ⟨?sw95_45, ?yw95_45⟩) (by assumption) ?nw95_45
        case hw95_45 => simp only [List.getElem?_toArray, List.getElem?_cons_succ, List.getElem?_cons_zero]; rfl
        case sw95_45 => rfl
        case yw95_45 => rfl
        try simp only [Act.put, List.setIfInBounds_toArray, List.set_cons_zero, List.set_cons_succ]
        refine hR.take (i := 46) (oi := ?ow96_46) (v := ?vw96_46) (m' := 140737488355327) ?hw96_46 (by kernel_rfl) (by kernel_rfl) (fun _ _ _ h => h) (Or.inr ⟨?sw96_46, ?yw96_46⟩) (by assumption) ?nw96_46
        case hw96_46 => simp only [List.getElem?_toArray, List.getElem?_cons_succ, List.getElem?_cons_zero]; rfl
        case sw96_46 => rfl
        case yw96_46 => rfl
        try simp only [Act.put, List.setIfInBounds_toArray, List.set_cons_zero, List.set_cons_succ]
        refine hR.take (i := 47) (oi := ?ow97_47) (v := ?vw97_47) (m' := 281474976710655) ?hw97_47 (by kernel_rfl) (by kernel_rfl) (fun _ _ _ h => h) (Or.inr ⟨?sw97_47, ?yw97_47⟩) (by assumption) ?nw97_47
        case hw97_47 => simp only [List.getElem?_toArray, List.getElem?_cons_succ, List.getElem?_cons_zero]; rfl
        case sw97_47 => rfl
        case yw97_47 => rfl
        try simp only [Act.put, List.setIfInBounds_toArray, List.set_cons_zero, List.set_cons_succ]
        refine hR.take (i := 48) (oi := ?ow98_48) (v := ?vw98_48) (m' := 562949953421311) ?hw98_48 (by kernel_rfl) (by kernel_rfl) (fun _ _ _ h => h) (Or.inl ⟨?sw98_48, ?yw98_48⟩) (by assumption) ?nw98_48
        case hw98_48 => simp only [List.getElem?_toArray, List.getElem?_cons_succ, List.getElem?_cons_zero]; rfl
        case sw98_48 => rfl
        case yw98_48 => (intro w hSw; (try dsimp only at hSw); go_simp <;> with_reducible rfl)
        try simp only [Act.put, List.setIfInBounds_toArray, List.set_cons_zero, List.set_cons_succ]
        refine hR.all (by kernel_rfl) ?_ _
        refine NoPanic.normal ?_
        go_wp2_with fail
        go_ret
        exact ⟨ret_b (not_cd (List.mem_of_getElem? Hx.out) hv.out).symm, Hb.out.drew⟩
      have f2 : (3 < x.col) = False := eq_false c2
      by_cases c3 : x.lo < 0
      · have f3 : (x.lo < 0) = True := eq_true c3
        have hv := Lib.hid (show validCdB x = false from decide_eq_false (fun h => by unfold ValidCd at h; omega))
        refine wp_region_noPanic ?_
        refine wp_region_held_drew (S := fun X => Below wr.heap.size wr X) (by kernel_rfl) ?_ (fun hHeld => ?_)
        · (first | with_reducible assumption | (with_reducible refine Below.drew ?_; with_reducible assumption) | (with_reducible refine ba _ _ ?_; with_reducible assumption) | (with_reducible refine Below.drew ?_; with_reducible refine ba _ _ ?_; with_reducible assumption) | exact Below.refl _ _ | exact (Below.refl _ _).drew | exact (Below.refl _ _).alloc (Nat.le_refl _) _ | (refine bc _ _ (by assumption) (by assumption)))
        refine RegOk.begin_ (n := 49) (T := q5A) ⟨by kernel_rfl, by kernel_rfl, by kernel_rfl, by kernel_rfl⟩ fun hR => ?_
        refine hR.take (i := 0) (oi := ?ow99_0) (v := ?vw99_0) (m' := 1) ?hw99_0 (by kernel_rfl) (by kernel_rfl) (fun _ _ _ h => h) (Or.inl ⟨?sw99_0, ?yw99_0⟩) (by assumption) ?nw99_0
        case hw99_0 => simp only [List.getElem?_toArray, List.getElem?_cons_succ, List.getElem?_cons_zero]; rfl
        case sw99_0 => rfl
        case yw99_0 => (intro w hSw; (try dsimp only at hSw); go_simp <;> with_reducible rfl)
        try simp only [Act.put, List.setIfInBounds_toArray, List.set_cons_zero, List.set_cons_succ]
        refine hR.take (i := 1) (oi := ?ow100_1) (v := ?vw100_1) (m' := 3) ?hw100_1 (by kernel_rfl) (by kernel_rfl) (fun _ _ _ h => h) (Or.inl ⟨?sw100_1, ?yw100_1⟩) (by assumption) ?nw100_1
        case hw100_1 => simp only [List.getElem?_toArray, List.getElem?_cons_succ, List.getElem?_cons_zero]; rfl
        case sw100_1 => rfl
        case yw100_1 => (intro w hSw; (try dsimp only at hSw); go_simp <;> with_reducible rfl)
        try simp only [Act.put, List.setIfInBounds_toArray, List.set_cons_zero, List.set_cons_succ]
        refine hR.take (i := 2) (oi := ?ow101_2) (v := ?vw101_2) (m' := 7) ?hw101_2 (by kernel_rfl) (by kernel_rfl) (fun _ _ _ h => h) (Or.inl ⟨?sw101_2, ?yw101_2⟩) (by assumption) ?nw101_2
        case hw101_2 => simp only [List.getElem?_toArray, List.getElem?_cons_succ, List.getElem?_cons_zero]; rfl
        case sw101_2 => rfl
        case yw101_2 => (intro w hSw; (try dsimp only at hSw); go_simp <;> with_reducible rfl)
        try simp only [Act.put, List.setIfInBounds_toArray, List.set_cons_zero, List.set_cons_succ]
        refine hR.take (i := 3) (oi := ?ow102_3) (v := ?vw102_3) (m' := 15) ?hw102_3 (by kernel_rfl) (by kernel_rfl) (fun _ _ _ h => h) (Or.inl ⟨?sw102_3, ?yw102_3⟩) (by assumption) ?nw102_3
        case hw102_3 => simp only [List.getElem?_toArray, List.getElem?_cons_succ, List.getElem?_cons_zero]; rfl
        case sw102_3 => rfl
        case yw102_3 => (intro w hSw; (try dsimp only at hSw); go_simp <;> with_reducible rfl)
        try simp only [Act.put, List.setIfInBounds_toArray, List.set_cons_zero, List.set_cons_succ]
        refine hR.take (i := 4) (oi := ?ow103_4) (v := ?vw103_4) (m' := 31) ?hw103_4 (by kernel_rfl) (by kernel_rfl) (fun _ _ _ h => h) (Or.inl ⟨?sw103_4, ?yw103_4⟩) (by assumption) ?nw103_4
        case hw103_4 => simp only [List.getElem?_toArray, List.getElem?_cons_succ, List.getElem?_cons_zero]; rfl
        case sw103_4 => rfl
        case yw103_4 => (intro w hSw; (try dsimp only at hSw); go_simp <;> with_reducible rfl)
        try simp only [Act.put, List.setIfInBounds_toArray, List.set_cons_zero, List.set_cons_succ]
        refine hR.take (i := 5) (oi := ?ow104_5) (v := ?vw104_5) (m' := 63) ?hw104_5 (by kernel_rfl) (by kernel_rfl) (fun _ _ _ h => h) (Or.inl ⟨?sw104_5, ?yw104_5⟩) (by assumption) ?nw104_5
        case hw104_5 => simp only [List.getElem?_toArray, List.getElem?_cons_succ, List.getElem?_cons_zero]; rfl
        case sw104_5 => rfl
        case yw104_5 => (intro w hSw; (try dsimp only at hSw); go_simp <;> with_reducible rfl)
        try simp only [Act.put, List.setIfInBounds_toArray, List.set_cons_zero, List.set_cons_succ]
        refine hR.take (i := 6) (oi := ?ow105_6) (v := ?vw105_6) (m' := 127) ?hw105_6 (by kernel_rfl) (by kernel_rfl) (fun _ _ _ h => h) (Or.inl ⟨?sw105_6, ?yw105_6⟩) (by assumption) ?nw105_6
        case hw105_6 => simp only [List.getElem?_toArray, List.getElem?_cons_succ, List.getElem?_cons_zero]; rfl
        case sw105_6 => rfl
        case yw105_6 => (intro w hSw; (try dsimp only at hSw); go_simp <;> with_reducible rfl)
        try simp only [Act.put, List.setIfInBounds_toArray, List.set_cons_zero, List.set_cons_succ]
        refine hR.take (i := 7) (oi := ?ow106_7) (v := ?vw106_7) (m' := 255) ?hw106_7 (by kernel_rfl) (by kernel_rfl) (fun _ _ _ h => h) (Or.inl ⟨?sw106_7, ?yw106_7⟩) (by assumption) ?nw106_7
        case hw106_7 => simp only [List.getElem?_toArray, List.getElem?_cons_succ, List.getElem?_cons_zero]; rfl
        case sw106_7 => rfl
        case yw106_7 => (intro w hSw; (try dsimp only at hSw); go_simp <;> with_reducible rfl)
        try simp only [Act.put, List.setIfInBounds_toArray, List.set_cons_zero, List.set_cons_succ]
        refine hR.take (i := 8) (oi := ?ow107_8) (v := ?vw107_8) (m' := 511) ?hw107_8 (by kernel_rfl) (by kernel_rfl) (fun _ _ _ h => h) (Or.inl ⟨?sw107_8, ?yw107_8⟩) (by assumption) ?nw107_8
        case hw107_8 => simp only [List.getElem?_toArray, List.getElem?_cons_succ, List.getElem?_cons_zero]; rfl
        case sw107_8 => rfl
        case yw107_8 => (intro w hSw; (try dsimp only at hSw); go_simp <;> with_reducible rfl)
        try simp only [Act.put, List.setIfInBounds_toArray, List.set_cons_zero, List.set_cons_succ]
        refine hR.take (i := 9) (oi := ?ow108_9) (v := ?vw108_9) (m' := 1023) ?hw108_9 (by kernel_rfl) (by kernel_rfl) (fun _ _ _ h => h) (Or.inl ⟨?sw108_9, ?yw108_9⟩) (by assumption) ?nw108_9
        case hw108_9 => simp only [List.getElem?_toArray, List.getElem?_cons_succ, List.getElem?_cons_zero]; rfl
        case sw108_9 => rfl
        case yw108_9 => (intro w hSw; (try dsimp only at hSw); go_simp <;> with_reducible rfl)
        try simp only [Act.put, List.setIfInBounds_toArray, List.set_cons_zero, List.set_cons_succ]
        refine hR.take (i := 10) (oi := ?ow109_10) (v := ?vw109_10) (m' := 2047) ?hw109_10 (by kernel_rfl) (by kernel_rfl) (fun _ _ _ h => h) (Or.inl ⟨?sw109_10, ?yw109_10⟩) (by assumption) ?nw109_10
        case hw109_10 => simp only [List.getElem?_toArray, List.getElem?_cons_succ, List.getElem?_cons_zero]; rfl
        case sw109_10 => rfl
        case yw109_10 => (intro w hSw; (try dsimp only at hSw); go_simp <;> with_reducible rfl)
        try simp only [Act.put, List.setIfInBounds_toArray, List.set_cons_zero, List.set_cons_succ]
        refine hR.take (i := 11) (oi := ?ow110_11) (v := ?vw110_11) (m' := 4095) ?hw110_11 (by kernel_rfl) (by kernel_rfl) (fun _ _ _ h => h) (Or.inl ⟨?sw110_11, ?yw110_11⟩) (by assumption) ?nw110_11
        case hw110_11 => simp only [List.getElem?_toArray, List.getElem?_cons_succ, List.getElem?_cons_zero]; rfl
        case sw110_11 => rfl
        case yw110_11 => (intro w hSw; (try dsimp only at hSw); go_simp <;> with_reducible rfl)
        try simp only [Act.put, List.setIfInBounds_toArray, List.set_cons_zero, List.set_cons_succ]
        refine hR.take (i := 12) (oi := ?ow111_12) (v := ?vw111_12) (m' := 8191) ?hw111_12 (by kernel_rfl) (by kernel_rfl) (fun _ _ _ h => h) (Or.inl ⟨?sw111_12, ?yw111_12⟩) (by assumption) ?nw111_12
        case hw111_12 => simp only [List.getElem?_toArray, List.getElem?_cons_succ, List.getElem?_cons_zero]; rfl
        case sw111_12 => rfl
        case yw111_12 => (intro w hSw; (try dsimp only at hSw); go_simp <;> with_reducible rfl)
        try simp only [Act.put, List.setIfInBounds_toArray, List.set_cons_zero, List.set_cons_succ]
        refine hR.take (i := 13) (oi := ?ow112_13) (v := ?vw112_13) (m' := 16383) ?hw112_13 (by kernel_rfl) (by kernel_rfl) (fun _ _ _ h => h) (Or.inl ⟨?sw112_13, ?yw112_13⟩) (by assumption) ?nw112_13
        case hw112_13 => simp only [List.getElem?_toArray, List.getElem?_cons_succ, List.getElem?_cons_zero]; rfl
        case sw112_13 => rfl
        case yw112_13 => (intro w hSw; (try dsimp only at hSw); go_simp <;> with_reducible rfl)
        try simp only [Act.put, List.setIfInBounds_toArray, List.set_cons_zero, List.set_cons_succ]
        refine hR.take (i := 14) (oi := ?ow113_14) (v := ?vw113_14) (m' := 32767) ?hw113_14 (by kernel_rfl) (by kernel_rfl) (fun _ _ _ h => h) (Or.inl ⟨?sw113_14, ?yw113_14⟩) (by assumption) ?nw113_14
        case hw113_14 => simp only [List.getElem?_toArray, List.getElem?_cons_succ, List.getElem?_cons_zero]; rfl
        case sw113_14 => rfl
        case yw113_14 => (intro w hSw; (try dsimp only at hSw); go_simp <;> with_reducible rfl)
        try simp only [Act.put, List.setIfInBounds_toArray, List.set_cons_zero, List.set_cons_succ]
        refine hR.take (i := 15) (oi := ?ow114_15) (v := ?vw114_15) (m' := 65535) ?hw114_15 (by kernel_rfl) (by kernel_rfl) (fun _ _ _ h => h) (Or.inl ⟨?sw114_15, ?yw114_15⟩) (by assumption) ?nw114_15
        case hw114_15 => simp only [List.getElem?_toArray, List.getElem?_cons_succ, List.getElem?_cons_zero]; rfl
        case sw114_15 => rfl
        case yw114_15 => (intro w hSw; (try dsimp only at hSw); go_simp <;> with_reducible rfl)
        try simp only [Act.put, List.setIfInBounds_toArray, List.set_cons_zero, List.set_cons_succ]
        refine hR.take (i := 16) (oi := ?ow115_16) (v := ?vw115_16) (m' := 131071) ?hw115_16 (by kernel_rfl) (by kernel_rfl) (fun _ _ _ h => h) (Or.inl ⟨?sw115_16, ?yw115_16⟩) (by assumption) ?nw115_16
        case hw115_16 => simp only [List.getElem?_toArray, List.getElem?_cons_succ, List.getElem?_cons_zero]; rfl
        case sw115_16 => rfl
        case yw115_16 => (intro w hSw; (try dsimp only at hSw); go_simp <;> with_reducible rfl)
        try simp only [Act.put, List.setIfInBounds_toArray, List.set_cons_zero, List.set_cons_succ]
        refine hR.take (i := 17) (oi := ?ow116_17) (v := ?vw116_17) (m' := 262143) ?hw116_17 (by kernel_rfl) (by kernel_rfl) (fun _ _ _ h => h) (Or.inl ⟨?sw116_17, ?yw116_17⟩) (by assumption) ?nw116_17
        case hw116_17 => simp only [List.getElem?_toArray, List.getElem?_cons_succ, List.getElem?_cons_zero]; rfl
        case sw116_17 => rfl
        case yw116_17 => (intro w hSw; (try dsimp only at hSw); go_simp <;> with_reducible rfl)
        try simp only [Act.put, List.setIfInBounds_toArray, List.set_cons_zero, List.set_cons_succ]
        refine hR.take (i := 18) (oi := ?ow117_18) (v := ?vw117_18) (m' := 524287) ?hw117_18 (by kernel_rfl) (by kernel_rfl) (fun _ _ _ h => h) (Or.inl ⟨?sw117_18, ?yw117_18⟩) (by assumption) ?nw117_18
        case hw117_18 => simp only [List.getElem?_toArray, List.getElem?_cons_succ, List.getElem?_cons_zero]; rfl
        case sw117_18 => rfl
        case yw117_18 => (intro w hSw; (try dsimp only at hSw); go_simp <;> with_reducible rfl)
        try simp only [Act.put, List.setIfInBounds_toArray, List.set_cons_zero, List.set_cons_succ]
        refine hR.take (i := 19) (oi := ?ow118_19) (v := ?vw118_19) (m' := 1048575) ?hw118_19 (by kernel_rfl) (by kernel_rfl) (fun _ _ _ h => h) (Or.inl ⟨?sw118_19, ?yw118_19⟩) (by assumption) ?nw118_19
        case hw118_19 => simp only [List.getElem?_toArray, List.getElem?_cons_succ, List.getElem?_cons_zero]; rfl
        case sw118_19 => rfl
        case yw118_19 => (intro w hSw; (try dsimp only at hSw); go_simp <;> with_reducible rfl)
        try simp only [Act.put, List.setIfInBounds_toArray, List.set_cons_zero, List.set_cons_succ]
        refine hR.take (i := 20) (oi := ?ow119_20) (v := ?vw119_20) (m' := 2097151) ?hw119_20 (by kernel_rfl) (by kernel_rfl) (fun _ _ _ h => h) (Or.inl ⟨?sw119_20, ?yw119_20⟩) (by assumption) ?nw119_20
        case hw119_20 => simp only [List.getElem?_toArray, List.getElem?_cons_succ, List.getElem?_cons_zero]; rfl
        case sw119_20 => rfl
        case yw119_20 => (intro w hSw; (try dsimp only at hSw); go_simp <;> with_reducible rfl)
        try simp only [Act.put, List.setIfInBounds_toArray, List.set_cons_zero, List.set_cons_succ]
        refine hR.take (i := 21) (oi := ?ow120_21) (v := ?vw120_21) (m' := 4194303) ?hw120_21 (by kernel_rfl) (by kernel_rfl) (fun _ _ _ h => h) (Or.inl ⟨?sw120_21, ?yw120_21⟩) (by assumption) ?nw120_21
        case hw120_21 => simp only [List.getElem?_toArray, List.getElem?_cons_succ, List.getElem?_cons_zero]; rfl
        case sw120_21 => rfl
        case yw120_21 => (intro w hSw; (try dsimp only at hSw); go_simp <;> with_reducible rfl)
        try simp only [Act.put, List.setIfInBounds_toArray, List.set_cons_zero, List.set_cons_succ]
        refine hR.take (i := 22) (oi := ?ow121_22) (v := ?vw121_22) (m' := 8388607) ?hw121_22 (by kernel_rfl) (by kernel_rfl) (fun _ _ _ h => h) (Or.inl ⟨?sw121_22, ?yw121_22⟩) (by assumption) ?nw121_22
        case hw121_22 => simp only [List.getElem?_toArray, List.getElem?_cons_succ, List.getElem?_cons_zero]; rfl
        case sw121_22 => rfl
        case yw121_22 => (intro w hSw; (try dsimp only at hSw); go_simp <;> with_reducible rfl)
        try simp only [Act.put, List.setIfInBounds_toArray, List.set_cons_zero, List.set_cons_succ]
        refine hR.take (i := 23) (oi := ?ow122_23) (v := ?vw122_23) (m' := 16777215) ?hw122_23 (by kernel_rfl) (by kernel_rfl) (fun _ _ _ h => h) (Or.inr ⟨?sw122_23, ?yw122_23⟩) (by assumption) ?nw122_23
        case hw122_23 => simp only [List.getElem?_toArray, List.getElem?_cons_succ, List.getElem?_cons_zero]; rfl
        case sw122_23 => rfl
        case yw122_23 => rfl
        try simp only [Act.put, List.setIfInBounds_toArray, List.set_cons_zero, List.set_cons_succ]
        refine hR.take (i := 24) (oi := ?ow123_24) (v := ?vw123_24) (m' := 33554431) ?hw123_24 (by kernel_rfl) (by kernel_rfl) (fun _ _ _ h => h) (Or.inr ⟨?sw123_24, ?yw123_24⟩) (by assumption) ?nw123_24
        case hw123_24 => simp only [List.getElem?_toArray, List.getElem?_cons_succ, List.getElem?_cons_zero]; rfl
        case sw123_24 => rfl
        case yw123_24 => rfl
        try simp only [Act.put, List.setIfInBounds_toArray, List.set_cons_zero, List.set_cons_succ]
        refine hR.take (i := 25) (oi := ?ow124_25) (v := ?vw124_25) (m' := 67108863) ?hw124_25 (by kernel_rfl) (by kernel_rfl) (fun _ _ _ h => h) (Or.inr ⟨?sw124_25, ?yw124_25⟩) (by assumption) ?nw124_25
        case hw124_25 => simp only [List.getElem?_toArray, List.getElem?_cons_succ, List.getElem?_cons_zero]; rfl
        case sw124_25 => rfl
        case yw124_25 => rfl
        try simp only [Act.put, List.setIfInBounds_toArray, List.set_cons_zero, List.set_cons_succ]
        refine hR.take (i := 26) (oi := ?ow125_26) (v := ?vw125_26) (m' := 134217727) ?hw125_26 (by kernel_rfl) (by kernel_rfl) (fun _ _ _ h => h) (Or.inr ⟨?sw125_26, ?yw125_26⟩) (by assumption) ?nw125_26
        case hw125_26 => simp only [List.getElem?_toArray, List.getElem?_cons_succ, List.getElem?_cons_zero]; rfl
        case sw125_26 => rfl
        case yw125_26 => rfl
        try simp only [Act.put, List.setIfInBounds_toArray, List.set_cons_zero, List.set_cons_succ]
        refine hR.take (i := 27) (oi := ?ow126_27) (v := ?vw126_27) (m' := 268435455) ?hw126_27 (by kernel_rfl) (by kernel_rfl) (fun _ _ _ h => h) (Or.inr ⟨?sw126_27, ?yw126_27⟩) (by assumption) ?nw126_27
        case hw126_27 => simp only [List.getElem?_toArray, List.getElem?_cons_succ, List.getElem?_cons_zero]; rfl
        case sw126_27 => rfl
        case yw126_27 => rfl
        try simp only [Act.put, List.setIfInBounds_toArray, List.set_cons_zero, List.set_cons_succ]
        refine hR.take (i := 28) (oi := ?ow127_28) (v := ?vw127_28) (m' := 536870911) ?hw127_28 (by kernel_rfl) (by kernel_rfl) (fun _ _ _ h => h) (Or.inr ⟨?sw127_28, ?yw127_28⟩) (by assumption) ?nw127_28
        case hw127_28 => simp only [List.getElem?_toArray, List.getElem?_cons_succ, List.getElem?_cons_zero]; rfl
        case sw127_28 => rfl
        case yw127_28 => rfl
        try simp only [Act.put, List.setIfInBounds_toArray, List.set_cons_zero, List.set_cons_succ]
        refine hR.take (i := 29) (oi := ?ow128_29) (v := ?vw128_29) (m' := 1073741823) ?hw128_29 (by kernel_rfl) (by kernel_rfl) (fun _ _ _ h => h) (Or.inr ⟨?sw128_29, ?yw128_29⟩) (by assumption) ?nw128_29
        case hw128_29 => simp only [List.getElem?_toArray, List.getElem?_cons_succ, List.getElem?_cons_zero]; rfl
        case sw128_29 => rfl
        case yw128_29 => rfl
        try simp only [Act.put, List.setIfInBounds_toArray, List.set_cons_zero, List.set_cons_succ]
        refine hR.take (i := 30) (oi := ?ow129_30) (v := ?vw129_30) (m' := 2147483647) ?hw129_30 (by kernel_rfl) (by kernel_rfl) (fun _ _ _ h => h) (Or.inr ⟨?sw129_30, ?yw129_30⟩) (by assumption) ?nw129_30
        case hw129_30 => simp only [List.getElem?_toArray, List.getElem?_cons_succ, List.getElem?_cons_zero]; rfl
        case sw129_30 => rfl
        case yw129_30 => rfl
        try simp only [Act.put, List.setIfInBounds_toArray, List.set_cons_zero, List.set_cons_succ]
        refine hR.take (i := 31) (oi := ?ow130_31) (v := ?vw130_31) (m' := 4294967295) ?hw130_31 (by kernel_rfl) (by kernel_rfl) (fun _ _ _ h => h) (Or.inr ⟨?sw130_31, ?yw130_31⟩) (by assumption) ?nw130_31
        case hw130_31 => simp only [List.getElem?_toArray, List.getElem?_cons_succ, List.getElem?_cons_zero]; rfl
        case sw130_31 => rfl
        case yw130_31 => rfl
        try simp only [Act.put, List.setIfInBounds_toArray, List.set_cons_zero, List.set_cons_succ]
        refine hR.take (i := 32) (oi := ?ow131_32) (v := ?vw131_32) (m' := 8589934591) ?hw131_32 (by kernel_rfl) (by kernel_rfl) (fun _ _ _ h => h) (Or.inr ⟨?sw131_32, ?yw131_32⟩) (by assumption) ?nw131_32
        case hw131_32 => simp only [List.getElem?_toArray, List.getElem?_cons_succ, List.getElem?_cons_zero]; rfl
        case sw131_32 => rfl
        case yw131_32 => rfl
        try simp only [Act.put, List.setIfInBounds_toArray, List.set_cons_zero, List.set_cons_succ]
        refine hR.take (i := 33) (oi := ?ow132_33) (v := ?vw132_33) (m' := 17179869183) ?hw132_33 (by kernel_rfl) (by kernel_rfl) (fun _ _ _ h => h) (Or.inr ⟨?sw132_33, ?yw132_33⟩) (by assumption) ?nw132_33
        case hw132_33 => simp only [List.getElem?_toArray, List.getElem?_cons_succ, List.getElem?_cons_zero]; rfl
        case sw132_33 => rfl
        case yw132_33 => rfl
        try simp only [Act.put, List.setIfInBounds_toArray, List.set_cons_zero, List.set_cons_succ]
        refine hR.take (i := 34) (oi := ?ow133_34) (v := ?vw133_34) (m' := 34359738367) ?hw133_34 (by kernel_rfl) (by kernel_rfl) (fun _ _ _ h => h) (Or.inl ⟨?sw133_34, ?yw133_34⟩) (by assumption) ?nw133_34
        case hw133_34 => simp only [List.getElem?_toArray, List.getElem?_cons_succ, List.getElem?_cons_zero]; rfl
        case sw133_34 => rfl
        case yw133_34 => (intro w hSw; (try dsimp only at hSw); go_simp <;> with_reducible rfl)
        try simp only [Act.put, List.setIfInBounds_toArray, List.set_cons_zero, List.set_cons_succ]
        refine hR.take (i := 35) (oi := ?ow134_35) (v := ?vw134_35) (m' := 68719476735) ?hw134_35 (by kernel_rfl) (by kernel_rfl) (fun _ _ _ h => h) (Or.inl ⟨?sw134_35, ?yw134_35⟩) (by assumption) ?nw134_35
        case hw134_35 => simp only [List.getElem?_toArray, List.getElem?_cons_succ, List.getElem?_cons_zero]; rfl
        case sw134_35 => rfl
        case yw134_35 => (intro w hSw; (try dsimp only at hSw); go_simp <;> with_reducible rfl)
        try simp only [Act.put, List.setIfInBounds_toArray, List.set_cons_zero, List.set_cons_succ]
        refine hR.take (i := 36) (oi := ?ow135_36) (v := ?vw135_36) (m' := 137438953471) ?hw135_36 (by kernel_rfl) (by kernel_rfl) (fun _ _ _ h => h) (Or.inr ⟨?sw135_36, ?yw135_36⟩) (by assumption) ?nw135_36
        case hw135_36 => simp only [List.getElem?_toArray, List.getElem?_cons_succ, List.getElem?_cons_zero]; rfl
        case sw135_36 => rfl
        case yw135_36 => rfl
        try simp only [Act.put, List.setIfInBounds_toArray, List.set_cons_zero, List.set_cons_succ]
        refine hR.take (i := 37) (oi := ?ow136_37) (v := ?vw136_37) (m' := 274877906943) ?hw136_37 (by kernel_rfl) (by kernel_rfl) (fun _ _ _ h => h) (Or.inr ⟨?sw136_37, ?yw136_37⟩) (by assumption) ?nw136_37
        case hw136_37 => simp only [List.getElem?_toArray, List.getElem?_cons_succ, List.getElem?_cons_zero]; rfl
        case sw136_37 => rfl
        case yw136_37 => rfl
        try simp only [Act.put, List.setIfInBounds_toArray, List.set_cons_zero, List.set_cons_succ]
        refine hR.take (i := 38) (oi := ?ow137_38) (v := ?vw137_38) (m' := 549755813887) ?hw137_38 (by kernel_rfl) (by kernel_rfl) (fun _ _ _ h => h) (Or.inr ⟨?sw137_38, ?yw137_38⟩) (by assumption) ?nw137_38
        case hw137_38 => simp only [List.getElem?_toArray, List.getElem?_cons_succ, List.getElem?_cons_zero]; rfl
        case sw137_38 => rfl
        case yw137_38 => rfl
        try simp only [Act.put, List.setIfInBounds_toArray, List.set_cons_zero, List.set_cons_succ]
        refine hR.take (i := 39) (oi := ?ow138_39) (v := ?vw138_39) (m' := 1099511627775) ?hw138_39 (by kernel_rfl) (by kernel_rfl) (fun _ _ _ h => h) (Or.inr ⟨?sw138_39, ?yw138_39⟩) (by assumption) ?nw138_39
        case hw138_39 => simp only [List.getElem?_toArray, List.getElem?_cons_succ, List.getElem?_cons_zero]; rfl
        case sw138_39 => rfl
        case yw138_39 => rfl
        try simp only [Act.put, List.setIfInBounds_toArray, List.set_cons_zero, List.set_cons_succ]
        refine hR.take (i := 40) (oi := ?ow139_40) (v := ?vw139_40) (m' := 2199023255551) ?hw139_40 (by kernel_rfl) (by kernel_rfl) (fun _ _ _ h => h) (Or.inr ⟨?sw139_40, ?yw139_40⟩) (by assumption) ?nw139_40
        case hw139_40 => simp only [List.getElem?_toArray, List.getElem?_cons_succ, List.getElem?_cons_zero]; rfl
        case sw139_40 => rfl
        case yw139_40 => rfl
        try simp only [Act.put, List.setIfInBounds_toArray, List.set_cons_zero, List.set_cons_succ]
        refine hR.take (i := 41) (oi := ?ow140_41) (v := ?vw140_41) (m' := 4398046511103) ?hw140_41 (by kernel_rfl) (by kernel_rfl) (fun _ _ _ h => h) (Or.inr ⟨?sw140_41, ?yw140_41⟩) (by assumption) ?nw140_41
        case hw140_41 => simp only [List.getElem?_toArray, List.getElem?_cons_succ, List.getElem?_cons_zero]; rfl
        case sw140_41 => rfl
        case yw140_41 => rfl
        try simp only [Act.put, List.setIfInBounds_toArray, List.set_cons_zero, List.set_cons_succ]
        refine hR.take (i := 42) (oi := ?ow141_42) (v := ?vw141_42) (m' := 8796093022207) ?hw141_42 (by kernel_rfl) (by kernel_rfl) (fun _ _ _ h => h) (Or.inr ⟨?sw141_42, ?yw141_42⟩) (by assumption) ?nw141_42
        case hw141_42 => simp only [List.getElem?_toArray, List.getElem?_cons_succ, List.getElem?_cons_zero]; rfl
        case sw141_42 => rfl
        case yw141_42 => rfl
        try simp only [Act.put, List.setIfInBounds_toArray, List.set_cons_zero, List.set_cons_succ]
        refine hR.take (i := 43) (oi := ?ow142_43) (v := ?vw142_43) (m' := 17592186044415) ?hw142_43 (by kernel_rfl) (by kernel_rfl) (fun _ _ _ h => h) (Or.inr ⟨?sw142_43, ?yw142_43⟩) (by assumption) ?nw142_43
        case hw142_43 => simp only [List.getElem?_toArray, List.getElem?_cons_succ, List.getElem?_cons_zero]; rfl
        case sw142_43 => rfl
        case yw142_43 => rfl
        try simp only [Act.put, List.setIfInBounds_toArray, List.set_cons_zero, List.set_cons_succ]
        refine hR.take (i := 44) (oi := ?ow143_44) (v := ?vw143_44) (m' := 35184372088831) ?hw143_44 (by kernel_rfl) (by kernel_rfl) (fun _ _ _ h => h) (Or.inr ⟨?sw143_44, ?yw143_44⟩) (by assumption) ?nw143_44
        case hw143_44 => simp only [List.getElem?_toArray, List.getElem?_cons_succ, List.getElem?_cons_zero]; rfl
        case sw143_44 => rfl
        case yw143_44 => rfl
        try simp only [Act.put, List.setIfInBounds_toArray, List.set_cons_zero, List.set_cons_succ]
        refine hR.take (i := 45) (oi := ?ow144_45) (v := ?vw144_45) (m' := 70368744177663) ?hw144_45 (by kernel_rfl) (by kernel_rfl) (fun _ _ _ h => h) (Or.inr ⟨?sw144_45, ?yw144_45⟩) (by assumption) ?nw144_45
        case hw144_45 => simp only [List.getElem?_toArray, List.getElem?_cons_succ, List.getElem?_cons_zero]; rfl
        case sw144_45 => rfl
        case yw144_45 => rfl
        try simp only [Act.put, List.setIfInBounds_toArray, List.set_cons_zero, List.set_cons_succ]
        refine hR.take (i := 46) (oi := ?ow145_46) (v := ?vw145_46) (m' := 140737488355327) ?hw145_46 (by kernel_rfl) (by kernel_rfl) (fun _ _ _ h => h) (Or.inr ⟨?sw145_46, ?yw145_46⟩) (by assumption) ?nw145_46
        case hw145_46 => simp only [List.getElem?_toArray, List.getElem?_cons_succ, List.getElem?_cons_zero]; rfl
        case sw145_46 => rfl
        case yw145_46 => rfl
        try simp only [Act.put, List.setIfInBounds_toArray, List.set_cons_zero, List.set_cons_succ]
        refine hR.take (i := 47) (oi := ?ow146_47) (v := ?vw146_47) (m' := 281474976710655) ?hw146_47 (by kernel_rfl) (by kernel_rfl) (fun _ _ _ h => h) (Or.inr ⟨?sw146_47, ?yw146_47⟩) (by assumption) ?nw146_47
        case hw146_47 => simp only [List.getElem?_toArray, List.getElem?_cons_succ, List.getElem?_cons_zero]; rfl
        case sw146_47 => rfl
        case yw146_47 => rfl
        try simp only [Act.put, List.setIfInBounds_toArray, List.set_cons_zero, List.set_cons_succ]
        refine hR.take (i := 48) (oi := ?ow147_48) (v := ?vw147_48) (m' := 562949953421311) ?hw147_48 (by kernel_rfl) (by kernel_rfl) (fun _ _ _ h => h) (Or.inl ⟨?sw147_48, ?yw147_48⟩) (by assumption) ?nw147_48
        case hw147_48 => simp only [List.getElem?_toArray, List.getElem?_cons_succ, List.getElem?_cons_zero]; rfl
        case sw147_48 => rfl
        case yw147_48 => (intro w hSw; (try dsimp only at hSw); go_simp <;> with_reducible rfl)
        try simp only [Act.put, List.setIfInBounds_toArray, List.set_cons_zero, List.set_cons_succ]
        refine hR.all (by kernel_rfl) ?_ _
        refine NoPanic.normal ?_
        go_wp2_with fail
        go_ret
        exact ⟨ret_b (not_cd (List.mem_of_getElem? Hx.out) hv.out).symm, Hb.out.drew⟩
      have f3 : (x.lo < 0) = False := eq_false c3
      by_cases c4 : x.hi < x.lo
      · have f4 : (x.hi < x.lo) = True := eq_true c4
        have hv := Lib.hid (show validCdB x = false from decide_eq_false (fun h => by unfold ValidCd at h; omega))
        refine wp_region_noPanic ?_
        refine wp_region_held_drew (S := fun X => Below wr.heap.size wr X) (by kernel_rfl) ?_ (fun hHeld => ?_)
        · (first | with_reducible assumption | (with_reducible refine Below.drew ?_; with_reducible assumption) | (with_reducible refine ba _ _ ?_; with_reducible assumption) | (with_reducible refine Below.drew ?_; with_reducible refine ba _ _ ?_; with_reducible assumption) | exact Below.refl _ _ | exact (Below.refl _ _).drew | exact (Below.refl _ _).alloc (Nat.le_refl _) _ | (refine bc _ _ (by assumption) (by assumption)))
        refine RegOk.begin_ (n := 49) (T := q5A) ⟨by kernel_rfl, by kernel_rfl, by kernel_rfl, by kernel_rfl⟩ fun hR => ?_
        refine hR.take (i := 0) (oi := ?ow148_0) (v := ?vw148_0) (m' := 1) ?hw148_0 (by kernel_rfl) (by kernel_rfl) (fun _ _ _ h => h) (Or.inl ⟨?sw148_0, ?yw148_0⟩) (by assumption) ?nw148_0
        case hw148_0 => simp only [List.getElem?_toArray, List.getElem?_cons_succ, List.getElem?_cons_zero]; rfl
        case sw148_0 => rfl
        case yw148_0 => (intro w hSw; (try dsimp only at hSw); go_simp <;> with_reducible rfl)
        try simp only [Act.put, List.setIfInBounds_toArray, List.set_cons_zero, List.set_cons_succ]
        refine hR.take (i := 1) (oi := ?ow149_1) (v := ?vw149_1) (m' := 3) ?hw149_1 (by kernel_rfl) (by kernel_rfl) (fun _ _ _ h => h) (Or.inl ⟨?sw149_1, ?yw149_1⟩) (by assumption) ?nw149_1
        case hw149_1 => simp only [List.getElem?_toArray, List.getElem?_cons_succ, List.getElem?_cons_zero]; rfl
        case sw149_1 => rfl
        case yw149_1 => (intro w hSw; (try dsimp only at hSw); go_simp <;> with_reducible rfl)
        try simp only [Act.put, List.setIfInBounds_toArray, List.set_cons_zero, List.set_cons_succ]
        refine hR.take (i := 2) (oi := ?ow150_2) (v := ?vw150_2) (m' := 7) ?hw150_2 (by kernel_rfl) (by kernel_rfl) (fun _ _ _ h => h) (Or.inl ⟨?sw150_2, ?yw150_2⟩) (by assumption) ?nw150_2
        case hw150_2 => simp only [List.getElem?_toArray, List.getElem?_cons_succ, List.getElem?_cons_zero]; rfl
        case sw150_2 => rfl
        case yw150_2 => (intro w hSw; (try dsimp only at hSw); go_simp <;> with_reducible rfl)
        try simp only [Act.put, List.setIfInBounds_toArray, List.set_cons_zero, List.set_cons_succ]
        refine hR.take (i := 3) (oi := ?ow151_3) (v := ?vw151_3) (m' := 15) ?hw151_3 (by kernel_rfl) (by kernel_rfl) (fun _ _ _ h => h) (Or.inl ⟨?sw151_3, ?yw151_3⟩) (by assumption) ?nw151_3
        case hw151_3 => simp only [List.getElem?_toArray, List.getElem?_cons_succ, List.getElem?_cons_zero]; rfl
        case sw151_3 => rfl
        case yw151_3 => (intro w hSw; (try dsimp only at hSw); go_simp <;> with_reducible rfl)
        try simp only [Act.put, List.setIfInBounds_toArray, List.set_cons_zero, List.set_cons_succ]
        refine hR.take (i := 4) (oi := ?ow152_4) (v := ?vw152_4) (m' := 31) ?hw152_4 (by kernel_rfl) (by kernel_rfl) (fun _ _ _ h => h) (Or.inl ⟨?sw152_4, ?yw152_4⟩) (by assumption) ?nw152_4
        case hw152_4 => simp only [List.getElem?_toArray, List.getElem?_cons_succ, List.getElem?_cons_zero]; rfl
        case sw152_4 => rfl
        case yw152_4 => (intro w hSw; (try dsimp only at hSw); go_simp <;> with_reducible rfl)
        try simp only [Act.put, List.setIfInBounds_toArray, List.set_cons_zero, List.set_cons_succ]
        refine hR.take (i := 5) (oi := ?ow153_5) (v := ?vw153_5) (m' := 63) ?hw153_5 (by kernel_rfl) (by kernel_rfl) (fun _ _ _ h => h) (Or.inl ⟨?sw153_5, ?yw153_5⟩) (by assumption) ?nw153_5
        case hw153_5 => simp only [List.getElem?_toArray, List.getElem?_cons_succ, List.getElem?_cons_zero]; rfl
        case sw153_5 => rfl
        case yw153_5 => (intro w hSw; (try dsimp only at hSw); go_simp <;> with_reducible rfl)
        try simp only [Act.put, List.setIfInBounds_toArray, List.set_cons_zero, List.set_cons_succ]
        refine hR.take (i := 6) (oi := ?ow154_6) (v := ?vw154_6) (m' := 127) ?hw154_6 (by kernel_rfl) (by kernel_rfl) (fun _ _ _ h => h) (Or.inl ⟨?sw154_6, ?yw154_6⟩) (by assumption) ?nw154_6
        case hw154_6 => simp only [List.getElem?_toArray, List.getElem?_cons_succ, List.getElem?_cons_zero]; rfl
        case sw154_6 => rfl
        case yw154_6 => (intro w hSw; (try dsimp only at hSw); go_simp <;> with_reducible rfl)
        try simp only [Act.put, List.setIfInBounds_toArray, List.set_cons_zero, List.set_cons_succ]
        refine hR.take (i := 7) (oi := ?ow155_7) (v := ?vw155_7) (m' := 255) ?hw155_7 (by kernel_rfl) (by kernel_rfl) (fun _ _ _ h => h) (Or.inl ⟨?sw155_7, ?yw155_7⟩) (by assumption) ?nw155_7
        case hw155_7 => simp only [List.getElem?_toArray, List.getElem?_cons_succ, List.getElem?_cons_zero]; rfl
        case sw155_7 => rfl
        case yw155_7 => (intro w hSw; (try dsimp only at hSw); go_simp <;> with_reducible rfl)
        try simp only [Act.put, List.setIfInBounds_toArray, List.set_cons_zero, List.set_cons_succ]
        refine hR.take (i := 8) (oi := ?ow156_8) (v := ?vw156_8) (m' := 511) ?hw156_8 (by kernel_rfl) (by kernel_rfl) (fun _ _ _ h => h) (Or.inl ⟨?sw156_8, ?yw156_8⟩) (by assumption) ?nw156_8
        case hw156_8 => simp only [List.getElem?_toArray, List.getElem?_cons_succ, List.getElem?_cons_zero]; rfl
        case sw156_8 => rfl
        case yw156_8 => (intro w hSw; (try dsimp only at hSw); go_simp <;> with_reducible rfl)
        try simp only [Act.put, List.setIfInBounds_toArray, List.set_cons_zero, List.set_cons_succ]
        refine hR.take (i := 9) (oi := ?ow157_9) (v := ?vw157_9) (m' := 1023) ?hw157_9 (by kernel_rfl) (by kernel_rfl) (fun _ _ _ h => h) (Or.inl ⟨?sw157_9, ?yw157_9⟩) (by assumption) ?nw157_9
        case hw157_9 => simp only [List.getElem?_toArray, List.getElem?_cons_succ, List.getElem?_cons_zero]; rfl
        case sw157_9 => rfl
        case yw157_9 => (intro w hSw; (try dsimp only at hSw); go_simp <;> with_reducible rfl)
        try simp only [Act.put, List.setIfInBounds_toArray, List.set_cons_zero, List.set_cons_succ]
        refine hR.take (i := 10) (oi := ?ow158_10) (v := ?vw158_10) (m' := 2047) ?hw158_10 (by kernel_rfl) (by kernel_rfl) (fun _ _ _ h => h) (Or.inl ⟨?sw158_10, ?yw158_10⟩) (by assumption) ?nw158_10
        case hw158_10 => simp only [List.getElem?_toArray, List.getElem?_cons_succ, List.getElem?_cons_zero]; rfl
        case sw158_10 => rfl
        case yw158_10 => (intro w hSw; (try dsimp only at hSw); go_simp <;> with_reducible rfl)
        try simp only [Act.put, List.setIfInBounds_toArray, List.set_cons_zero, List.set_cons_succ]
        refine hR.take (i := 11) (oi := ?ow159_11) (v := ?vw159_11) (m' := 4095) ?hw159_11 (by kernel_rfl) (by kernel_rfl) (fun _ _ _ h => h) (Or.inl ⟨?sw159_11, ?yw159_11⟩) (by assumption) ?nw159_11
        case hw159_11 => simp only [List.getElem?_toArray, List.getElem?_cons_succ, List.getElem?_cons_zero]; rfl
        case sw159_11 => rfl
        case yw159_11 => (intro w hSw; (try dsimp only at hSw); go_simp <;> with_reducible rfl)
        try simp only [Act.put, List.setIfInBounds_toArray, List.set_cons_zero, List.set_cons_succ]
        refine hR.take (i := 12) (oi := ?ow160_12) (v := ?vw160_12) (m' := 8191) ?hw160_12 (by kernel_rfl) (by kernel_rfl) (fun _ _ _ h => h) (Or.inl ⟨?sw160_12, ?yw160_12⟩) (by assumption) ?nw160_12
        case hw160_12 => simp only [List.getElem?_toArray, List.getElem?_cons_succ, List.getElem?_cons_zero]; rfl
        case sw160_12 => rfl
        case yw160_12 => (intro w hSw; (try dsimp only at hSw); go_simp <;> with_reducible rfl)
        try simp only [Act.put, List.setIfInBounds_toArray, List.set_cons_zero, List.set_cons_succ]
        refine hR.take (i := 13) (oi := ?ow161_13) (v := ?vw161_13) (m' := 16383) ?hw161_13 (by kernel_rfl) (by kernel_rfl) (fun _ _ _ h => h) (Or.inl ⟨?sw161_13, ?yw161_13⟩) (by assumption) ?nw161_13
        case hw161_13 => simp only [List.getElem?_toArray, List.getElem?_cons_succ, List.getElem?_cons_zero]; rfl
        case sw161_13 => rfl
        case yw161_13 => (intro w hSw; (try dsimp only at hSw); go_simp <;> with_reducible rfl)
        try simp only [Act.put, List.setIfInBounds_toArray, List.set_cons_zero, List.set_cons_succ]
        refine hR.take (i := 14) (oi := ?ow162_14) (v := ?vw162_14) (m' := 32767) ?hw162_14 (by kernel_rfl) (by kernel_rfl) (fun _ _ _ h => h) (Or.inl ⟨?sw162_14, ?yw162_14⟩) (by assumption) ?nw162_14
        case hw162_14 => simp only [List.getElem?_toArray, List.getElem?_cons_succ, List.getElem?_cons_zero]; rfl
        case sw162_14 => rfl
        case yw162_14 => (intro w hSw; (try dsimp only at hSw); go_simp <;> with_reducible rfl)
        try simp only [Act.put, List.setIfInBounds_toArray, List.set_cons_zero, List.set_cons_succ]
        refine hR.take (i := 15) (oi := ?ow163_15) (v := ?vw163_15) (m' := 65535) ?hw163_15 (by kernel_rfl) (by kernel_rfl) (fun _ _ _ h => h) (Or.inl ⟨?sw163_15, ?yw163_15⟩) (by assumption) ?nw163_15
        case hw163_15 => simp only [List.getElem?_toArray, List.getElem?_cons_succ, List.getElem?_cons_zero]; rfl
        case sw163_15 => rfl
        case yw163_15 => (intro w hSw; (try dsimp only at hSw); go_simp <;> with_reducible rfl)
        try simp only [Act.put, List.setIfInBounds_toArray, List.set_cons_zero, List.set_cons_succ]
        refine hR.take (i := 16) (oi := ?ow164_16) (v := ?vw164_16) (m' := 131071) ?hw164_16 (by kernel_rfl) (by kernel_rfl) (fun _ _ _ h => h) (Or.inl ⟨?sw164_16, ?yw164_16⟩) (by assumption) ?nw164_16
        case hw164_16 => simp only [List.getElem?_toArray, List.getElem?_cons_succ, List.getElem?_cons_zero]; rfl
        case sw164_16 => rfl
        case yw164_16 => (intro w hSw; (try dsimp only at hSw); go_simp <;> with_reducible rfl)
        try simp only [Act.put, List.setIfInBounds_toArray, List.set_cons_zero, List.set_cons_succ]
        refine hR.take (i := 17) (oi := ?ow165_17) (v := ?vw165_17) (m' := 262143) ?hw165_17 (by kernel_rfl) (by kernel_rfl) (fun _ _ _ h => h) (Or.inl ⟨?sw165_17, ?yw165_17⟩) (by assumption) ?nw165_17
        case hw165_17 => simp only [List.getElem?_toArray, List.getElem?_cons_succ, List.getElem?_cons_zero]; rfl
        case sw165_17 => rfl
        case yw165_17 => (intro w hSw; (try dsimp only at hSw); go_simp <;> with_reducible rfl)
        try simp only [Act.put, List.setIfInBounds_toArray, List.set_cons_zero, List.set_cons_succ]
        refine hR.take (i := 18) (oi := ?ow166_18) (v := ?vw166_18) (m' := 524287) ?hw166_18 (by kernel_rfl) (by kernel_rfl) (fun _ _ _ h => h) (Or.inl ⟨?sw166_18, ?yw166_18⟩) (by assumption) ?nw166_18
        case hw166_18 => simp only [List.getElem?_toArray, List.getElem?_cons_succ, List.getElem?_cons_zero]; rfl
        case sw166_18 => rfl
        case yw166_18 => (intro w hSw; (try dsimp only at hSw); go_simp <;> with_reducible rfl)
        try simp only [Act.put, List.setIfInBounds_toArray, List.set_cons_zero, List.set_cons_succ]
        refine hR.take (i := 19) (oi := ?ow167_19) (v := ?vw167_19) (m' := 1048575) ?hw167_19 (by kernel_rfl) (by kernel_rfl) (fun _ _ _ h => h) (Or.inl ⟨?sw167_19, ?yw167_19⟩) (by assumption) ?nw167_19
        case hw167_19 => simp only [List.getElem?_toArray, List.getElem?_cons_succ, List.getElem?_cons_zero]; rfl
        case sw167_19 => rfl
        case yw167_19 => (intro w hSw; (try dsimp only at hSw); go_simp <;> with_reducible rfl)
        try simp only [Act.put, List.setIfInBounds_toArray, List.set_cons_zero, List.set_cons_succ]
        refine hR.take (i := 20) (oi := ?ow168_20) (v := ?vw168_20) (m' := 2097151) ?hw168_20 (by kernel_rfl) (by kernel_rfl) (fun _ _ _ h => h) (Or.inl ⟨?sw168_20, ?yw168_20⟩) (by assumption) ?nw168_20
        case hw168_20 => simp only [List.getElem?_toArray, List.getElem?_cons_succ, List.getElem?_cons_zero]; rfl
        case sw168_20 => rfl
        case yw168_20 => (intro w hSw; (try dsimp only at hSw); go_simp <;> with_reducible rfl)
        try simp only [Act.put, List.setIfInBounds_toArray, List.set_cons_zero, List.set_cons_succ]
        refine hR.take (i := 21) (oi := ?ow169_21) (v := ?vw169_21) (m' := 4194303) ?hw169_21 (by kernel_rfl) (by kernel_rfl) (fun _ _ _ h => h) (Or.inl ⟨?sw169_21, ?yw169_21⟩) (by assumption) ?nw169_21
        case hw169_21 => simp only [List.getElem?_toArray, List.getElem?_cons_succ, List.getElem?_cons_zero]; rfl
        case sw169_21 => rfl
        case yw169_21 => (intro w hSw; (try dsimp only at hSw); go_simp <;> with_reducible rfl)
        try simp only [Act.put, List.setIfInBounds_toArray, List.set_cons_zero, List.set_cons_succ]
        refine hR.take (i := 22) (oi := ?ow170_22) (v := ?vw170_22) (m' := 8388607) ?hw170_22 (by kernel_rfl) (by kernel_rfl) (fun _ _ _ h => h) (Or.inl ⟨?sw170_22, ?yw170_22⟩) (by assumption) ?nw170_22
        case hw170_22 => simp only [List.getElem?_toArray, List.getElem?_cons_succ, List.getElem?_cons_zero]; rfl
        case sw170_22 => rfl
        case yw170_22 => (intro w hSw; (try dsimp only at hSw); go_simp <;> with_reducible rfl)
        try simp only [Act.put, List.setIfInBounds_toArray, List.set_cons_zero, List.set_cons_succ]
        refine hR.take (i := 23) (oi := ?ow171_23) (v := ?vw171_23) (m' := 16777215) ?hw171_23 (by kernel_rfl) (by kernel_rfl) (fun _ _ _ h => h) (Or.inl ⟨?sw171_23, ?yw171_23⟩) (by assumption) ?nw171_23
        case hw171_23 => simp only [List.getElem?_toArray, List.getElem?_cons_succ, List.getElem?_cons_zero]; rfl
        case sw171_23 => rfl
        case yw171_23 => (intro w hSw; (try dsimp only at hSw); go_simp <;> with_reducible rfl)
        try simp only [Act.put, List.setIfInBounds_toArray, List.set_cons_zero, List.set_cons_succ]
        refine hR.take (i := 24) (oi := ?ow172_24) (v := ?vw172_24) (m' := 33554431) ?hw172_24 (by kernel_rfl) (by kernel_rfl) (fun _ _ _ h => h) (Or.inl ⟨?sw172_24, ?yw172_24⟩) (by assumption) ?nw172_24
        case hw172_24 => simp only [List.getElem?_toArray, List.getElem?_cons_succ, List.getElem?_cons_zero]; rfl
        case sw172_24 => rfl
        case yw172_24 => (intro w hSw; (try dsimp only at hSw); go_simp <;> with_reducible rfl)
        try simp only [Act.put, List.setIfInBounds_toArray, List.set_cons_zero, List.set_cons_succ]
        refine hR.take (i := 25) (oi := ?ow173_25) (v := ?vw173_25) (m' := 67108863) ?hw173_25 (by kernel_rfl) (by kernel_rfl) (fun _ _ _ h => h) (Or.inl ⟨?sw173_25, ?yw173_25⟩) (by assumption) ?nw173_25
        case hw173_25 => simp only [List.getElem?_toArray, List.getElem?_cons_succ, List.getElem?_cons_zero]; rfl
        case sw173_25 => rfl
        case yw173_25 => (intro w hSw; (try dsimp only at hSw); go_simp <;> with_reducible rfl)
        try simp only [Act.put, List.setIfInBounds_toArray, List.set_cons_zero, List.set_cons_succ]
        refine hR.take (i := 26) (oi := ?ow174_26) (v := ?vw174_26) (m' := 134217727) ?hw174_26 (by kernel_rfl) (by kernel_rfl) (fun _ _ _ h => h) (Or.inl ⟨?sw174_26, ?yw174_26⟩) (by assumption) ?nw174_26
        case hw174_26 => simp only [List.getElem?_toArray, List.getElem?_cons_succ, List.getElem?_cons_zero]; rfl
        case sw174_26 => rfl
        case yw174_26 => (intro w hSw; (try dsimp only at hSw); go_simp <;> with_reducible rfl)
        try simp only [Act.put, List.setIfInBounds_toArray, List.set_cons_zero, List.set_cons_succ]
        refine hR.take (i := 27) (oi := ?ow175_27) (v := ?vw175_27) (m' := 268435455) ?hw175_27 (by kernel_rfl) (by kernel_rfl) (fun _ _ _ h => h) (Or.inl ⟨?sw175_27, ?yw175_27⟩) (by assumption) ?nw175_27
        case hw175_27 => simp only [List.getElem?_toArray, List.getElem?_cons_succ, List.getElem?_cons_zero]; rfl
        case sw175_27 => rfl
        case yw175_27 => (intro w hSw; (try dsimp only at hSw); go_simp <;> with_reducible rfl)
        try simp only [Act.put, List.setIfInBounds_toArray, List.set_cons_zero, List.set_cons_succ]
        refine hR.take (i := 28) (oi := ?ow176_28) (v := ?vw176_28) (m' := 536870911) ?hw176_28 (by kernel_rfl) (by kernel_rfl) (fun _ _ _ h => h) (Or.inl ⟨?sw176_28, ?yw176_28⟩) (by assumption) ?nw176_28
        case hw176_28 => simp only [List.getElem?_toArray, List.getElem?_cons_succ, List.getElem?_cons_zero]; rfl
        case sw176_28 => rfl
        case yw176_28 => (intro w hSw; (try dsimp only at hSw); go_simp <;> with_reducible rfl)
        try simp only [Act.put, List.setIfInBounds_toArray, List.set_cons_zero, List.set_cons_succ]
        refine hR.take (i := 29) (oi := ?ow177_29) (v := ?vw177_29) (m' := 1073741823) ?hw177_29 (by kernel_rfl) (by kernel_rfl) (fun _ _ _ h => h) (Or.inl ⟨?sw177_29, ?yw177_29⟩) (by assumption) ?nw177_29
        case hw177_29 => simp only [List.getElem?_toArray, List.getElem?_cons_succ, List.getElem?_cons_zero]; rfl
        case sw177_29 => rfl
        case yw177_29 => (intro w hSw; (try dsimp only at hSw); go_simp <;> with_reducible rfl)
        try simp only [Act.put, List.setIfInBounds_toArray, List.set_cons_zero, List.set_cons_succ]
        refine hR.take (i := 30) (oi := ?ow178_30) (v := ?vw178_30) (m' := 2147483647) ?hw178_30 (by kernel_rfl) (by kernel_rfl) (fun _ _ _ h => h) (Or.inl ⟨?sw178_30, ?yw178_30⟩) (by assumption) ?nw178_30
        case hw178_30 => simp only [List.getElem?_toArray, List.getElem?_cons_succ, List.getElem?_cons_zero]; rfl
        case sw178_30 => rfl
        case yw178_30 => (intro w hSw; (try dsimp only at hSw); go_simp <;> with_reducible rfl)
        try simp only [Act.put, List.setIfInBounds_toArray, List.set_cons_zero, List.set_cons_succ]
        refine hR.take (i := 31) (oi := ?ow179_31) (v := ?vw179_31) (m' := 4294967295) ?hw179_31 (by kernel_rfl) (by kernel_rfl) (fun _ _ _ h => h) (Or.inl ⟨?sw179_31, ?yw179_31⟩) (by assumption) ?nw179_31
        case hw179_31 => simp only [List.getElem?_toArray, List.getElem?_cons_succ, List.getElem?_cons_zero]; rfl
        case sw179_31 => rfl
        case yw179_31 => (intro w hSw; (try dsimp only at hSw); go_simp <;> with_reducible rfl)
        try simp only [Act.put, List.setIfInBounds_toArray, List.set_cons_zero, List.set_cons_succ]
        refine hR.take (i := 32) (oi := ?ow180_32) (v := ?vw180_32) (m' := 8589934591) ?hw180_32 (by kernel_rfl) (by kernel_rfl) (fun _ _ _ h => h) (Or.inl ⟨?sw180_32, ?yw180_32⟩) (by assumption) ?nw180_32
        case hw180_32 => simp only [List.getElem?_toArray, List.getElem?_cons_succ, List.getElem?_cons_zero]; rfl
        case sw180_32 => rfl
        case yw180_32 => (intro w hSw; (try dsimp only at hSw); go_simp <;> with_reducible rfl)
        try simp only [Act.put, List.setIfInBounds_toArray, List.set_cons_zero, List.set_cons_succ]
        refine hR.take (i := 33) (oi := ?ow181_33) (v := ?vw181_33) (m' := 17179869183) ?hw181_33 (by kernel_rfl) (by kernel_rfl) (fun _ _ _ h => h) (Or.inl ⟨?sw181_33, ?yw181_33⟩) (by assumption) ?nw181_33
        case hw181_33 => simp only [List.getElem?_toArray, List.getElem?_cons_succ, List.getElem?_cons_zero]; rfl
        case sw181_33 => rfl
        case yw181_33 => (intro w hSw; (try dsimp only at hSw); go_simp <;> with_reducible rfl)
        try simp only [Act.put, List.setIfInBounds_toArray, List.set_cons_zero, List.set_cons_succ]
        refine hR.take (i := 34) (oi := ?ow182_34) (v := ?vw182_34) (m' := 34359738367) ?hw182_34 (by kernel_rfl) (by kernel_rfl) (fun _ _ _ h => h) (Or.inl ⟨?sw182_34, ?yw182_34⟩) (by assumption) ?nw182_34
        case hw182_34 => simp only [List.getElem?_toArray, List.getElem?_cons_succ, List.getElem?_cons_zero]; rfl
        case sw182_34 => rfl
        case yw182_34 => (intro w hSw; (try dsimp only at hSw); go_simp <;> with_reducible rfl)
        try simp only [Act.put, List.setIfInBounds_toArray, List.set_cons_zero, List.set_cons_succ]
        refine hR.take (i := 35) (oi := ?ow183_35) (v := ?vw183_35) (m' := 68719476735) ?hw183_35 (by kernel_rfl) (by kernel_rfl) (fun _ _ _ h => h) (Or.inl ⟨?sw183_35, ?yw183_35⟩) (by assumption) ?nw183_35
        case hw183_35 => simp only [List.getElem?_toArray, List.getElem?_cons_succ, List.getElem?_cons_zero]; rfl
        case sw183_35 => rfl
        case yw183_35 => (intro w hSw; (try dsimp only at hSw); go_simp <;> with_reducible rfl)
        try simp only [Act.put, List.setIfInBounds_toArray, List.set_cons_zero, List.set_cons_succ]
        refine hR.take (i := 36) (oi := ?ow184_36) (v := ?vw184_36) (m' := 137438953471) ?hw184_36 (by kernel_rfl) (by kernel_rfl) (fun _ _ _ h => h) (Or.inr ⟨?sw184_36, ?yw184_36⟩) (by assumption) ?nw184_36
        case hw184_36 => simp only [List.getElem?_toArray, List.getElem?_cons_succ, List.getElem?_cons_zero]; rfl
        case sw184_36 => rfl
        case yw184_36 => rfl
        try simp only [Act.put, List.setIfInBounds_toArray, List.set_cons_zero, List.set_cons_succ]
        refine hR.take (i := 37) (oi := ?ow185_37) (v := ?vw185_37) (m' := 274877906943) ?hw185_37 (by kernel_rfl) (by kernel_rfl) (fun _ _ _ h => h) (Or.inr ⟨?sw185_37, ?yw185_37⟩) (by assumption) ?nw185_37
        case hw185_37 => simp only [List.getElem?_toArray, List.getElem?_cons_succ, List.getElem?_cons_zero]; rfl
        case sw185_37 => rfl
        case yw185_37 => rfl
        try simp only [Act.put, List.setIfInBounds_toArray, List.set_cons_zero, List.set_cons_succ]
        refine hR.take (i := 38) (oi := ?ow186_38) (v := ?vw186_38) (m' := 549755813887) ?hw186_38 (by kernel_rfl) (by kernel_rfl) (fun _ _ _ h => h) (Or.inr ⟨?sw186_38, ?yw186_38⟩) (by assumption) ?nw186_38
        case hw186_38 => simp only [List.getElem?_toArray, List.getElem?_cons_succ, List.getElem?_cons_zero]; rfl
        case sw186_38 => rfl
        case yw186_38 => rfl
        try simp only [Act.put, List.setIfInBounds_toArray, List.set_cons_zero, List.set_cons_succ]
        refine hR.take (i := 39) (oi := ?ow187_39) (v := ?vw187_39) (m' := 1099511627775) ?hw187_39 (by kernel_rfl) (by kernel_rfl) (fun _ _ _ h => h) (Or.inr ⟨?sw187_39, ?yw187_39⟩) (by assumption) ?nw187_39
        case hw187_39 => simp only [List.getElem?_toArray, List.getElem?_cons_succ, List.getElem?_cons_zero]; rfl
        case sw187_39 => rfl
        case yw187_39 => rfl
        try simp only [Act.put, List.setIfInBounds_toArray, List.set_cons_zero, List.set_cons_succ]
        refine hR.take (i := 40) (oi := ?ow188_40) (v := ?vw188_40) (m' := 2199023255551) ?hw188_40 (by kernel_rfl) (by kernel_rfl) (fun _ _ _ h => h) (Or.inr ⟨?sw188_40, ?yw188_40⟩) (by assumption) ?nw188_40
        case hw188_40 => simp only [List.getElem?_toArray, List.getElem?_cons_succ, List.getElem?_cons_zero]; rfl
        case sw188_40 => rfl
        case yw188_40 => rfl
        try simp only [Act.put, List.setIfInBounds_toArray, List.set_cons_zero, List.set_cons_succ]
        refine hR.take (i := 41) (oi := ?ow189_41) (v := ?vw189_41) (m' := 4398046511103) ?hw189_41 (by kernel_rfl) (by kernel_rfl) (fun _ _ _ h => h) (Or.inr ⟨?sw189_41, ?yw189_41⟩) (by assumption) ?nw189_41
        case hw189_41 => simp only [List.getElem?_toArray, List.getElem?_cons_succ, List.getElem?_cons_zero]; rfl
        case sw189_41 => rfl
        case yw189_41 => rfl
        try simp only [Act.put, List.setIfInBounds_toArray, List.set_cons_zero, List.set_cons_succ]
        refine hR.take (i := 42) (oi := ?ow190_42) (v := ?vw190_42) (m' := 8796093022207) ?hw190_42 (by kernel_rfl) (by kernel_rfl) (fun _ _ _ h => h) (Or.inr ⟨?sw190_42, ?yw190_42⟩) (by assumption) ?nw190_42
        case hw190_42 => simp only [List.getElem?_toArray, List.getElem?_cons_succ, List.getElem?_cons_zero]; rfl
        case sw190_42 => rfl
        case yw190_42 => rfl
        try simp only [Act.put, List.setIfInBounds_toArray, List.set_cons_zero, List.set_cons_succ]
        refine hR.take (i := 43) (oi := ?ow191_43) (v := ?vw191_43) (m' := 17592186044415) ?hw191_43 (by kernel_rfl) (by kernel_rfl) (fun _ _ _ h => h) (Or.inr ⟨?sw191_43, ?yw191_43⟩) (by assumption) ?nw191_43
        case hw191_43 => simp only [List.getElem?_toArray, List.getElem?_cons_succ, List.getElem?_cons_zero]; rfl
        case sw191_43 => rfl
        case yw191_43 => rfl
        try simp only [Act.put, List.setIfInBounds_toArray, List.set_cons_zero, List.set_cons_succ]
        refine hR.take (i := 44) (oi := ?ow192_44) (v := ?vw192_44) (m' := 35184372088831) ?hw192_44 (by kernel_rfl) (by kernel_rfl) (fun _ _ _ h => h) (Or.inr ⟨?sw192_44, ?yw192_44⟩) (by assumption) ?nw192_44
        case hw192_44 => simp only [List.getElem?_toArray, List.getElem?_cons_succ, List.getElem?_cons_zero]; rfl
        case sw192_44 => rfl
        case yw192_44 => rfl
        try simp only [Act.put, List.setIfInBounds_toArray, List.set_cons_zero, List.set_cons_succ]
        refine hR.take (i := 45) (oi := ?ow193_45) (v := ?vw193_45) (m' := 70368744177663) ?hw193_45 (by kernel_rfl) (by kernel_rfl) (fun _ _ _ h => h) (Or.inr ⟨?sw193_45, ?yw193_45⟩) (by assumption) ?nw193_45
        case hw193_45 => simp only [List.getElem?_toArray, List.getElem?_cons_succ, List.getElem?_cons_zero]; rfl
        case sw193_45 => rfl
        case yw193_45 => rfl
        try simp only [Act.put, List.setIfInBounds_toArray, List.set_cons_zero, List.set_cons_succ]
        refine hR.take (i := 46) (oi := ?ow194_46) (v := ?vw194_46) (m' := 140737488355327) ?hw194_46 (by kernel_rfl) (by kernel_rfl) (fun _ _ _ h => h) (Or.inr ⟨?sw194_46, ?yw194_46⟩) (by assumption) ?nw194_46
        case hw194_46 => simp only [List.getElem?_toArray, List.getElem?_cons_succ, List.getElem?_cons_zero]; rfl
        case sw194_46 => rfl
        case yw194_46 => rfl
        try simp only [Act.put, List.setIfInBounds_toArray, List.set_cons_zero, List.set_cons_succ]
        refine hR.take (i := 47) (oi := ?ow195_47) (v := ?vw195_47) (m' := 281474976710655) ?hw195_47 (by kernel_rfl) (by kernel_rfl) (fun _ _ _ h => h) (Or.inr ⟨?sw195_47, ?yw195_47⟩) (by assumption) ?nw195_47
        case hw195_47 => simp only [List.getElem?_toArray, List.getElem?_cons_succ, List.getElem?_cons_zero]; rfl
        case sw195_47 => rfl
        case yw195_47 => rfl
        try simp only [Act.put, List.setIfInBounds_toArray, List.set_cons_zero, List.set_cons_succ]
        refine hR.take (i := 48) (oi := ?ow196_48) (v := ?vw196_48) (m' := 562949953421311) ?hw196_48 (by kernel_rfl) (by kernel_rfl) (fun _ _ _ h => h) (Or.inl ⟨?sw196_48, ?yw196_48⟩) (by assumption) ?nw196_48
        case hw196_48 => simp only [List.getElem?_toArray, List.getElem?_cons_succ, List.getElem?_cons_zero]; rfl
        case sw196_48 => rfl
        case yw196_48 => (intro w hSw; (try dsimp only at hSw); go_simp <;> with_reducible rfl)
        try simp only [Act.put, List.setIfInBounds_toArray, List.set_cons_zero, List.set_cons_succ]
        refine hR.all (by kernel_rfl) ?_ _
        refine NoPanic.normal ?_
        go_wp2_with fail
        go_ret
        exact ⟨ret_b (not_cd (List.mem_of_getElem? Hx.out) hv.out).symm, Hb.out.drew⟩
      have f4 : (x.hi < x.lo) = False := eq_false c4
      by_cases c5 : maxC x.col < x.hi
      · have f5 : (maxC x.col < x.hi) = True := eq_true c5
        have hv := Lib.hid (show validCdB x = false from decide_eq_false (fun h => by unfold ValidCd at h; omega))
        refine wp_region_noPanic ?_
        refine wp_region_held_drew (S := fun X => Below wr.heap.size wr X) (by kernel_rfl) ?_ (fun hHeld => ?_)
        · (first | with_reducible assumption | (with_reducible refine Below.drew ?_; with_reducible assumption) | (with_reducible refine ba _ _ ?_; with_reducible assumption) | (with_reducible refine Below.drew ?_; with_reducible refine ba _ _ ?_; with_reducible assumption) | exact Below.refl _ _ | exact (Below.refl _ _).drew | exact (Below.refl _ _).alloc (Nat.le_refl _) _ | (refine bc _ _ (by assumption) (by assumption)))
        refine RegOk.begin_ (n := 49) (T := q5A) ⟨by kernel_rfl, by kernel_rfl, by kernel_rfl, by kernel_rfl⟩ fun hR => ?_
        refine hR.take (i := 0) (oi := ?ow197_0) (v := ?vw197_0) (m' := 1) ?hw197_0 (by kernel_rfl) (by kernel_rfl) (fun _ _ _ h => h) (Or.inl ⟨?sw197_0, ?yw197_0⟩) (by assumption) ?nw197_0
        case hw197_0 => simp only [List.getElem?_toArray, List.getElem?_cons_succ, List.getElem?_cons_zero]; rfl
        case sw197_0 => rfl
        case yw197_0 => (intro w hSw; (try dsimp only at hSw); go_simp <;> with_reducible rfl)
        try simp only [Act.put, List.setIfInBounds_toArray, List.set_cons_zero, List.set_cons_succ]
        refine hR.take (i := 1) (oi := ?ow198_1) (v := ?vw198_1) (m' := 3) ?hw198_1 (by kernel_rfl) (by kernel_rfl) (fun _ _ _ h => h) (Or.inl ⟨?sw198_1, ?yw198_1⟩) (by assumption) ?nw198_1
        case hw198_1 => simp only [List.getElem?_toArray, List.getElem?_cons_succ, List.getElem?_cons_zero]; rfl
        case sw198_1 => rfl
        case yw198_1 => (intro w hSw; (try dsimp only at hSw); go_simp <;> with_reducible rfl)
        try simp only [Act.put, List.setIfInBounds_toArray, List.set_cons_zero, List.set_cons_succ]
        refine hR.take (i := 2) (oi := ?ow199_2) (v := ?vw199_2) (m' := 7) ?hw199_2 (by kernel_rfl) (by kernel_rfl) (fun _ _ _ h => h) (Or.inl ⟨?sw199_2, ?yw199_2⟩) (by assumption) ?nw199_2
        case hw199_2 => simp only [List.getElem?_toArray, List.getElem?_cons_succ, List.getElem?_cons_zero]; rfl
        case sw199_2 => rfl
        case yw199_2 => (intro w hSw; (try dsimp only at hSw); go_simp <;> with_reducible rfl)
        try simp only [Act.put, List.setIfInBounds_toArray, List.set_cons_zero, List.set_cons_succ]
        refine hR.take (i := 3) (oi := ?ow200_3) (v := ?vw200_3) (m' := 15) ?hw200_3 (by kernel_rfl) (by kernel_rfl) (fun _ _ _ h => h) (Or.inl ⟨?sw200_3, ?yw200_3⟩) (by assumption) ?nw200_3
        case hw200_3 => simp only [List.getElem?_toArray, List.getElem?_cons_succ, List.getElem?_cons_zero]; rfl
        case sw200_3 => rfl
        case yw200_3 => (intro w hSw; (try dsimp only at hSw); go_simp <;> with_reducible rfl)
        try simp only [Act.put, List.setIfInBounds_toArray, List.set_cons_zero, List.set_cons_succ]
        refine hR.take (i := 4) (oi := ?ow201_4) (v := ?vw201_4) (m' := 31) ?hw201_4 (by kernel_rfl) (by kernel_rfl) (fun _ _ _ h => h) (Or.inl ⟨?sw201_4, ?yw201_4⟩) (by assumption) ?nw201_4
        case hw201_4 => simp only [List.getElem?_toArray, List.getElem?_cons_succ, List.getElem?_cons_zero]; rfl
        case sw201_4 => rfl
        case yw201_4 => (intro w hSw; (try dsimp only at hSw); go_simp <;> with_reducible rfl)
        try simp only [Act.put, List.setIfInBounds_toArray, List.set_cons_zero, List.set_cons_succ]
        refine hR.take (i := 5) (oi := ?ow202_5) (v := ?vw202_5) (m' := 63) ?hw202_5 (by kernel_rfl) (by kernel_rfl) (fun _ _ _ h => h) (Or.inl ⟨?sw202_5, ?yw202_5⟩) (by assumption) ?nw202_5
        case hw202_5 => simp only [List.getElem?_toArray, List.getElem?_cons_succ, List.getElem?_cons_zero]; rfl
        case sw202_5 => rfl
        case yw202_5 => (intro w hSw; (try dsimp only at hSw); go_simp <;> with_reducible rfl)
        try simp only [Act.put, List.setIfInBounds_toArray, List.set_cons_zero, List.set_cons_succ]
        refine hR.take (i := 6) (oi := ?ow203_6) (v := ?vw203_6) (m' := 127) ?hw203_6 (by kernel_rfl) (by kernel_rfl) (fun _ _ _ h => h) (Or.inl ⟨?sw203_6, ?yw203_6⟩) (by assumption) ?nw203_6
        case hw203_6 => simp only [List.getElem?_toArray, List.getElem?_cons_succ, List.getElem?_cons_zero]; rfl
        case sw203_6 => rfl
        case yw203_6 => (intro w hSw; (try dsimp only at hSw); go_simp <;> with_reducible rfl)
        try simp only [Act.put, List.setIfInBounds_toArray, List.set_cons_zero, List.set_cons_succ]
        refine hR.take (i := 7) (oi := ?ow204_7) (v := ?vw204_7) (m' := 255) ?hw204_7 (by kernel_rfl) (by kernel_rfl) (fun _ _ _ h => h) (Or.inl ⟨?sw204_7, ?yw204_7⟩) (by assumption) ?nw204_7
        case hw204_7 => simp only [List.getElem?_toArray, List.getElem?_cons_succ, List.getElem?_cons_zero]; rfl
        case sw204_7 => rfl
        case yw204_7 => (intro w hSw; (try dsimp only at hSw); go_simp <;> with_reducible rfl)
        try simp only [Act.put, List.setIfInBounds_toArray, List.set_cons_zero, List.set_cons_succ]
        refine hR.take (i := 8) (oi := ?ow205_8) (v := ?vw205_8) (m' := 511) ?hw205_8 (by kernel_rfl) (by kernel_rfl) (fun _ _ _ h => h) (Or.inl ⟨?sw205_8, ?yw205_8⟩) (by assumption) ?nw205_8
        case hw205_8 => simp only [List.getElem?_toArray, List.getElem?_cons_succ, List.getElem?_cons_zero]; rfl
        case sw205_8 => rfl
        case yw205_8 => (intro w hSw; (try dsimp only at hSw); go_simp <;> with_reducible rfl)
        try simp only [Act.put, List.setIfInBounds_toArray, List.set_cons_zero, List.set_cons_succ]
        refine hR.take (i := 9) (oi := ?ow206_9) (v := ?vw206_9) (m' := 1023) ?hw206_9 (by kernel_rfl) (by kernel_rfl) (fun _ _ _ h => h) (Or.inl ⟨?sw206_9, ?yw206_9⟩) (by assumption) ?nw206_9
        case hw206_9 => simp only [List.getElem?_toArray, List.getElem?_cons_succ, List.getElem?_cons_zero]; rfl
        case sw206_9 => rfl
        case yw206_9 => (intro w hSw; (try dsimp only at hSw); go_simp <;> with_reducible rfl)
        try simp only [Act.put, List.setIfInBounds_toArray, List.set_cons_zero, List.set_cons_succ]
        refine hR.take (i := 10) (oi := ?ow207_10) (v := ?vw207_10) (m' := 2047) ?hw207_10 (by kernel_rfl) (by kernel_rfl) (fun _ _ _ h => h) (Or.inl ⟨?sw207_10, ?yw207_10⟩) (by assumption) ?nw207_10
        case hw207_10 => simp only [List.getElem?_toArray, List.getElem?_cons_succ, List.getElem?_cons_zero]; rfl
        case sw207_10 => rfl
        case yw207_10 => (intro w hSw; (try dsimp only at hSw); go_simp <;> with_reducible rfl)
        try simp only [Act.put, List.setIfInBounds_toArray, List.set_cons_zero, List.set_cons_succ]
        refine hR.take (i := 11) (oi := ?ow208_11) (v := ?vw208_11) (m' := 4095) ?hw208_11 (by kernel_rfl) (by kernel_rfl) (fun _ _ _ h => h) (Or.inl ⟨?sw208_11, ?yw208_11⟩) (by assumption) ?nw208_11
        case hw208_11 => simp only [List.getElem?_toArray, List.getElem?_cons_succ, List.getElem?_cons_zero]; rfl
        case sw208_11 => rfl
        case yw208_11 => (intro w hSw; (try dsimp only at hSw); go_simp <;> with_reducible rfl)
        try simp only [Act.put, List.setIfInBounds_toArray, List.set_cons_zero, List.set_cons_succ]
        refine hR.take (i := 12) (oi := ?ow209_12) (v := ?vw209_12) (m' := 8191) ?hw209_12 (by kernel_rfl) (by kernel_rfl) (fun _ _ _ h => h) (Or.inl ⟨?sw209_12, ?yw209_12⟩) (by assumption) ?nw209_12
        case hw209_12 => simp only [List.getElem?_toArray, List.getElem?_cons_succ, List.getElem?_cons_zero]; rfl
        case sw209_12 => rfl
        case yw209_12 => (intro w hSw; (try dsimp only at hSw); go_simp <;> with_reducible rfl)
        try simp only [Act.put, List.setIfInBounds_toArray, List.set_cons_zero, List.set_cons_succ]
        refine hR.take (i := 13) (oi := ?ow210_13) (v := ?vw210_13) (m' := 16383) ?hw210_13 (by kernel_rfl) (by kernel_rfl) (fun _ _ _ h => h) (Or.inl ⟨?sw210_13, ?yw210_13⟩) (by assumption) ?nw210_13
        case hw210_13 => simp only [List.getElem?_toArray, List.getElem?_cons_succ, List.getElem?_cons_zero]; rfl
        case sw210_13 => rfl
        case yw210_13 => (intro w hSw; (try dsimp only at hSw); go_simp <;> with_reducible rfl)
        try simp only [Act.put, List.setIfInBounds_toArray, List.set_cons_zero, List.set_cons_succ]
        refine hR.take (i := 14) (oi := ?ow211_14) (v := ?vw211_14) (m' := 32767) ?hw211_14 (by kernel_rfl) (by kernel_rfl) (fun _ _ _ h => h) (Or.inl ⟨?sw211_14, ?yw211_14⟩) (by assumption) ?nw211_14
        case hw211_14 => simp only [List.getElem?_toArray, List.getElem?_cons_succ, List.getElem?_cons_zero]; rfl
        case sw211_14 => rfl
        case yw211_14 => (intro w hSw; (try dsimp only at hSw); go_simp <;> with_reducible rfl)
        try simp only [Act.put, List.setIfInBounds_toArray, List.set_cons_zero, List.set_cons_succ]
        refine hR.take (i := 15) (oi := ?ow212_15) (v := ?vw212_15) (m' := 65535) ?hw212_15 (by kernel_rfl) (by kernel_rfl) (fun _ _ _ h => h) (Or.inl ⟨?sw212_15, ?yw212_15⟩) (by assumption) ?nw212_15
        case hw212_15 => simp only [List.getElem?_toArray, List.getElem?_cons_succ, List.getElem?_cons_zero]; rfl
        case sw212_15 => rfl
        case yw212_15 => (intro w hSw; (try dsimp only at hSw); go_simp <;> with_reducible rfl)
        try simp only [Act.put, List.setIfInBounds_toArray, List.set_cons_zero, List.set_cons_succ]
        refine hR.take (i := 16) (oi := ?ow213_16) (v := ?vw213_16) (m' := 131071) ?hw213_16 (by kernel_rfl) (by kernel_rfl) (fun _ _ _ h => h) (Or.inl ⟨?sw213_16, ?yw213_16⟩) (by assumption) ?nw213_16
        case hw213_16 => simp only [List.getElem?_toArray, List.getElem?_cons_succ, List.getElem?_cons_zero]; rfl
        case sw213_16 => rfl
        case yw213_16 => (intro w hSw; (try dsimp only at hSw); go_simp <;> with_reducible rfl)
        try simp only [Act.put, List.setIfInBounds_toArray, List.set_cons_zero, List.set_cons_succ]
        refine hR.take (i := 17) (oi := ?ow214_17) (v := ?vw214_17) (m' := 262143) ?hw214_17 (by kernel_rfl) (by kernel_rfl) (fun _ _ _ h => h) (Or.inl ⟨?sw214_17, ?yw214_17⟩) (by assumption) ?nw214_17
        case hw214_17 => simp only [List.getElem?_toArray, List.getElem?_cons_succ, List.getElem?_cons_zero]; rfl
        case sw214_17 => rfl
        case yw214_17 => (intro w hSw; (try dsimp only at hSw); go_simp <;> with_reducible rfl)
        try simp only [Act.put, List.setIfInBounds_toArray, List.set_cons_zero, List.set_cons_succ]
        refine hR.take (i := 18) (oi := ?ow215_18) (v := ?vw215_18) (m' := 524287) ?hw215_18 (by kernel_rfl) (by kernel_rfl) (fun _ _ _ h => h) (Or.inl ⟨?sw215_18, ?yw215_18⟩) (by assumption) ?nw215_18
        case hw215_18 => simp only [List.getElem?_toArray, List.getElem?_cons_succ, List.getElem?_cons_zero]; rfl
        case sw215_18 => rfl
        case yw215_18 => (intro w hSw; (try dsimp only at hSw); go_simp <;> with_reducible rfl)
        try simp only [Act.put, List.setIfInBounds_toArray, List.set_cons_zero, List.set_cons_succ]
        refine hR.take (i := 19) (oi := ?ow216_19) (v := ?vw216_19) (m' := 1048575) ?hw216_19 (by kernel_rfl) (by kernel_rfl) (fun _ _ _ h => h) (Or.inl ⟨?sw216_19, ?yw216_19⟩) (by assumption) ?nw216_19
        case hw216_19 => simp only [List.getElem?_toArray, List.getElem?_cons_succ, List.getElem?_cons_zero]; rfl
        case sw216_19 => rfl
        case yw216_19 => (intro w hSw; (try dsimp only at hSw); go_simp <;> with_reducible rfl)
        try simp only [Act.put, List.setIfInBounds_toArray, List.set_cons_zero, List.set_cons_succ]
        refine hR.take (i := 20) (oi := ?ow217_20) (v := ?vw217_20) (m' := 2097151) ?hw217_20 (by kernel_rfl) (by kernel_rfl) (fun _ _ _ h => h) (Or.inl ⟨?sw217_20, ?yw217_20⟩) (by assumption) ?nw217_20
        case hw217_20 => simp only [List.getElem?_toArray, List.getElem?_cons_succ, List.getElem?_cons_zero]; rfl
        case sw217_20 => rfl
        case yw217_20 => (intro w hSw; (try dsimp only at hSw); go_simp <;> with_reducible rfl)
        try simp only [Act.put, List.setIfInBounds_toArray, List.set_cons_zero, List.set_cons_succ]
        refine hR.take (i := 21) (oi := ?ow218_21) (v := ?vw218_21) (m' := 4194303) ?hw218_21 (by kernel_rfl) (by kernel_rfl) (fun _ _ _ h => h) (Or.inl ⟨?sw218_21, ?yw218_21⟩) (by assumption) ?nw218_21
        case hw218_21 => simp only [List.getElem?_toArray, List.getElem?_cons_succ, List.getElem?_cons_zero]; rfl
        case sw218_21 => rfl
        case yw218_21 => (intro w hSw; (try dsimp only at hSw); go_simp <;> with_reducible rfl)
        try simp only [Act.put, List.setIfInBounds_toArray, List.set_cons_zero, List.set_cons_succ]
        refine hR.take (i := 22) (oi := ?ow219_22) (v := ?vw219_22) (m' := 8388607) ?hw219_22 (by kernel_rfl) (by kernel_rfl) (fun _ _ _ h => h) (Or.inl ⟨?sw219_22, ?yw219_22⟩) (by assumption) ?nw219_22
        case hw219_22 => simp only [List.getElem?_toArray, List.getElem?_cons_succ, List.getElem?_cons_zero]; rfl
        case sw219_22 => rfl
        case yw219_22 => (intro w hSw; (try dsimp only at hSw); go_simp <;> with_reducible rfl)
        try simp only [Act.put, List.setIfInBounds_toArray, List.set_cons_zero, List.set_cons_succ]
        refine hR.take (i := 23) (oi := ?ow220_23) (v := ?vw220_23) (m' := 16777215) ?hw220_23 (by kernel_rfl) (by kernel_rfl) (fun _ _ _ h => h) (Or.inl ⟨?sw220_23, ?yw220_23⟩) (by assumption) ?nw220_23
        case hw220_23 => simp only [List.getElem?_toArray, List.getElem?_cons_succ, List.getElem?_cons_zero]; rfl
        case sw220_23 => rfl
        case yw220_23 => (intro w hSw; (try dsimp only at hSw); go_simp <;> with_reducible rfl)
        try simp only [Act.put, List.setIfInBounds_toArray, List.set_cons_zero, List.set_cons_succ]
        refine hR.take (i := 24) (oi := ?ow221_24) (v := ?vw221_24) (m' := 33554431) ?hw221_24 (by kernel_rfl) (by kernel_rfl) (fun _ _ _ h => h) (Or.inl ⟨?sw221_24, ?yw221_24⟩) (by assumption) ?nw221_24
        case hw221_24 => simp only [List.getElem?_toArray, List.getElem?_cons_succ, List.getElem?_cons_zero]; rfl
        case sw221_24 => rfl
        case yw221_24 => (intro w hSw; (try dsimp only at hSw); go_simp <;> with_reducible rfl)
        try simp only [Act.put, List.setIfInBounds_toArray, List.set_cons_zero, List.set_cons_succ]
        refine hR.take (i := 25) (oi := ?ow222_25) (v := ?vw222_25) (m' := 67108863) ?hw222_25 (by kernel_rfl) (by kernel_rfl) (fun _ _ _ h => h) (Or.inl ⟨?sw222_25, ?yw222_25⟩) (by assumption) ?nw222_25
        case hw222_25 => simp only [List.getElem?_toArray, List.getElem?_cons_succ, List.getElem?_cons_zero]; rfl
        case sw222_25 => rfl
        case yw222_25 => (intro w hSw; (try dsimp only at hSw); go_simp <;> with_reducible rfl)
        try simp only [Act.put, List.setIfInBounds_toArray, List.set_cons_zero, List.set_cons_succ]
        refine hR.take (i := 26) (oi := ?ow223_26) (v := ?vw223_26) (m' := 134217727) ?hw223_26 (by kernel_rfl) (by kernel_rfl) (fun _ _ _ h => h) (Or.inl ⟨?sw223_26, ?yw223_26⟩) (by assumption) ?nw223_26
        case hw223_26 => simp only [List.getElem?_toArray, List.getElem?_cons_succ, List.getElem?_cons_zero]; rfl
        case sw223_26 => rfl
        case yw223_26 => (intro w hSw; (try dsimp only at hSw); go_simp <;> with_reducible rfl)
        try simp only [Act.put, List.setIfInBounds_toArray, List.set_cons_zero, List.set_cons_succ]
        refine hR.take (i := 27) (oi := ?ow224_27) (v := ?vw224_27) (m' := 268435455) ?hw224_27 (by kernel_rfl) (by kernel_rfl) (fun _ _ _ h => h) (Or.inl ⟨?sw224_27, ?yw224_27⟩) (by assumption) ?nw224_27
        case hw224_27 => simp only [List.getElem?_toArray, List.getElem?_cons_succ, List.getElem?_cons_zero]; rfl
        case sw224_27 => rfl
        case yw224_27 => (intro w hSw; (try dsimp only at hSw); go_simp <;> with_reducible rfl)
        try simp only [Act.put, List.setIfInBounds_toArray, List.set_cons_zero, List.set_cons_succ]
        refine hR.take (i := 28) (oi := ?ow225_28) (v := ?vw225_28) (m' := 536870911) ?hw225_28 (by kernel_rfl) (by kernel_rfl) (fun _ _ _ h => h) (Or.inl ⟨?sw225_28, ?yw225_28⟩) (by assumption) ?nw225_28
        case hw225_28 => simp only [List.getElem?_toArray, List.getElem?_cons_succ, List.getElem?_cons_zero]; rfl
        case sw225_28 => rfl
        case yw225_28 => (intro w hSw; (try dsimp only at hSw); go_simp <;> with_reducible rfl)
        try simp only [Act.put, List.setIfInBounds_toArray, List.set_cons_zero, List.set_cons_succ]
        refine hR.take (i := 29) (oi := ?ow226_29) (v := ?vw226_29) (m' := 1073741823) ?hw226_29 (by kernel_rfl) (by kernel_rfl) (fun _ _ _ h => h) (Or.inl ⟨?sw226_29, ?yw226_29⟩) (by assumption) ?nw226_29
        case hw226_29 => simp only [List.getElem?_toArray, List.getElem?_cons_succ, List.getElem?_cons_zero]; rfl
        case sw226_29 => rfl
        case yw226_29 => (intro w hSw; (try dsimp only at hSw); go_simp <;> with_reducible rfl)
        try simp only [Act.put, List.setIfInBounds_toArray, List.set_cons_zero, List.set_cons_succ]
        refine hR.take (i := 30) (oi := ?ow227_30) (v := ?vw227_30) (m' := 2147483647) ?hw227_30 (by kernel_rfl) (by kernel_rfl) (fun _ _ _ h => h) (Or.inl ⟨?sw227_30, ?yw227_30⟩) (by assumption) ?nw227_30
        case hw227_30 => simp only [List.getElem?_toArray, List.getElem?_cons_succ, List.getElem?_cons_zero]; rfl
        case sw227_30 => rfl
        case yw227_30 => (intro w hSw; (try dsimp only at hSw); go_simp <;> with_reducible rfl)
        try simp only [Act.put, List.setIfInBounds_toArray, List.set_cons_zero, List.set_cons_succ]
        refine hR.take (i := 31) (oi := ?ow228_31) (v := ?vw228_31) (m' := 4294967295) ?hw228_31 (by kernel_rfl) (by kernel_rfl) (fun _ _ _ h => h) (Or.inl ⟨?sw228_31, ?yw228_31⟩) (by assumption) ?nw228_31
        case hw228_31 => simp only [List.getElem?_toArray, List.getElem?_cons_succ, List.getElem?_cons_zero]; rfl
        case sw228_31 => rfl
        case yw228_31 => (intro w hSw; (try dsimp only at hSw); go_simp <;> with_reducible rfl)
        try simp only [Act.put, List.setIfInBounds_toArray, List.set_cons_zero, List.set_cons_succ]
        refine hR.take (i := 32) (oi := ?ow229_32) (v := ?vw229_32) (m' := 8589934591) ?hw229_32 (by kernel_rfl) (by kernel_rfl) (fun _ _ _ h => h) (Or.inl ⟨?sw229_32, ?yw229_32⟩) (by assumption) ?nw229_32
        case hw229_32 => simp only [List.getElem?_toArray, List.getElem?_cons_succ, List.getElem?_cons_zero]; rfl
        case sw229_32 => rfl
        case yw229_32 => (intro w hSw; (try dsimp only at hSw); go_simp <;> with_reducible rfl)
        try simp only [Act.put, List.setIfInBounds_toArray, List.set_cons_zero, List.set_cons_succ]
        refine hR.take (i := 33) (oi := ?ow230_33) (v := ?vw230_33) (m' := 17179869183) ?hw230_33 (by kernel_rfl) (by kernel_rfl) (fun _ _ _ h => h) (Or.inl ⟨?sw230_33, ?yw230_33⟩) (by assumption) ?nw230_33
        case hw230_33 => simp only [List.getElem?_toArray, List.getElem?_cons_succ, List.getElem?_cons_zero]; rfl
        case sw230_33 => rfl
        case yw230_33 => (intro w hSw; (try dsimp only at hSw); go_simp <;> with_reducible rfl)
        try simp only [Act.put, List.setIfInBounds_toArray, List.set_cons_zero, List.set_cons_succ]
        refine hR.take (i := 34) (oi := ?ow231_34) (v := ?vw231_34) (m' := 34359738367) ?hw231_34 (by kernel_rfl) (by kernel_rfl) (fun _ _ _ h => h) (Or.inl ⟨?sw231_34, ?yw231_34⟩) (by assumption) ?nw231_34
        case hw231_34 => simp only [List.getElem?_toArray, List.getElem?_cons_succ, List.getElem?_cons_zero]; rfl
        case sw231_34 => rfl
        case yw231_34 => (intro w hSw; (try dsimp only at hSw); go_simp <;> with_reducible rfl)
        try simp only [Act.put, List.setIfInBounds_toArray, List.set_cons_zero, List.set_cons_succ]
        refine hR.take (i := 35) (oi := ?ow232_35) (v := ?vw232_35) (m' := 68719476735) ?hw232_35 (by kernel_rfl) (by kernel_rfl) (fun _ _ _ h => h) (Or.inl ⟨?sw232_35, ?yw232_35⟩) (by assumption) ?nw232_35
        case hw232_35 => simp only [List.getElem?_toArray, List.getElem?_cons_succ, List.getElem?_cons_zero]; rfl
        case sw232_35 => rfl
        case yw232_35 => (intro w hSw; (try dsimp only at hSw); go_simp <;> with_reducible rfl)
        try simp only [Act.put, List.setIfInBounds_toArray, List.set_cons_zero, List.set_cons_succ]
        refine hR.take (i := 36) (oi := ?ow233_36) (v := ?vw233_36) (m' := 137438953471) ?hw233_36 (by kernel_rfl) (by kernel_rfl) (fun _ _ _ h => h) (Or.inl ⟨?sw233_36, ?yw233_36⟩) (by assumption) ?nw233_36
        case hw233_36 => simp only [List.getElem?_toArray, List.getElem?_cons_succ, List.getElem?_cons_zero]; rfl
        case sw233_36 => rfl
        case yw233_36 => (intro w hSw; (try dsimp only at hSw); go_simp <;> with_reducible rfl)
        try simp only [Act.put, List.setIfInBounds_toArray, List.set_cons_zero, List.set_cons_succ]
        refine hR.take (i := 37) (oi := ?ow234_37) (v := ?vw234_37) (m' := 274877906943) ?hw234_37 (by kernel_rfl) (by kernel_rfl) (fun _ _ _ h => h) (Or.inl ⟨?sw234_37, ?yw234_37⟩) (by assumption) ?nw234_37
        case hw234_37 => simp only [List.getElem?_toArray, List.getElem?_cons_succ, List.getElem?_cons_zero]; rfl
        case sw234_37 => rfl
        case yw234_37 => (intro w hSw; (try dsimp only at hSw); go_simp <;> with_reducible rfl)
        try simp only [Act.put, List.setIfInBounds_toArray, List.set_cons_zero, List.set_cons_succ]
        refine hR.take (i := 38) (oi := ?ow235_38) (v := ?vw235_38) (m' := 549755813887) ?hw235_38 (by kernel_rfl) (by kernel_rfl) (fun _ _ _ h => h) (Or.inl ⟨?sw235_38, ?yw235_38⟩) (by assumption) ?nw235_38
        case hw235_38 => simp only [List.getElem?_toArray, List.getElem?_cons_succ, List.getElem?_cons_zero]; rfl
        case sw235_38 => rfl
        case yw235_38 => (intro w hSw; (try dsimp only at hSw); go_simp <;> with_reducible rfl)
        try simp only [Act.put, List.setIfInBounds_toArray, List.set_cons_zero, List.set_cons_succ]
        refine hR.take (i := 39) (oi := ?ow236_39) (v := ?vw236_39) (m' := 1099511627775) ?hw236_39 (by kernel_rfl) (by kernel_rfl) (fun _ _ _ h => h) (Or.inl ⟨?sw236_39, ?yw236_39⟩) (by assumption) ?nw236_39
        case hw236_39 => simp only [List.getElem?_toArray, List.getElem?_cons_succ, List.getElem?_cons_zero]; rfl
        case sw236_39 => rfl
        case yw236_39 => (intro w hSw; (try dsimp only at hSw); go_simp <;> with_reducible rfl)
        try simp only [Act.put, List.setIfInBounds_toArray, List.set_cons_zero, List.set_cons_succ]
        refine hR.take (i := 40) (oi := ?ow237_40) (v := ?vw237_40) (m' := 2199023255551) ?hw237_40 (by kernel_rfl) (by kernel_rfl) (fun _ _ _ h => h) (Or.inl ⟨?sw237_40, ?yw237_40⟩) (by assumption) ?nw237_40
        case hw237_40 => simp only [List.getElem?_toArray, List.getElem?_cons_succ, List.getElem?_cons_zero]; rfl
        case sw237_40 => rfl
        case yw237_40 => (intro w hSw; (try dsimp only at hSw); go_simp <;> with_reducible rfl)
        try simp only [Act.put, List.setIfInBounds_toArray, List.set_cons_zero, List.set_cons_succ]
        refine hR.take (i := 41) (oi := ?ow238_41) (v := ?vw238_41) (m' := 4398046511103) ?hw238_41 (by kernel_rfl) (by kernel_rfl) (fun _ _ _ h => h) (Or.inl ⟨?sw238_41, ?yw238_41⟩) (by assumption) ?nw238_41
        case hw238_41 => simp only [List.getElem?_toArray, List.getElem?_cons_succ, List.getElem?_cons_zero]; rfl
        case sw238_41 => rfl
        case yw238_41 => (intro w hSw; (try dsimp only at hSw); go_simp <;> with_reducible rfl)
        try simp only [Act.put, List.setIfInBounds_toArray, List.set_cons_zero, List.set_cons_succ]
        refine hR.take (i := 42) (oi := ?ow239_42) (v := ?vw239_42) (m' := 8796093022207) ?hw239_42 (by kernel_rfl) (by kernel_rfl) (fun _ _ _ h => h) (Or.inl ⟨?sw239_42, ?yw239_42⟩) (by assumption) ?nw239_42
        case hw239_42 => simp only [List.getElem?_toArray, List.getElem?_cons_succ, List.getElem?_cons_zero]; rfl
        case sw239_42 => rfl
        case yw239_42 => (intro w hSw; (try dsimp only at hSw); go_simp <;> with_reducible rfl)
        try simp only [Act.put, List.setIfInBounds_toArray, List.set_cons_zero, List.set_cons_succ]
        refine hR.take (i := 43) (oi := ?ow240_43) (v := ?vw240_43) (m' := 17592186044415) ?hw240_43 (by kernel_rfl) (by kernel_rfl) (fun _ _ _ h => h) (Or.inl ⟨?sw240_43, ?yw240_43⟩) (by assumption) ?nw240_43
        case hw240_43 => simp only [List.getElem?_toArray, List.getElem?_cons_succ, List.getElem?_cons_zero]; rfl
        case sw240_43 => rfl
        case yw240_43 => (intro w hSw; (try dsimp only at hSw); go_simp <;> with_reducible rfl)
        try simp only [Act.put, List.setIfInBounds_toArray, List.set_cons_zero, List.set_cons_succ]
        refine hR.take (i := 44) (oi := ?ow241_44) (v := ?vw241_44) (m' := 35184372088831) ?hw241_44 (by kernel_rfl) (by kernel_rfl) (fun _ _ _ h => h) (Or.inl ⟨?sw241_44, ?yw241_44⟩) (by assumption) ?nw241_44
        case hw241_44 => simp only [List.getElem?_toArray, List.getElem?_cons_succ, List.getElem?_cons_zero]; rfl
        case sw241_44 => rfl
        case yw241_44 => (intro w hSw; (try dsimp only at hSw); go_simp <;> with_reducible rfl)
        try simp only [Act.put, List.setIfInBounds_toArray, List.set_cons_zero, List.set_cons_succ]
        refine hR.take (i := 45) (oi := ?ow242_45) (v := ?vw242_45) (m' := 70368744177663) ?hw242_45 (by kernel_rfl) (by kernel_rfl) (fun _ _ _ h => h) (Or.inl ⟨?sw242_45, ?yw242_45⟩) (by assumption) ?nw242_45
        case hw242_45 => simp only [List.getElem?_toArray, List.getElem?_cons_succ, List.getElem?_cons_zero]; rfl
        case sw242_45 => rfl
        case yw242_45 => (intro w hSw; (try dsimp only at hSw); go_simp <;> with_reducible rfl)
        try simp only [Act.put, List.setIfInBounds_toArray, List.set_cons_zero, List.set_cons_succ]
        refine hR.come (rs := [46]) (by kernel_rfl) (by simp) ?_
        refine AllReadyH.cons (o := ?o243_46) ?h243_46 (fun K hK => ?kw243_46) AllReadyH.nil
        case h243_46 => simp only [List.getElem?_toArray, List.getElem?_cons_succ, List.getElem?_cons_zero]; rfl
        go_simp
        go_at_call 26; refine (maxRef _ _).mono ?_; rintro e w2 ⟨rfl, rfl⟩
        refine hK.out _ _ ?_ (fun hHeld => ?_)
        · (first | with_reducible assumption | (with_reducible refine Below.drew ?_; with_reducible assumption) | (with_reducible refine ba _ _ ?_; with_reducible assumption) | (with_reducible refine Below.drew ?_; with_reducible refine ba _ _ ?_; with_reducible assumption) | exact Below.refl _ _ | exact (Below.refl _ _).drew | exact (Below.refl _ _).alloc (Nat.le_refl _) _ | (refine bc _ _ (by assumption) (by assumption)))
        clear hK K
        refine RegOk.put_ (m' := 140737488355327) (by kernel_rfl) ?_
        try simp only [Act.put, List.setIfInBounds_toArray, List.set_cons_zero, List.set_cons_succ]
        refine hR.take (i := 47) (oi := ?ow244_47) (v := ?vw244_47) (m' := 281474976710655) ?hw244_47 (by kernel_rfl) (by kernel_rfl) (fun _ _ _ h => h) (Or.inl ⟨?sw244_47, ?yw244_47⟩) (by assumption) ?nw244_47
        case hw244_47 => simp only [List.getElem?_toArray, List.getElem?_cons_succ, List.getElem?_cons_zero]; rfl
        case sw244_47 => rfl
        case yw244_47 => (intro w hSw; (try dsimp only at hSw); go_simp <;> with_reducible rfl)
        try simp only [Act.put, List.setIfInBounds_toArray, List.set_cons_zero, List.set_cons_succ]
        refine hR.take (i := 48) (oi := ?ow245_48) (v := ?vw245_48) (m' := 562949953421311) ?hw245_48 (by kernel_rfl) (by kernel_rfl) (fun _ _ _ h => h) (Or.inl ⟨?sw245_48, ?yw245_48⟩) (by assumption) ?nw245_48
        case hw245_48 => simp only [List.getElem?_toArray, List.getElem?_cons_succ, List.getElem?_cons_zero]; rfl
        case sw245_48 => rfl
        case yw245_48 => (intro w hSw; (try dsimp only at hSw); go_simp <;> with_reducible rfl)
        try simp only [Act.put, List.setIfInBounds_toArray, List.set_cons_zero, List.set_cons_succ]
        refine hR.all (by kernel_rfl) ?_ _
        refine NoPanic.normal ?_
        go_wp2_with fail
        go_ret
        exact ⟨ret_b (not_cd (List.mem_of_getElem? Hx.out) hv.out).symm, Hb.out.drew⟩
      · have f5 : (maxC x.col < x.hi) = False := eq_false c5
        have hv := Lib.hid (show validCdB x = true from decide_eq_true (by unfold ValidCd; omega))
        refine wp_region_noPanic ?_
        refine wp_region_held_drew (S := fun X => Below wr.heap.size wr X) (by kernel_rfl) ?_ (fun hHeld => ?_)
        · (first | with_reducible assumption | (with_reducible refine Below.drew ?_; with_reducible assumption) | (with_reducible refine ba _ _ ?_; with_reducible assumption) | (with_reducible refine Below.drew ?_; with_reducible refine ba _ _ ?_; with_reducible assumption) | exact Below.refl _ _ | exact (Below.refl _ _).drew | exact (Below.refl _ _).alloc (Nat.le_refl _) _ | (refine bc _ _ (by assumption) (by assumption)))
        refine RegOk.begin_ (n := 49) (T := q5A) ⟨by kernel_rfl, by kernel_rfl, by kernel_rfl, by kernel_rfl⟩ fun hR => ?_
        refine hR.take (i := 0) (oi := ?ow246_0) (v := ?vw246_0) (m' := 1) ?hw246_0 (by kernel_rfl) (by kernel_rfl) (fun _ _ _ h => h) (Or.inl ⟨?sw246_0, ?yw246_0⟩) (by assumption) ?nw246_0
        case hw246_0 => simp only [List.getElem?_toArray, List.getElem?_cons_succ, List.getElem?_cons_zero]; rfl
        case sw246_0 => rfl
        case yw246_0 => (intro w hSw; (try dsimp only at hSw); go_simp <;> with_reducible rfl)
        try simp only [Act.put, List.setIfInBounds_toArray, List.set_cons_zero, List.set_cons_succ]
        refine hR.take (i := 1) (oi := ?ow247_1) (v := ?vw247_1) (m' := 3) ?hw247_1 (by kernel_rfl) (by kernel_rfl) (fun _ _ _ h => h) (Or.inl ⟨?sw247_1, ?yw247_1⟩) (by assumption) ?nw247_1
        case hw247_1 => simp only [List.getElem?_toArray, List.getElem?_cons_succ, List.getElem?_cons_zero]; rfl
        case sw247_1 => rfl
        case yw247_1 => (intro w hSw; (try dsimp only at hSw); go_simp <;> with_reducible rfl)
        try simp only [Act.put, List.setIfInBounds_toArray, List.set_cons_zero, List.set_cons_succ]
        refine hR.take (i := 2) (oi := ?ow248_2) (v := ?vw248_2) (m' := 7) ?hw248_2 (by kernel_rfl) (by kernel_rfl) (fun _ _ _ h => h) (Or.inl ⟨?sw248_2, ?yw248_2⟩) (by assumption) ?nw248_2
        case hw248_2 => simp only [List.getElem?_toArray, List.getElem?_cons_succ, List.getElem?_cons_zero]; rfl
        case sw248_2 => rfl
        case yw248_2 => (intro w hSw; (try dsimp only at hSw); go_simp <;> with_reducible rfl)
        try simp only [Act.put, List.setIfInBounds_toArray, List.set_cons_zero, List.set_cons_succ]
        refine hR.take (i := 3) (oi := ?ow249_3) (v := ?vw249_3) (m' := 15) ?hw249_3 (by kernel_rfl) (by kernel_rfl) (fun _ _ _ h => h) (Or.inl ⟨?sw249_3, ?yw249_3⟩) (by assumption) ?nw249_3
        case hw249_3 => simp only [List.getElem?_toArray, List.getElem?_cons_succ, List.getElem?_cons_zero]; rfl
        case sw249_3 => rfl
        case yw249_3 => (intro w hSw; (try dsimp only at hSw); go_simp <;> with_reducible rfl)
        try simp only [Act.put, List.setIfInBounds_toArray, List.set_cons_zero, List.set_cons_succ]
        refine hR.take (i := 4) (oi := ?ow250_4) (v := ?vw250_4) (m' := 31) ?hw250_4 (by kernel_rfl) (by kernel_rfl) (fun _ _ _ h => h) (Or.inl ⟨?sw250_4, ?yw250_4⟩) (by assumption) ?nw250_4
        case hw250_4 => simp only [List.getElem?_toArray, List.getElem?_cons_succ, List.getElem?_cons_zero]; rfl
        case sw250_4 => rfl
        case yw250_4 => (intro w hSw; (try dsimp only at hSw); go_simp <;> with_reducible rfl)
        try simp only [Act.put, List.setIfInBounds_toArray, List.set_cons_zero, List.set_cons_succ]
        refine hR.take (i := 5) (oi := ?ow251_5) (v := ?vw251_5) (m' := 63) ?hw251_5 (by kernel_rfl) (by kernel_rfl) (fun _ _ _ h => h) (Or.inl ⟨?sw251_5, ?yw251_5⟩) (by assumption) ?nw251_5
        case hw251_5 => simp only [List.getElem?_toArray, List.getElem?_cons_succ, List.getElem?_cons_zero]; rfl
        case sw251_5 => rfl
        case yw251_5 => (intro w hSw; (try dsimp only at hSw); go_simp <;> with_reducible rfl)
        try simp only [Act.put, List.setIfInBounds_toArray, List.set_cons_zero, List.set_cons_succ]
        refine hR.take (i := 6) (oi := ?ow252_6) (v := ?vw252_6) (m' := 127) ?hw252_6 (by kernel_rfl) (by kernel_rfl) (fun _ _ _ h => h) (Or.inl ⟨?sw252_6, ?yw252_6⟩) (by assumption) ?nw252_6
        case hw252_6 => simp only [List.getElem?_toArray, List.getElem?_cons_succ, List.getElem?_cons_zero]; rfl
        case sw252_6 => rfl
        case yw252_6 => (intro w hSw; (try dsimp only at hSw); go_simp <;> with_reducible rfl)
        try simp only [Act.put, List.setIfInBounds_toArray, List.set_cons_zero, List.set_cons_succ]
        refine hR.take (i := 7) (oi := ?ow253_7) (v := ?vw253_7) (m' := 255) ?hw253_7 (by kernel_rfl) (by kernel_rfl) (fun _ _ _ h => h) (Or.inl ⟨?sw253_7, ?yw253_7⟩) (by assumption) ?nw253_7
        case hw253_7 => simp only [List.getElem?_toArray, List.getElem?_cons_succ, List.getElem?_cons_zero]; rfl
        case sw253_7 => rfl
        case yw253_7 => (intro w hSw; (try dsimp only at hSw); go_simp <;> with_reducible rfl)
        try simp only [Act.put, List.setIfInBounds_toArray, List.set_cons_zero, List.set_cons_succ]
        refine hR.take (i := 8) (oi := ?ow254_8) (v := ?vw254_8) (m' := 511) ?hw254_8 (by kernel_rfl) (by kernel_rfl) (fun _ _ _ h => h) (Or.inl ⟨?sw254_8, ?yw254_8⟩) (by assumption) ?nw254_8
        case hw254_8 => simp only [List.getElem?_toArray, List.getElem?_cons_succ, List.getElem?_cons_zero]; rfl
        case sw254_8 => rfl
        case yw254_8 => (intro w hSw; (try dsimp only at hSw); go_simp <;> with_reducible rfl)
        try simp only [Act.put, List.setIfInBounds_toArray, List.set_cons_zero, List.set_cons_succ]
        refine hR.take (i := 9) (oi := ?ow255_9) (v := ?vw255_9) (m' := 1023) ?hw255_9 (by kernel_rfl) (by kernel_rfl) (fun _ _ _ h => h) (Or.inl ⟨?sw255_9, ?yw255_9⟩) (by assumption) ?nw255_9
        case hw255_9 => simp only [List.getElem?_toArray, List.getElem?_cons_succ, List.getElem?_cons_zero]; rfl
        case sw255_9 => rfl
        case yw255_9 => (intro w hSw; (try dsimp only at hSw); go_simp <;> with_reducible rfl)
        try simp only [Act.put, List.setIfInBounds_toArray, List.set_cons_zero, List.set_cons_succ]
        refine hR.take (i := 10) (oi := ?ow256_10) (v := ?vw256_10) (m' := 2047) ?hw256_10 (by kernel_rfl) (by kernel_rfl) (fun _ _ _ h => h) (Or.inl ⟨?sw256_10, ?yw256_10⟩) (by assumption) ?nw256_10
        case hw256_10 => simp only [List.getElem?_toArray, List.getElem?_cons_succ, List.getElem?_cons_zero]; rfl
        case sw256_10 => rfl
        case yw256_10 => (intro w hSw; (try dsimp only at hSw); go_simp <;> with_reducible rfl)
        try simp only [Act.put, List.setIfInBounds_toArray, List.set_cons_zero, List.set_cons_succ]
        refine hR.take (i := 11) (oi := ?ow257_11) (v := ?vw257_11) (m' := 4095) ?hw257_11 (by kernel_rfl) (by kernel_rfl) (fun _ _ _ h => h) (Or.inl ⟨?sw257_11, ?yw257_11⟩) (by assumption) ?nw257_11
        case hw257_11 => simp only [List.getElem?_toArray, List.getElem?_cons_succ, List.getElem?_cons_zero]; rfl
        case sw257_11 => rfl
        case yw257_11 => (intro w hSw; (try dsimp only at hSw); go_simp <;> with_reducible rfl)
        try simp only [Act.put, List.setIfInBounds_toArray, List.set_cons_zero, List.set_cons_succ]
        refine hR.take (i := 12) (oi := ?ow258_12) (v := ?vw258_12) (m' := 8191) ?hw258_12 (by kernel_rfl) (by kernel_rfl) (fun _ _ _ h => h) (Or.inl ⟨?sw258_12, ?yw258_12⟩) (by assumption) ?nw258_12
        case hw258_12 => simp only [List.getElem?_toArray, List.getElem?_cons_succ, List.getElem?_cons_zero]; rfl
        case sw258_12 => rfl
        case yw258_12 => (intro w hSw; (try dsimp only at hSw); go_simp <;> with_reducible rfl)
        try simp only [Act.put, List.setIfInBounds_toArray, List.set_cons_zero, List.set_cons_succ]
        refine hR.take (i := 13) (oi := ?ow259_13) (v := ?vw259_13) (m' := 16383) ?hw259_13 (by kernel_rfl) (by kernel_rfl) (fun _ _ _ h => h) (Or.inl ⟨?sw259_13, ?yw259_13⟩) (by assumption) ?nw259_13
        case hw259_13 => simp only [List.getElem?_toArray, List.getElem?_cons_succ, List.getElem?_cons_zero]; rfl
        case sw259_13 => rfl
        case yw259_13 => (intro w hSw; (try dsimp only at hSw); go_simp <;> with_reducible rfl)
        try simp only [Act.put, List.setIfInBounds_toArray, List.set_cons_zero, List.set_cons_succ]
        refine hR.take (i := 14) (oi := ?ow260_14) (v := ?vw260_14) (m' := 32767) ?hw260_14 (by kernel_rfl) (by kernel_rfl) (fun _ _ _ h => h) (Or.inl ⟨?sw260_14, ?yw260_14⟩) (by assumption) ?nw260_14
        case hw260_14 => simp only [List.getElem?_toArray, List.getElem?_cons_succ, List.getElem?_cons_zero]; rfl
        case sw260_14 => rfl
        case yw260_14 => (intro w hSw; (try dsimp only at hSw); go_simp <;> with_reducible rfl)
        try simp only [Act.put, List.setIfInBounds_toArray, List.set_cons_zero, List.set_cons_succ]
        refine hR.take (i := 15) (oi := ?ow261_15) (v := ?vw261_15) (m' := 65535) ?hw261_15 (by kernel_rfl) (by kernel_rfl) (fun _ _ _ h => h) (Or.inl ⟨?sw261_15, ?yw261_15⟩) (by assumption) ?nw261_15
        case hw261_15 => simp only [List.getElem?_toArray, List.getElem?_cons_succ, List.getElem?_cons_zero]; rfl
        case sw261_15 => rfl
        case yw261_15 => (intro w hSw; (try dsimp only at hSw); go_simp <;> with_reducible rfl)
        try simp only [Act.put, List.setIfInBounds_toArray, List.set_cons_zero, List.set_cons_succ]
        refine hR.take (i := 16) (oi := ?ow262_16) (v := ?vw262_16) (m' := 131071) ?hw262_16 (by kernel_rfl) (by kernel_rfl) (fun _ _ _ h => h) (Or.inl ⟨?sw262_16, ?yw262_16⟩) (by assumption) ?nw262_16
        case hw262_16 => simp only [List.getElem?_toArray, List.getElem?_cons_succ, List.getElem?_cons_zero]; rfl
        case sw262_16 => rfl
        case yw262_16 => (intro w hSw; (try dsimp only at hSw); go_simp <;> with_reducible rfl)
        try simp only [Act.put, List.setIfInBounds_toArray, List.set_cons_zero, List.set_cons_succ]
        refine hR.take (i := 17) (oi := ?ow263_17) (v := ?vw263_17) (m' := 262143) ?hw263_17 (by kernel_rfl) (by kernel_rfl) (fun _ _ _ h => h) (Or.inl ⟨?sw263_17, ?yw263_17⟩) (by assumption) ?nw263_17
        case hw263_17 => simp only [List.getElem?_toArray, List.getElem?_cons_succ, List.getElem?_cons_zero]; rfl
        case sw263_17 => rfl
        case yw263_17 => (intro w hSw; (try dsimp only at hSw); go_simp <;> with_reducible rfl)
        try simp only [Act.put, List.setIfInBounds_toArray, List.set_cons_zero, List.set_cons_succ]
        refine hR.take (i := 18) (oi := ?ow264_18) (v := ?vw264_18) (m' := 524287) ?hw264_18 (by kernel_rfl) (by kernel_rfl) (fun _ _ _ h => h) (Or.inl ⟨?sw264_18, ?yw264_18⟩) (by assumption) ?nw264_18
        case hw264_18 => simp only [List.getElem?_toArray, List.getElem?_cons_succ, List.getElem?_cons_zero]; rfl
        case sw264_18 => rfl
        case yw264_18 => (intro w hSw; (try dsimp only at hSw); go_simp <;> with_reducible rfl)
        try simp only [Act.put, List.setIfInBounds_toArray, List.set_cons_zero, List.set_cons_succ]
        refine hR.take (i := 19) (oi := ?ow265_19) (v := ?vw265_19) (m' := 1048575) ?hw265_19 (by kernel_rfl) (by kernel_rfl) (fun _ _ _ h => h) (Or.inl ⟨?sw265_19, ?yw265_19⟩) (by assumption) ?nw265_19
        case hw265_19 => simp only [List.getElem?_toArray, List.getElem?_cons_succ, List.getElem?_cons_zero]; rfl
        case sw265_19 => rfl
        case yw265_19 => (intro w hSw; (try dsimp only at hSw); go_simp <;> with_reducible rfl)
        try simp only [Act.put, List.setIfInBounds_toArray, List.set_cons_zero, List.set_cons_succ]
        refine hR.take (i := 20) (oi := ?ow266_20) (v := ?vw266_20) (m' := 2097151) ?hw266_20 (by kernel_rfl) (by kernel_rfl) (fun _ _ _ h => h) (Or.inl ⟨?sw266_20, ?yw266_20⟩) (by assumption) ?nw266_20
        case hw266_20 => simp only [List.getElem?_toArray, List.getElem?_cons_succ, List.getElem?_cons_zero]; rfl
        case sw266_20 => rfl
        case yw266_20 => (intro w hSw; (try dsimp only at hSw); go_simp <;> with_reducible rfl)
        try simp only [Act.put, List.setIfInBounds_toArray, List.set_cons_zero, List.set_cons_succ]
        refine hR.take (i := 21) (oi := ?ow267_21) (v := ?vw267_21) (m' := 4194303) ?hw267_21 (by kernel_rfl) (by kernel_rfl) (fun _ _ _ h => h) (Or.inl ⟨?sw267_21, ?yw267_21⟩) (by assumption) ?nw267_21
        case hw267_21 => simp only [List.getElem?_toArray, List.getElem?_cons_succ, List.getElem?_cons_zero]; rfl
        case sw267_21 => rfl
        case yw267_21 => (intro w hSw; (try dsimp only at hSw); go_simp <;> with_reducible rfl)
        try simp only [Act.put, List.setIfInBounds_toArray, List.set_cons_zero, List.set_cons_succ]
        refine hR.take (i := 22) (oi := ?ow268_22) (v := ?vw268_22) (m' := 8388607) ?hw268_22 (by kernel_rfl) (by kernel_rfl) (fun _ _ _ h => h) (Or.inl ⟨?sw268_22, ?yw268_22⟩) (by assumption) ?nw268_22
        case hw268_22 => simp only [List.getElem?_toArray, List.getElem?_cons_succ, List.getElem?_cons_zero]; rfl
        case sw268_22 => rfl
        case yw268_22 => (intro w hSw; (try dsimp only at hSw); go_simp <;> with_reducible rfl)
        try simp only [Act.put, List.setIfInBounds_toArray, List.set_cons_zero, List.set_cons_succ]
        refine hR.take (i := 23) (oi := ?ow269_23) (v := ?vw269_23) (m' := 16777215) ?hw269_23 (by kernel_rfl) (by kernel_rfl) (fun _ _ _ h => h) (Or.inl ⟨?sw269_23, ?yw269_23⟩) (by assumption) ?nw269_23
        case hw269_23 => simp only [List.getElem?_toArray, List.getElem?_cons_succ, List.getElem?_cons_zero]; rfl
        case sw269_23 => rfl
        case yw269_23 => (intro w hSw; (try dsimp only at hSw); go_simp <;> with_reducible rfl)
        try simp only [Act.put, List.setIfInBounds_toArray, List.set_cons_zero, List.set_cons_succ]
        refine hR.take (i := 24) (oi := ?ow270_24) (v := ?vw270_24) (m' := 33554431) ?hw270_24 (by kernel_rfl) (by kernel_rfl) (fun _ _ _ h => h) (Or.inl ⟨?sw270_24, ?yw270_24⟩) (by assumption) ?nw270_24
        case hw270_24 => simp only [List.getElem?_toArray, List.getElem?_cons_succ, List.getElem?_cons_zero]; rfl
        case sw270_24 => rfl
        case yw270_24 => (intro w hSw; (try dsimp only at hSw); go_simp <;> with_reducible rfl)
        try simp only [Act.put, List.setIfInBounds_toArray, List.set_cons_zero, List.set_cons_succ]
        refine hR.take (i := 25) (oi := ?ow271_25) (v := ?vw271_25) (m' := 67108863) ?hw271_25 (by kernel_rfl) (by kernel_rfl) (fun _ _ _ h => h) (Or.inl ⟨?sw271_25, ?yw271_25⟩) (by assumption) ?nw271_25
        case hw271_25 => simp only [List.getElem?_toArray, List.getElem?_cons_succ, List.getElem?_cons_zero]; rfl
        case sw271_25 => rfl
        case yw271_25 => (intro w hSw; (try dsimp only at hSw); go_simp <;> with_reducible rfl)
        try simp only [Act.put, List.setIfInBounds_toArray, List.set_cons_zero, List.set_cons_succ]
        refine hR.take (i := 26) (oi := ?ow272_26) (v := ?vw272_26) (m' := 134217727) ?hw272_26 (by kernel_rfl) (by kernel_rfl) (fun _ _ _ h => h) (Or.inl ⟨?sw272_26, ?yw272_26⟩) (by assumption) ?nw272_26
        case hw272_26 => simp only [List.getElem?_toArray, List.getElem?_cons_succ, List.getElem?_cons_zero]; rfl
        case sw272_26 => rfl
        case yw272_26 => (intro w hSw; (try dsimp only at hSw); go_simp <;> with_reducible rfl)
        try simp only [Act.put, List.setIfInBounds_toArray, List.set_cons_zero, List.set_cons_succ]
        refine hR.take (i := 27) (oi := ?ow273_27) (v := ?vw273_27) (m' := 268435455) ?hw273_27 (by kernel_rfl) (by kernel_rfl) (fun _ _ _ h => h) (Or.inl ⟨?sw273_27, ?yw273_27⟩) (by assumption) ?nw273_27
        case hw273_27 => simp only [List.getElem?_toArray, List.getElem?_cons_succ, List.getElem?_cons_zero]; rfl
        case sw273_27 => rfl
        case yw273_27 => (intro w hSw; (try dsimp only at hSw); go_simp <;> with_reducible rfl)
        try simp only [Act.put, List.setIfInBounds_toArray, List.set_cons_zero, List.set_cons_succ]
        refine hR.take (i := 28) (oi := ?ow274_28) (v := ?vw274_28) (m' := 536870911) ?hw274_28 (by kernel_rfl) (by kernel_rfl) (fun _ _ _ h => h) (Or.inl ⟨?sw274_28, ?yw274_28⟩) (by assumption) ?nw274_28
        case hw274_28 => simp only [List.getElem?_toArray, List.getElem?_cons_succ, List.getElem?_cons_zero]; rfl
        case sw274_28 => rfl
        case yw274_28 => (intro w hSw; (try dsimp only at hSw); go_simp <;> with_reducible rfl)
        try simp only [Act.put, List.setIfInBounds_toArray, List.set_cons_zero, List.set_cons_succ]
        refine hR.take (i := 29) (oi := ?ow275_29) (v := ?vw275_29) (m' := 1073741823) ?hw275_29 (by kernel_rfl) (by kernel_rfl) (fun _ _ _ h => h) (Or.inl ⟨?sw275_29, ?yw275_29⟩) (by assumption) ?nw275_29
        case hw275_29 => simp only [List.getElem?_toArray, List.getElem?_cons_succ, List.getElem?_cons_zero]; rfl
        case sw275_29 => rfl
        case yw275_29 => (intro w hSw; (try dsimp only at hSw); go_simp <;> with_reducible rfl)
        try simp only [Act.put, List.setIfInBounds_toArray, List.set_cons_zero, List.set_cons_succ]
        refine hR.take (i := 30) (oi := ?ow276_30) (v := ?vw276_30) (m' := 2147483647) ?hw276_30 (by kernel_rfl) (by kernel_rfl) (fun _ _ _ h => h) (Or.inl ⟨?sw276_30, ?yw276_30⟩) (by assumption) ?nw276_30
        case hw276_30 => simp only [List.getElem?_toArray, List.getElem?_cons_succ, List.getElem?_cons_zero]; rfl
        case sw276_30 => rfl
        case yw276_30 => (intro w hSw; (try dsimp only at hSw); go_simp <;> with_reducible rfl)
        try simp only [Act.put, List.setIfInBounds_toArray, List.set_cons_zero, List.set_cons_succ]
        refine hR.take (i := 31) (oi := ?ow277_31) (v := ?vw277_31) (m' := 4294967295) ?hw277_31 (by kernel_rfl) (by kernel_rfl) (fun _ _ _ h => h) (Or.inl ⟨?sw277_31, ?yw277_31⟩) (by assumption) ?nw277_31
        case hw277_31 => simp only [List.getElem?_toArray, List.getElem?_cons_succ, List.getElem?_cons_zero]; rfl
        case sw277_31 => rfl
        case yw277_31 => (intro w hSw; (try dsimp only at hSw); go_simp <;> with_reducible rfl)
        try simp only [Act.put, List.setIfInBounds_toArray, List.set_cons_zero, List.set_cons_succ]
        refine hR.take (i := 32) (oi := ?ow278_32) (v := ?vw278_32) (m' := 8589934591) ?hw278_32 (by kernel_rfl) (by kernel_rfl) (fun _ _ _ h => h) (Or.inl ⟨?sw278_32, ?yw278_32⟩) (by assumption) ?nw278_32
        case hw278_32 => simp only [List.getElem?_toArray, List.getElem?_cons_succ, List.getElem?_cons_zero]; rfl
        case sw278_32 => rfl
        case yw278_32 => (intro w hSw; (try dsimp only at hSw); go_simp <;> with_reducible rfl)
        try simp only [Act.put, List.setIfInBounds_toArray, List.set_cons_zero, List.set_cons_succ]
        refine hR.take (i := 33) (oi := ?ow279_33) (v := ?vw279_33) (m' := 17179869183) ?hw279_33 (by kernel_rfl) (by kernel_rfl) (fun _ _ _ h => h) (Or.inl ⟨?sw279_33, ?yw279_33⟩) (by assumption) ?nw279_33
        case hw279_33 => simp only [List.getElem?_toArray, List.getElem?_cons_succ, List.getElem?_cons_zero]; rfl
        case sw279_33 => rfl
        case yw279_33 => (intro w hSw; (try dsimp only at hSw); go_simp <;> with_reducible rfl)
        try simp only [Act.put, List.setIfInBounds_toArray, List.set_cons_zero, List.set_cons_succ]
        refine hR.take (i := 34) (oi := ?ow280_34) (v := ?vw280_34) (m' := 34359738367) ?hw280_34 (by kernel_rfl) (by kernel_rfl) (fun _ _ _ h => h) (Or.inl ⟨?sw280_34, ?yw280_34⟩) (by assumption) ?nw280_34
        case hw280_34 => simp only [List.getElem?_toArray, List.getElem?_cons_succ, List.getElem?_cons_zero]; rfl
        case sw280_34 => rfl
        case yw280_34 => (intro w hSw; (try dsimp only at hSw); go_simp <;> with_reducible rfl)
        try simp only [Act.put, List.setIfInBounds_toArray, List.set_cons_zero, List.set_cons_succ]
        refine hR.take (i := 35) (oi := ?ow281_35) (v := ?vw281_35) (m' := 68719476735) ?hw281_35 (by kernel_rfl) (by kernel_rfl) (fun _ _ _ h => h) (Or.inl ⟨?sw281_35, ?yw281_35⟩) (by assumption) ?nw281_35
        case hw281_35 => simp only [List.getElem?_toArray, List.getElem?_cons_succ, List.getElem?_cons_zero]; rfl
        case sw281_35 => rfl
        case yw281_35 => (intro w hSw; (try dsimp only at hSw); go_simp <;> with_reducible rfl)
        try simp only [Act.put, List.setIfInBounds_toArray, List.set_cons_zero, List.set_cons_succ]
        refine hR.take (i := 36) (oi := ?ow282_36) (v := ?vw282_36) (m' := 137438953471) ?hw282_36 (by kernel_rfl) (by kernel_rfl) (fun _ _ _ h => h) (Or.inl ⟨?sw282_36, ?yw282_36⟩) (by assumption) ?nw282_36
        case hw282_36 => simp only [List.getElem?_toArray, List.getElem?_cons_succ, List.getElem?_cons_zero]; rfl
        case sw282_36 => rfl
        case yw282_36 => (intro w hSw; (try dsimp only at hSw); go_simp <;> with_reducible rfl)
        try simp only [Act.put, List.setIfInBounds_toArray, List.set_cons_zero, List.set_cons_succ]
        refine hR.take (i := 37) (oi := ?ow283_37) (v := ?vw283_37) (m' := 274877906943) ?hw283_37 (by kernel_rfl) (by kernel_rfl) (fun _ _ _ h => h) (Or.inl ⟨?sw283_37, ?yw283_37⟩) (by assumption) ?nw283_37
        case hw283_37 => simp only [List.getElem?_toArray, List.getElem?_cons_succ, List.getElem?_cons_zero]; rfl
        case sw283_37 => rfl
        case yw283_37 => (intro w hSw; (try dsimp only at hSw); go_simp <;> with_reducible rfl)
        try simp only [Act.put, List.setIfInBounds_toArray, List.set_cons_zero, List.set_cons_succ]
        refine hR.take (i := 38) (oi := ?ow284_38) (v := ?vw284_38) (m' := 549755813887) ?hw284_38 (by kernel_rfl) (by kernel_rfl) (fun _ _ _ h => h) (Or.inl ⟨?sw284_38, ?yw284_38⟩) (by assumption) ?nw284_38
        case hw284_38 => simp only [List.getElem?_toArray, List.getElem?_cons_succ, List.getElem?_cons_zero]; rfl
        case sw284_38 => rfl
        case yw284_38 => (intro w hSw; (try dsimp only at hSw); go_simp <;> with_reducible rfl)
        try simp only [Act.put, List.setIfInBounds_toArray, List.set_cons_zero, List.set_cons_succ]
        refine hR.take (i := 39) (oi := ?ow285_39) (v := ?vw285_39) (m' := 1099511627775) ?hw285_39 (by kernel_rfl) (by kernel_rfl) (fun _ _ _ h => h) (Or.inl ⟨?sw285_39, ?yw285_39⟩) (by assumption) ?nw285_39
        case hw285_39 => simp only [List.getElem?_toArray, List.getElem?_cons_succ, List.getElem?_cons_zero]; rfl
        case sw285_39 => rfl
        case yw285_39 => (intro w hSw; (try dsimp only at hSw); go_simp <;> with_reducible rfl)
        try simp only [Act.put, List.setIfInBounds_toArray, List.set_cons_zero, List.set_cons_succ]
        refine hR.take (i := 40) (oi := ?ow286_40) (v := ?vw286_40) (m' := 2199023255551) ?hw286_40 (by kernel_rfl) (by kernel_rfl) (fun _ _ _ h => h) (Or.inl ⟨?sw286_40, ?yw286_40⟩) (by assumption) ?nw286_40
        case hw286_40 => simp only [List.getElem?_toArray, List.getElem?_cons_succ, List.getElem?_cons_zero]; rfl
        case sw286_40 => rfl
        case yw286_40 => (intro w hSw; (try dsimp only at hSw); go_simp <;> with_reducible rfl)
        try simp only [Act.put, List.setIfInBounds_toArray, List.set_cons_zero, List.set_cons_succ]
        refine hR.take (i := 41) (oi := ?ow287_41) (v := ?vw287_41) (m' := 4398046511103) ?hw287_41 (by kernel_rfl) (by kernel_rfl) (fun _ _ _ h => h) (Or.inl ⟨?sw287_41, ?yw287_41⟩) (by assumption) ?nw287_41
        case hw287_41 => simp only [List.getElem?_toArray, List.getElem?_cons_succ, List.getElem?_cons_zero]; rfl
        case sw287_41 => rfl
        case yw287_41 => (intro w hSw; (try dsimp only at hSw); go_simp <;> with_reducible rfl)
        try simp only [Act.put, List.setIfInBounds_toArray, List.set_cons_zero, List.set_cons_succ]
        refine hR.take (i := 42) (oi := ?ow288_42) (v := ?vw288_42) (m' := 8796093022207) ?hw288_42 (by kernel_rfl) (by kernel_rfl) (fun _ _ _ h => h) (Or.inl ⟨?sw288_42, ?yw288_42⟩) (by assumption) ?nw288_42
        case hw288_42 => simp only [List.getElem?_toArray, List.getElem?_cons_succ, List.getElem?_cons_zero]; rfl
        case sw288_42 => rfl
        case yw288_42 => (intro w hSw; (try dsimp only at hSw); go_simp <;> with_reducible rfl)
        try simp only [Act.put, List.setIfInBounds_toArray, List.set_cons_zero, List.set_cons_succ]
        refine hR.take (i := 43) (oi := ?ow289_43) (v := ?vw289_43) (m' := 17592186044415) ?hw289_43 (by kernel_rfl) (by kernel_rfl) (fun _ _ _ h => h) (Or.inl ⟨?sw289_43, ?yw289_43⟩) (by assumption) ?nw289_43
        case hw289_43 => simp only [List.getElem?_toArray, List.getElem?_cons_succ, List.getElem?_cons_zero]; rfl
        case sw289_43 => rfl
        case yw289_43 => (intro w hSw; (try dsimp only at hSw); go_simp <;> with_reducible rfl)
        try simp only [Act.put, List.setIfInBounds_toArray, List.set_cons_zero, List.set_cons_succ]
        refine hR.take (i := 44) (oi := ?ow290_44) (v := ?vw290_44) (m' := 35184372088831) ?hw290_44 (by kernel_rfl) (by kernel_rfl) (fun _ _ _ h => h) (Or.inl ⟨?sw290_44, ?yw290_44⟩) (by assumption) ?nw290_44
        case hw290_44 => simp only [List.getElem?_toArray, List.getElem?_cons_succ, List.getElem?_cons_zero]; rfl
        case sw290_44 => rfl
        case yw290_44 => (intro w hSw; (try dsimp only at hSw); go_simp <;> with_reducible rfl)
        try simp only [Act.put, List.setIfInBounds_toArray, List.set_cons_zero, List.set_cons_succ]
        refine hR.take (i := 45) (oi := ?ow291_45) (v := ?vw291_45) (m' := 70368744177663) ?hw291_45 (by kernel_rfl) (by kernel_rfl) (fun _ _ _ h => h) (Or.inl ⟨?sw291_45, ?yw291_45⟩) (by assumption) ?nw291_45
        case hw291_45 => simp only [List.getElem?_toArray, List.getElem?_cons_succ, List.getElem?_cons_zero]; rfl
        case sw291_45 => rfl
        case yw291_45 => (intro w hSw; (try dsimp only at hSw); go_simp <;> with_reducible rfl)
        try simp only [Act.put, List.setIfInBounds_toArray, List.set_cons_zero, List.set_cons_succ]
        refine hR.come (rs := [46]) (by kernel_rfl) (by simp) ?_
        refine AllReadyH.cons (o := ?o292_46) ?h292_46 (fun K hK => ?kw292_46) AllReadyH.nil
        case h292_46 => simp only [List.getElem?_toArray, List.getElem?_cons_succ, List.getElem?_cons_zero]; rfl
        go_simp
        go_at_call 26; refine (maxRef _ _).mono ?_; rintro e w2 ⟨rfl, rfl⟩
        refine hK.out _ _ ?_ (fun hHeld => ?_)
        · (first | with_reducible assumption | (with_reducible refine Below.drew ?_; with_reducible assumption) | (with_reducible refine ba _ _ ?_; with_reducible assumption) | (with_reducible refine Below.drew ?_; with_reducible refine ba _ _ ?_; with_reducible assumption) | exact Below.refl _ _ | exact (Below.refl _ _).drew | exact (Below.refl _ _).alloc (Nat.le_refl _) _ | (refine bc _ _ (by assumption) (by assumption)))
        clear hK K
        refine RegOk.put_ (m' := 140737488355327) (by kernel_rfl) ?_
        try simp only [Act.put, List.setIfInBounds_toArray, List.set_cons_zero, List.set_cons_succ]
        refine hR.take (i := 47) (oi := ?ow293_47) (v := ?vw293_47) (m' := 281474976710655) ?hw293_47 (by kernel_rfl) (by kernel_rfl) (fun _ _ _ h => h) (Or.inl ⟨?sw293_47, ?yw293_47⟩) (by assumption) ?nw293_47
        case hw293_47 => simp only [List.getElem?_toArray, List.getElem?_cons_succ, List.getElem?_cons_zero]; rfl
        case sw293_47 => rfl
        case yw293_47 => (intro w hSw; (try dsimp only at hSw); go_simp <;> with_reducible rfl)
        try simp only [Act.put, List.setIfInBounds_toArray, List.set_cons_zero, List.set_cons_succ]
        refine hR.take (i := 48) (oi := ?ow294_48) (v := ?vw294_48) (m' := 562949953421311) ?hw294_48 (by kernel_rfl) (by kernel_rfl) (fun _ _ _ h => h) (Or.inl ⟨?sw294_48, ?yw294_48⟩) (by assumption) ?nw294_48
        case hw294_48 => simp only [List.getElem?_toArray, List.getElem?_cons_succ, List.getElem?_cons_zero]; rfl
        case sw294_48 => rfl
        case yw294_48 => (intro w hSw; (try dsimp only at hSw); go_simp <;> with_reducible rfl)
        try simp only [Act.put, List.setIfInBounds_toArray, List.set_cons_zero, List.set_cons_succ]
        refine hR.all (by kernel_rfl) ?_ _
        refine NoPanic.normal ?_
        go_wp2_with fail
        go_roundw
        case rel => exact ⟨j + 1, by omega, by go_num, by rw [Hn.out, Ha.out, hv.out]; rfl, Hb.out.drew⟩
        case measure => simp [intOf]; omega
    · have hj1 : ¬ (j : Int) < (l.length : Int) := by omega
      go_wp2_with fail
      go_ret
      refine ⟨ret_b ?_, Hb.out⟩
      have := Ha.out
      rw [List.take_of_length_le (by omega)] at this
      unfold validFltB
      rw [decide_eq_true h3, this]; rfl
end Go.Proofs.YtihcaoipemcddaaDoor
