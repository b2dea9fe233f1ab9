/-
  Texts of this claim, merged: Q5. Conditions: as each theorem says.
-/
import Derived.Test.YtagadbdbbglddaaGreatDoorU1
import Derived.Test.YtagadbdbbglddaaGreatDoorU2
import Derived.Test.YtagadbdbbglddaaGreatDoorU3
import Derived.Test.YtagadbdbbglddaaGreatDoorU4
import Derived.Test.YtagadbdbbglddaaGreatDoorU6
import Derived.Test.YtagadbdbbglddaaGreatDoorU7
set_option linter.unusedSimpArgs false
set_option linter.unusedVariables false
namespace Go.Proofs.YtagadbdbbglddaaGreatDoor
open Go.RowKit

theorem not_cd {l : List Cd} {c : Cd} (h : c ∈ l) (hc : validCdB c = false) : validFltB l = false := by
  unfold validFltB
  rw [Bool.and_eq_false_iff]
  exact .inr (List.all_eq_false.2 ⟨c, h, by simp [hc]⟩)
def q5A : List FRow := [(0, ([], (14, [0]))), (1, ([], (15, [3]))), (2, ([0, 1], (16, [13, 14]))), (3, ([2], (17, [15]))), (4, ([3], (18, [16]))), (5, ([4], (19, [17]))), (6, ([5], (20, [18]))), (7, ([6], (21, [0, 19]))), (8, ([6], (22, [3, 19]))), (9, ([7, 8, 6], (23, [20, 21, 19]))), (10, ([9, 6], (24, [22, 19]))), (11, ([10, 6], (25, [23, 19]))), (12, ([11, 6], (26, [24, 19]))), (13, ([6, 12], (27, [19, 25]))), (14, ([13, 6], (28, [26]))), (15, ([14], (29, [0, 27]))), (16, ([14], (30, [3, 27]))), (17, ([15, 16, 14], (31, [28, 29, 27]))), (18, ([17, 14], (32, [30, 27]))), (19, ([18, 14], (33, [31, 27]))), (20, ([19, 14], (34, [32, 27]))), (21, ([14, 20], (35, [27, 33]))), (22, ([21, 14], (36, [34]))), (23, ([22], (37, [0, 35]))), (24, ([22], (38, [3, 35]))), (25, ([23, 24, 22], (39, [36, 37, 35]))), (26, ([25, 22], (40, [38, 35]))), (27, ([26, 22], (41, [39, 35]))), (28, ([22], (42, [0, 35]))), (29, ([22], (43, [3, 35]))), (30, ([28, 29, 22], (44, [41, 42, 35]))), (31, ([30, 22], (45, [43, 35]))), (32, ([31, 22], (46, [44, 35]))), (33, ([27, 32, 22], (47, [40, 45, 35]))), (34, ([22, 33], (48, [35, 46]))), (35, ([34, 22], (49, [47]))), (36, ([35], (50, [0, 48]))), (37, ([35], (51, [3, 48]))), (38, ([36, 37, 35], (52, [49, 50, 48]))), (39, ([38, 35], (53, [51, 48]))), (40, ([39, 35], (54, [52, 48]))), (41, ([35], (55, [0, 48]))), (42, ([35], (56, [3, 48]))), (43, ([41, 42, 35], (57, [54, 55, 48]))), (44, ([43, 35], (58, [56, 48]))), (45, ([44, 35], (59, [57, 48]))), (46, ([45, 35, 35], (60, [58, 48]))), (47, ([40, 46, 35], (61, [53, 59, 48]))), (48, ([35, 47], (62, [48, 60])))]
set_option maxRecDepth 100000 in
set_option maxHeartbeats 4000000 in
theorem validFltRef {l : List Cd} {A : Option Addr} {c : Nat} {S : Nat → Prop} (w : World) (h : Sl cdE S w A c l) :
    Calls Tryz.prog 81 #[.slice A l.length c] w fun e w' => e = .returned (.bool (validFltB l)) ∧ Below w.heap.size w w' := by
  have hm := h.max
  have H := Lib.hid h
  clear h
  by_cases h3 : l.length ≤ 3
  rotate_left
  · have h3' : (3 < (l.length : Int)) := by omega
    have hv := Lib.hid (show validFltB l = false by unfold validFltB; rw [decide_eq_false h3]; rfl)
    go_enter Tryz.func81, Tryz.ntmps81
    go_wp2_with fail
    go_ret
    exact ⟨ret_b hv.out.symm, Below.refl _ _⟩
  have h3' : ¬ (3 < (l.length : Int)) := by omega
  go_enter Tryz.func81, Tryz.ntmps81
  go_wp2_with fail
  go_loopw [3] (fun i wr => ∃ j : Nat, j ≤ l.length ∧ i = .int .i64 j ∧ (l.take j).all validCdB = true ∧ Below w.heap.size w wr) (fun i _ => l.length - (intOf i).toNat)
  case atStart => exact ⟨0, Nat.zero_le _, rfl, rfl, Below.refl _ _⟩
  case round =>
    obtain ⟨j, hj, rfl, ha, hb⟩ := hrel
    have Ha := Lib.hid ha
    have Hb := Lib.hid hb
    have hj0 : (0 : Int) ≤ (j : Int) := by omega
    by_cases hlt : j < l.length
    · obtain ⟨x, hx⟩ : ∃ x, l[j]? = some x := ⟨_, List.getElem?_eq_getElem hlt⟩
      obtain ⟨b1, o1, e1, -, l1, x0, x1, x2⟩ := cd_at (H.out.keep (Below.agree hb)) hx
      subst e1
      have hj1 : (j : Int) < (l.length : Int) := by omega
      have hn : (l.take (j + 1)).all validCdB = ((l.take j).all validCdB && validCdB x) := by rw [take_snocR hx]; simp
      have Hn := Lib.hid hn
      have Hx := Lib.hid hx
      have z0 := hold x0
      have z1 := hold x1
      have z2 := hold x2
      have br : Below wr.heap.size wr wr := Below.refl _ _
      have ba : ∀ W o, Below wr.heap.size wr W → Below wr.heap.size wr (W.alloc o) := fun W o h => h.alloc h.size o
      have bc : ∀ W W', Below wr.heap.size wr W → Below W.heap.size W W' → Below wr.heap.size wr W' := fun W W' h k => h.trans (k.mono h.size)
      clear ha hb hn hx l1
      go_wp2_with fail
      by_cases c1 : x.col < 0
      · have f1 : (x.col < 0) = True := eq_true c1
        have hv := Lib.hid (show validCdB x = false from decide_eq_false (fun h => by unfold ValidCd at h; omega))
        refine wp_region_noPanic ?_
        refine wp_region_held_drew (S := fun X => Below wr.heap.size wr X) (by kernel_rfl) ?_ (fun hHeld => ?_)
        · (first | with_reducible assumption | (with_reducible refine Below.drew ?_; with_reducible assumption) | (with_reducible refine ba _ _ ?_; with_reducible assumption) | (with_reducible refine Below.drew ?_; with_reducible refine ba _ _ ?_; with_reducible assumption) | exact Below.refl _ _ | exact (Below.refl _ _).drew | exact (Below.refl _ _).alloc (Nat.le_refl _) _ | (refine bc _ _ (by assumption) (by assumption)))
        refine RegOk.begin_ (n := 49) (T := q5A) ⟨by kernel_rfl, by kernel_rfl, by kernel_rfl, by kernel_rfl⟩ fun hR => ?_
        refine hR.take (i := 0) (oi := ?ow136_0) (v := ?vw136_0) (m' := 1) ?hw136_0 (by kernel_rfl) (by kernel_rfl) (fun _ _ _ h => h) (Or.inl ⟨?sw136_0, ?yw136_0⟩) (by assumption) ?nw136_0
        case hw136_0 => simp only [List.getElem?_toArray, List.getElem?_cons_succ, List.getElem?_cons_zero]; rfl
        case sw136_0 => rfl
        case yw136_0 => (intro w hSw; (try dsimp only at hSw); go_simp <;> with_reducible rfl)
        try simp only [Act.put, List.setIfInBounds_toArray, List.set_cons_zero, List.set_cons_succ]
        refine hR.take (i := 1) (oi := ?ow137_1) (v := ?vw137_1) (m' := 3) ?hw137_1 (by kernel_rfl) (by kernel_rfl) (fun _ _ _ h => h) (Or.inl ⟨?sw137_1, ?yw137_1⟩) (by assumption) ?nw137_1
        case hw137_1 => simp only [List.getElem?_toArray, List.getElem?_cons_succ, List.getElem?_cons_zero]; rfl
        case sw137_1 => rfl
        case yw137_1 => (intro w hSw; (try dsimp only at hSw); go_simp <;> with_reducible rfl)
        try simp only [Act.put, List.setIfInBounds_toArray, List.set_cons_zero, List.set_cons_succ]
        refine hR.take (i := 2) (oi := ?ow138_2) (v := ?vw138_2) (m' := 7) ?hw138_2 (by kernel_rfl) (by kernel_rfl) (fun _ _ _ h => h) (Or.inl ⟨?sw138_2, ?yw138_2⟩) (by assumption) ?nw138_2
        case hw138_2 => simp only [List.getElem?_toArray, List.getElem?_cons_succ, List.getElem?_cons_zero]; rfl
        case sw138_2 => rfl
        case yw138_2 => (intro w hSw; (try dsimp only at hSw); go_simp <;> with_reducible rfl)
        try simp only [Act.put, List.setIfInBounds_toArray, List.set_cons_zero, List.set_cons_succ]
        refine hR.take (i := 3) (oi := ?ow139_3) (v := ?vw139_3) (m' := 15) ?hw139_3 (by kernel_rfl) (by kernel_rfl) (fun _ _ _ h => h) (Or.inl ⟨?sw139_3, ?yw139_3⟩) (by assumption) ?nw139_3
        case hw139_3 => simp only [List.getElem?_toArray, List.getElem?_cons_succ, List.getElem?_cons_zero]; rfl
        case sw139_3 => rfl
        case yw139_3 => (intro w hSw; (try dsimp only at hSw); go_simp <;> with_reducible rfl)
        try simp only [Act.put, List.setIfInBounds_toArray, List.set_cons_zero, List.set_cons_succ]
        refine hR.take (i := 4) (oi := ?ow140_4) (v := ?vw140_4) (m' := 31) ?hw140_4 (by kernel_rfl) (by kernel_rfl) (fun _ _ _ h => h) (Or.inl ⟨?sw140_4, ?yw140_4⟩) (by assumption) ?nw140_4
        case hw140_4 => simp only [List.getElem?_toArray, List.getElem?_cons_succ, List.getElem?_cons_zero]; rfl
        case sw140_4 => rfl
        case yw140_4 => (intro w hSw; (try dsimp only at hSw); go_simp <;> with_reducible rfl)
        try simp only [Act.put, List.setIfInBounds_toArray, List.set_cons_zero, List.set_cons_succ]
        refine hR.take (i := 5) (oi := ?ow141_5) (v := ?vw141_5) (m' := 63) ?hw141_5 (by kernel_rfl) (by kernel_rfl) (fun _ _ _ h => h) (Or.inl ⟨?sw141_5, ?yw141_5⟩) (by assumption) ?nw141_5
        case hw141_5 => simp only [List.getElem?_toArray, List.getElem?_cons_succ, List.getElem?_cons_zero]; rfl
        case sw141_5 => rfl
        case yw141_5 => (intro w hSw; (try dsimp only at hSw); go_simp <;> with_reducible rfl)
        try simp only [Act.put, List.setIfInBounds_toArray, List.set_cons_zero, List.set_cons_succ]
        refine hR.take (i := 6) (oi := ?ow142_6) (v := ?vw142_6) (m' := 127) ?hw142_6 (by kernel_rfl) (by kernel_rfl) (fun _ _ _ h => h) (Or.inl ⟨?sw142_6, ?yw142_6⟩) (by assumption) ?nw142_6
        case hw142_6 => simp only [List.getElem?_toArray, List.getElem?_cons_succ, List.getElem?_cons_zero]; rfl
        case sw142_6 => rfl
        case yw142_6 => (intro w hSw; (try dsimp only at hSw); go_simp <;> with_reducible rfl)
        try simp only [Act.put, List.setIfInBounds_toArray, List.set_cons_zero, List.set_cons_succ]
        refine hR.take (i := 7) (oi := ?ow143_7) (v := ?vw143_7) (m' := 255) ?hw143_7 (by kernel_rfl) (by kernel_rfl) (fun _ _ _ h => h) (Or.inr ⟨?sw143_7, ?yw143_7⟩) (by assumption) ?nw143_7
        case hw143_7 => simp only [List.getElem?_toArray, List.getElem?_cons_succ, List.getElem?_cons_zero]; rfl
        case sw143_7 => rfl
        case yw143_7 => rfl
        try simp only [Act.put, List.setIfInBounds_toArray, List.set_cons_zero, List.set_cons_succ]
        refine hR.take (i := 8) (oi := ?ow144_8) (v := ?vw144_8) (m' := 511) ?hw144_8 (by kernel_rfl) (by kernel_rfl) (fun _ _ _ h => h) (Or.inr ⟨?sw144_8, ?yw144_8⟩) (by assumption) ?nw144_8
        case hw144_8 => simp only [List.getElem?_toArray, List.getElem?_cons_succ, List.getElem?_cons_zero]; rfl
        case sw144_8 => rfl
        case yw144_8 => rfl
        try simp only [Act.put, List.setIfInBounds_toArray, List.set_cons_zero, List.set_cons_succ]
        refine hR.take (i := 9) (oi := ?ow145_9) (v := ?vw145_9) (m' := 1023) ?hw145_9 (by kernel_rfl) (by kernel_rfl) (fun _ _ _ h => h) (Or.inr ⟨?sw145_9, ?yw145_9⟩) (by assumption) ?nw145_9
        case hw145_9 => simp only [List.getElem?_toArray, List.getElem?_cons_succ, List.getElem?_cons_zero]; rfl
        case sw145_9 => rfl
        case yw145_9 => rfl
        try simp only [Act.put, List.setIfInBounds_toArray, List.set_cons_zero, List.set_cons_succ]
        refine hR.take (i := 10) (oi := ?ow146_10) (v := ?vw146_10) (m' := 2047) ?hw146_10 (by kernel_rfl) (by kernel_rfl) (fun _ _ _ h => h) (Or.inr ⟨?sw146_10, ?yw146_10⟩) (by assumption) ?nw146_10
        case hw146_10 => simp only [List.getElem?_toArray, List.getElem?_cons_succ, List.getElem?_cons_zero]; rfl
        case sw146_10 => rfl
        case yw146_10 => rfl
        try simp only [Act.put, List.setIfInBounds_toArray, List.set_cons_zero, List.set_cons_succ]
        refine hR.take (i := 11) (oi := ?ow147_11) (v := ?vw147_11) (m' := 4095) ?hw147_11 (by kernel_rfl) (by kernel_rfl) (fun _ _ _ h => h) (Or.inr ⟨?sw147_11, ?yw147_11⟩) (by assumption) ?nw147_11
        case hw147_11 => simp only [List.getElem?_toArray, List.getElem?_cons_succ, List.getElem?_cons_zero]; rfl
        case sw147_11 => rfl
        case yw147_11 => rfl
        try simp only [Act.put, List.setIfInBounds_toArray, List.set_cons_zero, List.set_cons_succ]
        refine hR.take (i := 12) (oi := ?ow148_12) (v := ?vw148_12) (m' := 8191) ?hw148_12 (by kernel_rfl) (by kernel_rfl) (fun _ _ _ h => h) (Or.inr ⟨?sw148_12, ?yw148_12⟩) (by assumption) ?nw148_12
        case hw148_12 => simp only [List.getElem?_toArray, List.getElem?_cons_succ, List.getElem?_cons_zero]; rfl
        case sw148_12 => rfl
        case yw148_12 => rfl
        try simp only [Act.put, List.setIfInBounds_toArray, List.set_cons_zero, List.set_cons_succ]
        refine hR.take (i := 13) (oi := ?ow149_13) (v := ?vw149_13) (m' := 16383) ?hw149_13 (by kernel_rfl) (by kernel_rfl) (fun _ _ _ h => h) (Or.inl ⟨?sw149_13, ?yw149_13⟩) (by assumption) ?nw149_13
        case hw149_13 => simp only [List.getElem?_toArray, List.getElem?_cons_succ, List.getElem?_cons_zero]; rfl
        case sw149_13 => rfl
        case yw149_13 => (intro w hSw; (try dsimp only at hSw); go_simp <;> with_reducible rfl)
        try simp only [Act.put, List.setIfInBounds_toArray, List.set_cons_zero, List.set_cons_succ]
        refine hR.take (i := 14) (oi := ?ow150_14) (v := ?vw150_14) (m' := 32767) ?hw150_14 (by kernel_rfl) (by kernel_rfl) (fun _ _ _ h => h) (Or.inl ⟨?sw150_14, ?yw150_14⟩) (by assumption) ?nw150_14
        case hw150_14 => simp only [List.getElem?_toArray, List.getElem?_cons_succ, List.getElem?_cons_zero]; rfl
        case sw150_14 => rfl
        case yw150_14 => (intro w hSw; (try dsimp only at hSw); go_simp <;> with_reducible rfl)
        try simp only [Act.put, List.setIfInBounds_toArray, List.set_cons_zero, List.set_cons_succ]
        refine hR.take (i := 15) (oi := ?ow151_15) (v := ?vw151_15) (m' := 65535) ?hw151_15 (by kernel_rfl) (by kernel_rfl) (fun _ _ _ h => h) (Or.inr ⟨?sw151_15, ?yw151_15⟩) (by assumption) ?nw151_15
        case hw151_15 => simp only [List.getElem?_toArray, List.getElem?_cons_succ, List.getElem?_cons_zero]; rfl
        case sw151_15 => rfl
        case yw151_15 => rfl
        try simp only [Act.put, List.setIfInBounds_toArray, List.set_cons_zero, List.set_cons_succ]
        refine hR.take (i := 16) (oi := ?ow152_16) (v := ?vw152_16) (m' := 131071) ?hw152_16 (by kernel_rfl) (by kernel_rfl) (fun _ _ _ h => h) (Or.inr ⟨?sw152_16, ?yw152_16⟩) (by assumption) ?nw152_16
        case hw152_16 => simp only [List.getElem?_toArray, List.getElem?_cons_succ, List.getElem?_cons_zero]; rfl
        case sw152_16 => rfl
        case yw152_16 => rfl
        try simp only [Act.put, List.setIfInBounds_toArray, List.set_cons_zero, List.set_cons_succ]
        refine hR.take (i := 17) (oi := ?ow153_17) (v := ?vw153_17) (m' := 262143) ?hw153_17 (by kernel_rfl) (by kernel_rfl) (fun _ _ _ h => h) (Or.inr ⟨?sw153_17, ?yw153_17⟩) (by assumption) ?nw153_17
        case hw153_17 => simp only [List.getElem?_toArray, List.getElem?_cons_succ, List.getElem?_cons_zero]; rfl
        case sw153_17 => rfl
        case yw153_17 => rfl
        try simp only [Act.put, List.setIfInBounds_toArray, List.set_cons_zero, List.set_cons_succ]
        refine hR.take (i := 18) (oi := ?ow154_18) (v := ?vw154_18) (m' := 524287) ?hw154_18 (by kernel_rfl) (by kernel_rfl) (fun _ _ _ h => h) (Or.inr ⟨?sw154_18, ?yw154_18⟩) (by assumption) ?nw154_18
        case hw154_18 => simp only [List.getElem?_toArray, List.getElem?_cons_succ, List.getElem?_cons_zero]; rfl
        case sw154_18 => rfl
        case yw154_18 => rfl
        try simp only [Act.put, List.setIfInBounds_toArray, List.set_cons_zero, List.set_cons_succ]
        refine hR.take (i := 19) (oi := ?ow155_19) (v := ?vw155_19) (m' := 1048575) ?hw155_19 (by kernel_rfl) (by kernel_rfl) (fun _ _ _ h => h) (Or.inr ⟨?sw155_19, ?yw155_19⟩) (by assumption) ?nw155_19
        case hw155_19 => simp only [List.getElem?_toArray, List.getElem?_cons_succ, List.getElem?_cons_zero]; rfl
        case sw155_19 => rfl
        case yw155_19 => rfl
        try simp only [Act.put, List.setIfInBounds_toArray, List.set_cons_zero, List.set_cons_succ]
        refine hR.take (i := 20) (oi := ?ow156_20) (v := ?vw156_20) (m' := 2097151) ?hw156_20 (by kernel_rfl) (by kernel_rfl) (fun _ _ _ h => h) (Or.inr ⟨?sw156_20, ?yw156_20⟩) (by assumption) ?nw156_20
        case hw156_20 => simp only [List.getElem?_toArray, List.getElem?_cons_succ, List.getElem?_cons_zero]; rfl
        case sw156_20 => rfl
        case yw156_20 => rfl
        try simp only [Act.put, List.setIfInBounds_toArray, List.set_cons_zero, List.set_cons_succ]
        refine hR.take (i := 21) (oi := ?ow157_21) (v := ?vw157_21) (m' := 4194303) ?hw157_21 (by kernel_rfl) (by kernel_rfl) (fun _ _ _ h => h) (Or.inl ⟨?sw157_21, ?yw157_21⟩) (by assumption) ?nw157_21
        case hw157_21 => simp only [List.getElem?_toArray, List.getElem?_cons_succ, List.getElem?_cons_zero]; rfl
        case sw157_21 => rfl
        case yw157_21 => (intro w hSw; (try dsimp only at hSw); go_simp <;> with_reducible rfl)
        try simp only [Act.put, List.setIfInBounds_toArray, List.set_cons_zero, List.set_cons_succ]
        refine hR.take (i := 22) (oi := ?ow158_22) (v := ?vw158_22) (m' := 8388607) ?hw158_22 (by kernel_rfl) (by kernel_rfl) (fun _ _ _ h => h) (Or.inl ⟨?sw158_22, ?yw158_22⟩) (by assumption) ?nw158_22
        case hw158_22 => simp only [List.getElem?_toArray, List.getElem?_cons_succ, List.getElem?_cons_zero]; rfl
        case sw158_22 => rfl
        case yw158_22 => (intro w hSw; (try dsimp only at hSw); go_simp <;> with_reducible rfl)
        try simp only [Act.put, List.setIfInBounds_toArray, List.set_cons_zero, List.set_cons_succ]
        refine hR.take (i := 23) (oi := ?ow159_23) (v := ?vw159_23) (m' := 16777215) ?hw159_23 (by kernel_rfl) (by kernel_rfl) (fun _ _ _ h => h) (Or.inr ⟨?sw159_23, ?yw159_23⟩) (by assumption) ?nw159_23
        case hw159_23 => simp only [List.getElem?_toArray, List.getElem?_cons_succ, List.getElem?_cons_zero]; rfl
        case sw159_23 => rfl
        case yw159_23 => rfl
        try simp only [Act.put, List.setIfInBounds_toArray, List.set_cons_zero, List.set_cons_succ]
        refine hR.take (i := 24) (oi := ?ow160_24) (v := ?vw160_24) (m' := 33554431) ?hw160_24 (by kernel_rfl) (by kernel_rfl) (fun _ _ _ h => h) (Or.inr ⟨?sw160_24, ?yw160_24⟩) (by assumption) ?nw160_24
        case hw160_24 => simp only [List.getElem?_toArray, List.getElem?_cons_succ, List.getElem?_cons_zero]; rfl
        case sw160_24 => rfl
        case yw160_24 => rfl
        try simp only [Act.put, List.setIfInBounds_toArray, List.set_cons_zero, List.set_cons_succ]
        refine hR.take (i := 25) (oi := ?ow161_25) (v := ?vw161_25) (m' := 67108863) ?hw161_25 (by kernel_rfl) (by kernel_rfl) (fun _ _ _ h => h) (Or.inr ⟨?sw161_25, ?yw161_25⟩) (by assumption) ?nw161_25
        case hw161_25 => simp only [List.getElem?_toArray, List.getElem?_cons_succ, List.getElem?_cons_zero]; rfl
        case sw161_25 => rfl
        case yw161_25 => rfl
        try simp only [Act.put, List.setIfInBounds_toArray, List.set_cons_zero, List.set_cons_succ]
        refine hR.take (i := 26) (oi := ?ow162_26) (v := ?vw162_26) (m' := 134217727) ?hw162_26 (by kernel_rfl) (by kernel_rfl) (fun _ _ _ h => h) (Or.inr ⟨?sw162_26, ?yw162_26⟩) (by assumption) ?nw162_26
        case hw162_26 => simp only [List.getElem?_toArray, List.getElem?_cons_succ, List.getElem?_cons_zero]; rfl
        case sw162_26 => rfl
        case yw162_26 => rfl
        try simp only [Act.put, List.setIfInBounds_toArray, List.set_cons_zero, List.set_cons_succ]
        refine hR.take (i := 27) (oi := ?ow163_27) (v := ?vw163_27) (m' := 268435455) ?hw163_27 (by kernel_rfl) (by kernel_rfl) (fun _ _ _ h => h) (Or.inr ⟨?sw163_27, ?yw163_27⟩) (by assumption) ?nw163_27
        case hw163_27 => simp only [List.getElem?_toArray, List.getElem?_cons_succ, List.getElem?_cons_zero]; rfl
        case sw163_27 => rfl
        case yw163_27 => rfl
        try simp only [Act.put, List.setIfInBounds_toArray, List.set_cons_zero, List.set_cons_succ]
        refine hR.take (i := 28) (oi := ?ow164_28) (v := ?vw164_28) (m' := 536870911) ?hw164_28 (by kernel_rfl) (by kernel_rfl) (fun _ _ _ h => h) (Or.inr ⟨?sw164_28, ?yw164_28⟩) (by assumption) ?nw164_28
        case hw164_28 => simp only [List.getElem?_toArray, List.getElem?_cons_succ, List.getElem?_cons_zero]; rfl
        case sw164_28 => rfl
        case yw164_28 => rfl
        try simp only [Act.put, List.setIfInBounds_toArray, List.set_cons_zero, List.set_cons_succ]
        refine hR.take (i := 29) (oi := ?ow165_29) (v := ?vw165_29) (m' := 1073741823) ?hw165_29 (by kernel_rfl) (by kernel_rfl) (fun _ _ _ h => h) (Or.inr ⟨?sw165_29, ?yw165_29⟩) (by assumption) ?nw165_29
        case hw165_29 => simp only [List.getElem?_toArray, List.getElem?_cons_succ, List.getElem?_cons_zero]; rfl
        case sw165_29 => rfl
        case yw165_29 => rfl
        try simp only [Act.put, List.setIfInBounds_toArray, List.set_cons_zero, List.set_cons_succ]
        refine hR.take (i := 30) (oi := ?ow166_30) (v := ?vw166_30) (m' := 2147483647) ?hw166_30 (by kernel_rfl) (by kernel_rfl) (fun _ _ _ h => h) (Or.inr ⟨?sw166_30, ?yw166_30⟩) (by assumption) ?nw166_30
        case hw166_30 => simp only [List.getElem?_toArray, List.getElem?_cons_succ, List.getElem?_cons_zero]; rfl
        case sw166_30 => rfl
        case yw166_30 => rfl
        try simp only [Act.put, List.setIfInBounds_toArray, List.set_cons_zero, List.set_cons_succ]
        refine hR.take (i := 31) (oi := ?ow167_31) (v := ?vw167_31) (m' := 4294967295) ?hw167_31 (by kernel_rfl) (by kernel_rfl) (fun _ _ _ h => h) (Or.inr ⟨?sw167_31, ?yw167_31⟩) (by assumption) ?nw167_31
        case hw167_31 => simp only [List.getElem?_toArray, List.getElem?_cons_succ, List.getElem?_cons_zero]; rfl
        case sw167_31 => rfl
        case yw167_31 => rfl
        try simp only [Act.put, List.setIfInBounds_toArray, List.set_cons_zero, List.set_cons_succ]
        refine hR.take (i := 32) (oi := ?ow168_32) (v := ?vw168_32) (m' := 8589934591) ?hw168_32 (by kernel_rfl) (by kernel_rfl) (fun _ _ _ h => h) (Or.inr ⟨?sw168_32, ?yw168_32⟩) (by assumption) ?nw168_32
        case hw168_32 => simp only [List.getElem?_toArray, List.getElem?_cons_succ, List.getElem?_cons_zero]; rfl
        case sw168_32 => rfl
        case yw168_32 => rfl
        try simp only [Act.put, List.setIfInBounds_toArray, List.set_cons_zero, List.set_cons_succ]
        refine hR.take (i := 33) (oi := ?ow169_33) (v := ?vw169_33) (m' := 17179869183) ?hw169_33 (by kernel_rfl) (by kernel_rfl) (fun _ _ _ h => h) (Or.inr ⟨?sw169_33, ?yw169_33⟩) (by assumption) ?nw169_33
        case hw169_33 => simp only [List.getElem?_toArray, List.getElem?_cons_succ, List.getElem?_cons_zero]; rfl
        case sw169_33 => rfl
        case yw169_33 => rfl
        try simp only [Act.put, List.setIfInBounds_toArray, List.set_cons_zero, List.set_cons_succ]
        refine hR.take (i := 34) (oi := ?ow170_34) (v := ?vw170_34) (m' := 34359738367) ?hw170_34 (by kernel_rfl) (by kernel_rfl) (fun _ _ _ h => h) (Or.inl ⟨?sw170_34, ?yw170_34⟩) (by assumption) ?nw170_34
        case hw170_34 => simp only [List.getElem?_toArray, List.getElem?_cons_succ, List.getElem?_cons_zero]; rfl
        case sw170_34 => rfl
        case yw170_34 => (intro w hSw; (try dsimp only at hSw); go_simp <;> with_reducible rfl)
        try simp only [Act.put, List.setIfInBounds_toArray, List.set_cons_zero, List.set_cons_succ]
        refine hR.take (i := 35) (oi := ?ow171_35) (v := ?vw171_35) (m' := 68719476735) ?hw171_35 (by kernel_rfl) (by kernel_rfl) (fun _ _ _ h => h) (Or.inl ⟨?sw171_35, ?yw171_35⟩) (by assumption) ?nw171_35
        case hw171_35 => simp only [List.getElem?_toArray, List.getElem?_cons_succ, List.getElem?_cons_zero]; rfl
        case sw171_35 => rfl
        case yw171_35 => (intro w hSw; (try dsimp only at hSw); go_simp <;> with_reducible rfl)
        try simp only [Act.put, List.setIfInBounds_toArray, List.set_cons_zero, List.set_cons_succ]
        refine hR.take (i := 36) (oi := ?ow172_36) (v := ?vw172_36) (m' := 137438953471) ?hw172_36 (by kernel_rfl) (by kernel_rfl) (fun _ _ _ h => h) (Or.inr ⟨?sw172_36, ?yw172_36⟩) (by assumption) ?nw172_36
        case hw172_36 => simp only [List.getElem?_toArray, List.getElem?_cons_succ, List.getElem?_cons_zero]; rfl
        case sw172_36 => rfl
        case yw172_36 => rfl
        try simp only [Act.put, List.setIfInBounds_toArray, List.set_cons_zero, List.set_cons_succ]
        refine hR.take (i := 37) (oi := ?ow173_37) (v := ?vw173_37) (m' := 274877906943) ?hw173_37 (by kernel_rfl) (by kernel_rfl) (fun _ _ _ h => h) (Or.inr ⟨?sw173_37, ?yw173_37⟩) (by assumption) ?nw173_37
        case hw173_37 => simp only [List.getElem?_toArray, List.getElem?_cons_succ, List.getElem?_cons_zero]; rfl
        case sw173_37 => rfl
        case yw173_37 => rfl
        try simp only [Act.put, List.setIfInBounds_toArray, List.set_cons_zero, List.set_cons_succ]
        refine hR.take (i := 38) (oi := ?ow174_38) (v := ?vw174_38) (m' := 549755813887) ?hw174_38 (by kernel_rfl) (by kernel_rfl) (fun _ _ _ h => h) (Or.inr ⟨?sw174_38, ?yw174_38⟩) (by assumption) ?nw174_38
        case hw174_38 => simp only [List.getElem?_toArray, List.getElem?_cons_succ, List.getElem?_cons_zero]; rfl
        case sw174_38 => rfl
        case yw174_38 => rfl
        try simp only [Act.put, List.setIfInBounds_toArray, List.set_cons_zero, List.set_cons_succ]
        refine hR.take (i := 39) (oi := ?ow175_39) (v := ?vw175_39) (m' := 1099511627775) ?hw175_39 (by kernel_rfl) (by kernel_rfl) (fun _ _ _ h => h) (Or.inr ⟨?sw175_39, ?yw175_39⟩) (by assumption) ?nw175_39
        case hw175_39 => simp only [List.getElem?_toArray, List.getElem?_cons_succ, List.getElem?_cons_zero]; rfl
        case sw175_39 => rfl
        case yw175_39 => rfl
        try simp only [Act.put, List.setIfInBounds_toArray, List.set_cons_zero, List.set_cons_succ]
        refine hR.take (i := 40) (oi := ?ow176_40) (v := ?vw176_40) (m' := 2199023255551) ?hw176_40 (by kernel_rfl) (by kernel_rfl) (fun _ _ _ h => h) (Or.inr ⟨?sw176_40, ?yw176_40⟩) (by assumption) ?nw176_40
        case hw176_40 => simp only [List.getElem?_toArray, List.getElem?_cons_succ, List.getElem?_cons_zero]; rfl
        case sw176_40 => rfl
        case yw176_40 => rfl
        try simp only [Act.put, List.setIfInBounds_toArray, List.set_cons_zero, List.set_cons_succ]
        refine hR.take (i := 41) (oi := ?ow177_41) (v := ?vw177_41) (m' := 4398046511103) ?hw177_41 (by kernel_rfl) (by kernel_rfl) (fun _ _ _ h => h) (Or.inr ⟨?sw177_41, ?yw177_41⟩) (by assumption) ?nw177_41
        case hw177_41 => simp only [List.getElem?_toArray, List.getElem?_cons_succ, List.getElem?_cons_zero]; rfl
        case sw177_41 => rfl
        case yw177_41 => rfl
        try simp only [Act.put, List.setIfInBounds_toArray, List.set_cons_zero, List.set_cons_succ]
        refine hR.take (i := 42) (oi := ?ow178_42) (v := ?vw178_42) (m' := 8796093022207) ?hw178_42 (by kernel_rfl) (by kernel_rfl) (fun _ _ _ h => h) (Or.inr ⟨?sw178_42, ?yw178_42⟩) (by assumption) ?nw178_42
        case hw178_42 => simp only [List.getElem?_toArray, List.getElem?_cons_succ, List.getElem?_cons_zero]; rfl
        case sw178_42 => rfl
        case yw178_42 => rfl
        try simp only [Act.put, List.setIfInBounds_toArray, List.set_cons_zero, List.set_cons_succ]
        refine hR.take (i := 43) (oi := ?ow179_43) (v := ?vw179_43) (m' := 17592186044415) ?hw179_43 (by kernel_rfl) (by kernel_rfl) (fun _ _ _ h => h) (Or.inr ⟨?sw179_43, ?yw179_43⟩) (by assumption) ?nw179_43
        case hw179_43 => simp only [List.getElem?_toArray, List.getElem?_cons_succ, List.getElem?_cons_zero]; rfl
        case sw179_43 => rfl
        case yw179_43 => rfl
        try simp only [Act.put, List.setIfInBounds_toArray, List.set_cons_zero, List.set_cons_succ]
        refine hR.take (i := 44) (oi := ?ow180_44) (v := ?vw180_44) (m' := 35184372088831) ?hw180_44 (by kernel_rfl) (by kernel_rfl) (fun _ _ _ h => h) (Or.inr ⟨?sw180_44, ?yw180_44⟩) (by assumption) ?nw180_44
        case hw180_44 => simp only [List.getElem?_toArray, List.getElem?_cons_succ, List.getElem?_cons_zero]; rfl
        case sw180_44 => rfl
        case yw180_44 => rfl
        try simp only [Act.put, List.setIfInBounds_toArray, List.set_cons_zero, List.set_cons_succ]
        refine hR.take (i := 45) (oi := ?ow181_45) (v := ?vw181_45) (m' := 70368744177663) ?hw181_45 (by kernel_rfl) (by kernel_rfl) (fun _ _ _ h => h) (Or.inr ⟨?sw181_45, ?yw181_45⟩) (by assumption) ?nw181_45
        case hw181_45 => simp only [List.getElem?_toArray, List.getElem?_cons_succ, List.getElem?_cons_zero]; rfl
        case sw181_45 => rfl
        case yw181_45 => rfl
        try simp only [Act.put, List.setIfInBounds_toArray, List.set_cons_zero, List.set_cons_succ]
        refine hR.take (i := 46) (oi := ?ow182_46) (v := ?vw182_46) (m' := 140737488355327) ?hw182_46 (by kernel_rfl) (by kernel_rfl) (fun _ _ _ h => h) (Or.inr ⟨?sw182_46, ?yw182_46⟩) (by assumption) ?nw182_46
        case hw182_46 => simp only [List.getElem?_toArray, List.getElem?_cons_succ, List.getElem?_cons_zero]; rfl
        case sw182_46 => rfl
        case yw182_46 => rfl
        try simp only [Act.put, List.setIfInBounds_toArray, List.set_cons_zero, List.set_cons_succ]
        refine hR.take (i := 47) (oi := ?ow183_47) (v := ?vw183_47) (m' := 281474976710655) ?hw183_47 (by kernel_rfl) (by kernel_rfl) (fun _ _ _ h => h) (Or.inr ⟨?sw183_47, ?yw183_47⟩) (by assumption) ?nw183_47
        case hw183_47 => simp only [List.getElem?_toArray, List.getElem?_cons_succ, List.getElem?_cons_zero]; rfl
        case sw183_47 => rfl
        case yw183_47 => rfl
        try simp only [Act.put, List.setIfInBounds_toArray, List.set_cons_zero, List.set_cons_succ]
        refine hR.take (i := 48) (oi := ?ow184_48) (v := ?vw184_48) (m' := 562949953421311) ?hw184_48 (by kernel_rfl) (by kernel_rfl) (fun _ _ _ h => h) (Or.inl ⟨?sw184_48, ?yw184_48⟩) (by assumption) ?nw184_48
        case hw184_48 => simp only [List.getElem?_toArray, List.getElem?_cons_succ, List.getElem?_cons_zero]; rfl
        case sw184_48 => rfl
        case yw184_48 => (intro w hSw; (try dsimp only at hSw); go_simp <;> with_reducible rfl)
        try simp only [Act.put, List.setIfInBounds_toArray, List.set_cons_zero, List.set_cons_succ]
        refine hR.all (by kernel_rfl) ?_ _
        refine NoPanic.normal ?_
        go_wp2_with fail
        go_ret
        exact ⟨ret_b (not_cd (List.mem_of_getElem? Hx.out) hv.out).symm, Hb.out.drew⟩
      have f1 : (x.col < 0) = False := eq_false c1
      by_cases c2 : 3 < x.col
      · have f2 : (3 < x.col) = True := eq_true c2
        have hv := Lib.hid (show validCdB x = false from decide_eq_false (fun h => by unfold ValidCd at h; omega))
        refine wp_region_noPanic ?_
        refine wp_region_held_drew (S := fun X => Below wr.heap.size wr X) (by kernel_rfl) ?_ (fun hHeld => ?_)
        · (first | with_reducible assumption | (with_reducible refine Below.drew ?_; with_reducible assumption) | (with_reducible refine ba _ _ ?_; with_reducible assumption) | (with_reducible refine Below.drew ?_; with_reducible refine ba _ _ ?_; with_reducible assumption) | exact Below.refl _ _ | exact (Below.refl _ _).drew | exact (Below.refl _ _).alloc (Nat.le_refl _) _ | (refine bc _ _ (by assumption) (by assumption)))
        refine RegOk.begin_ (n := 49) (T := q5A) ⟨by kernel_rfl, by kernel_rfl, by kernel_rfl, by kernel_rfl⟩ fun hR => ?_
        refine hR.take (i := 0) (oi := ?ow185_0) (v := ?vw185_0) (m' := 1) ?hw185_0 (by kernel_rfl) (by kernel_rfl) (fun _ _ _ h => h) (Or.inl ⟨?sw185_0, ?yw185_0⟩) (by assumption) ?nw185_0
        case hw185_0 => simp only [List.getElem?_toArray, List.getElem?_cons_succ, List.getElem?_cons_zero]; rfl
        case sw185_0 => rfl
        case yw185_0 => (intro w hSw; (try dsimp only at hSw); go_simp <;> with_reducible rfl)
        try simp only [Act.put, List.setIfInBounds_toArray, List.set_cons_zero, List.set_cons_succ]
        refine hR.take (i := 1) (oi := ?ow186_1) (v := ?vw186_1) (m' := 3) ?hw186_1 (by kernel_rfl) (by kernel_rfl) (fun _ _ _ h => h) (Or.inl ⟨?sw186_1, ?yw186_1⟩) (by assumption) ?nw186_1
        case hw186_1 => simp only [List.getElem?_toArray, List.getElem?_cons_succ, List.getElem?_cons_zero]; rfl
        case sw186_1 => rfl
        case yw186_1 => (intro w hSw; (try dsimp only at hSw); go_simp <;> with_reducible rfl)
        try simp only [Act.put, List.setIfInBounds_toArray, List.set_cons_zero, List.set_cons_succ]
        refine hR.take (i := 2) (oi := ?ow187_2) (v := ?vw187_2) (m' := 7) ?hw187_2 (by kernel_rfl) (by kernel_rfl) (fun _ _ _ h => h) (Or.inl ⟨?sw187_2, ?yw187_2⟩) (by assumption) ?nw187_2
        case hw187_2 => simp only [List.getElem?_toArray, List.getElem?_cons_succ, List.getElem?_cons_zero]; rfl
        case sw187_2 => rfl
        case yw187_2 => (intro w hSw; (try dsimp only at hSw); go_simp <;> with_reducible rfl)
        try simp only [Act.put, List.setIfInBounds_toArray, List.set_cons_zero, List.set_cons_succ]
        refine hR.take (i := 3) (oi := ?ow188_3) (v := ?vw188_3) (m' := 15) ?hw188_3 (by kernel_rfl) (by kernel_rfl) (fun _ _ _ h => h) (Or.inl ⟨?sw188_3, ?yw188_3⟩) (by assumption) ?nw188_3
        case hw188_3 => simp only [List.getElem?_toArray, List.getElem?_cons_succ, List.getElem?_cons_zero]; rfl
        case sw188_3 => rfl
        case yw188_3 => (intro w hSw; (try dsimp only at hSw); go_simp <;> with_reducible rfl)
        try simp only [Act.put, List.setIfInBounds_toArray, List.set_cons_zero, List.set_cons_succ]
        refine hR.take (i := 4) (oi := ?ow189_4) (v := ?vw189_4) (m' := 31) ?hw189_4 (by kernel_rfl) (by kernel_rfl) (fun _ _ _ h => h) (Or.inl ⟨?sw189_4, ?yw189_4⟩) (by assumption) ?nw189_4
        case hw189_4 => simp only [List.getElem?_toArray, List.getElem?_cons_succ, List.getElem?_cons_zero]; rfl
        case sw189_4 => rfl
        case yw189_4 => (intro w hSw; (try dsimp only at hSw); go_simp <;> with_reducible rfl)
        try simp only [Act.put, List.setIfInBounds_toArray, List.set_cons_zero, List.set_cons_succ]
        refine hR.take (i := 5) (oi := ?ow190_5) (v := ?vw190_5) (m' := 63) ?hw190_5 (by kernel_rfl) (by kernel_rfl) (fun _ _ _ h => h) (Or.inl ⟨?sw190_5, ?yw190_5⟩) (by assumption) ?nw190_5
        case hw190_5 => simp only [List.getElem?_toArray, List.getElem?_cons_succ, List.getElem?_cons_zero]; rfl
        case sw190_5 => rfl
        case yw190_5 => (intro w hSw; (try dsimp only at hSw); go_simp <;> with_reducible rfl)
        try simp only [Act.put, List.setIfInBounds_toArray, List.set_cons_zero, List.set_cons_succ]
        refine hR.take (i := 6) (oi := ?ow191_6) (v := ?vw191_6) (m' := 127) ?hw191_6 (by kernel_rfl) (by kernel_rfl) (fun _ _ _ h => h) (Or.inl ⟨?sw191_6, ?yw191_6⟩) (by assumption) ?nw191_6
        case hw191_6 => simp only [List.getElem?_toArray, List.getElem?_cons_succ, List.getElem?_cons_zero]; rfl
        case sw191_6 => rfl
        case yw191_6 => (intro w hSw; (try dsimp only at hSw); go_simp <;> with_reducible rfl)
        try simp only [Act.put, List.setIfInBounds_toArray, List.set_cons_zero, List.set_cons_succ]
        refine hR.take (i := 7) (oi := ?ow192_7) (v := ?vw192_7) (m' := 255) ?hw192_7 (by kernel_rfl) (by kernel_rfl) (fun _ _ _ h => h) (Or.inl ⟨?sw192_7, ?yw192_7⟩) (by assumption) ?nw192_7
        case hw192_7 => simp only [List.getElem?_toArray, List.getElem?_cons_succ, List.getElem?_cons_zero]; rfl
        case sw192_7 => rfl
        case yw192_7 => (intro w hSw; (try dsimp only at hSw); go_simp <;> with_reducible rfl)
        try simp only [Act.put, List.setIfInBounds_toArray, List.set_cons_zero, List.set_cons_succ]
        refine hR.take (i := 8) (oi := ?ow193_8) (v := ?vw193_8) (m' := 511) ?hw193_8 (by kernel_rfl) (by kernel_rfl) (fun _ _ _ h => h) (Or.inl ⟨?sw193_8, ?yw193_8⟩) (by assumption) ?nw193_8
        case hw193_8 => simp only [List.getElem?_toArray, List.getElem?_cons_succ, List.getElem?_cons_zero]; rfl
        case sw193_8 => rfl
        case yw193_8 => (intro w hSw; (try dsimp only at hSw); go_simp <;> with_reducible rfl)
        try simp only [Act.put, List.setIfInBounds_toArray, List.set_cons_zero, List.set_cons_succ]
        refine hR.take (i := 9) (oi := ?ow194_9) (v := ?vw194_9) (m' := 1023) ?hw194_9 (by kernel_rfl) (by kernel_rfl) (fun _ _ _ h => h) (Or.inl ⟨?sw194_9, ?yw194_9⟩) (by assumption) ?nw194_9
        case hw194_9 => simp only [List.getElem?_toArray, List.getElem?_cons_succ, List.getElem?_cons_zero]; rfl
        case sw194_9 => rfl
        case yw194_9 => (intro w hSw; (try dsimp only at hSw); go_simp <;> with_reducible rfl)
        try simp only [Act.put, List.setIfInBounds_toArray, List.set_cons_zero, List.set_cons_succ]
        refine hR.take (i := 10) (oi := ?ow195_10) (v := ?vw195_10) (m' := 2047) ?hw195_10 (by kernel_rfl) (by kernel_rfl) (fun _ _ _ h => h) (Or.inl ⟨?sw195_10, ?yw195_10⟩) (by assumption) ?nw195_10
        case hw195_10 => simp only [List.getElem?_toArray, List.getElem?_cons_succ, List.getElem?_cons_zero]; rfl
        case sw195_10 => rfl
        case yw195_10 => (intro w hSw; (try dsimp only at hSw); go_simp <;> with_reducible rfl)
        try simp only [Act.put, List.setIfInBounds_toArray, List.set_cons_zero, List.set_cons_succ]
        refine hR.take (i := 11) (oi := ?ow196_11) (v := ?vw196_11) (m' := 4095) ?hw196_11 (by kernel_rfl) (by kernel_rfl) (fun _ _ _ h => h) (Or.inl ⟨?sw196_11, ?yw196_11⟩) (by assumption) ?nw196_11
        case hw196_11 => simp only [List.getElem?_toArray, List.getElem?_cons_succ, List.getElem?_cons_zero]; rfl
        case sw196_11 => rfl
        case yw196_11 => (intro w hSw; (try dsimp only at hSw); go_simp <;> with_reducible rfl)
        try simp only [Act.put, List.setIfInBounds_toArray, List.set_cons_zero, List.set_cons_succ]
        refine hR.take (i := 12) (oi := ?ow197_12) (v := ?vw197_12) (m' := 8191) ?hw197_12 (by kernel_rfl) (by kernel_rfl) (fun _ _ _ h => h) (Or.inl ⟨?sw197_12, ?yw197_12⟩) (by assumption) ?nw197_12
        case hw197_12 => simp only [List.getElem?_toArray, List.getElem?_cons_succ, List.getElem?_cons_zero]; rfl
        case sw197_12 => rfl
        case yw197_12 => (intro w hSw; (try dsimp only at hSw); go_simp <;> with_reducible rfl)
        try simp only [Act.put, List.setIfInBounds_toArray, List.set_cons_zero, List.set_cons_succ]
        refine hR.take (i := 13) (oi := ?ow198_13) (v := ?vw198_13) (m' := 16383) ?hw198_13 (by kernel_rfl) (by kernel_rfl) (fun _ _ _ h => h) (Or.inl ⟨?sw198_13, ?yw198_13⟩) (by assumption) ?nw198_13
        case hw198_13 => simp only [List.getElem?_toArray, List.getElem?_cons_succ, List.getElem?_cons_zero]; rfl
        case sw198_13 => rfl
        case yw198_13 => (intro w hSw; (try dsimp only at hSw); go_simp <;> with_reducible rfl)
        try simp only [Act.put, List.setIfInBounds_toArray, List.set_cons_zero, List.set_cons_succ]
        refine hR.take (i := 14) (oi := ?ow199_14) (v := ?vw199_14) (m' := 32767) ?hw199_14 (by kernel_rfl) (by kernel_rfl) (fun _ _ _ h => h) (Or.inl ⟨?sw199_14, ?yw199_14⟩) (by assumption) ?nw199_14
        case hw199_14 => simp only [List.getElem?_toArray, List.getElem?_cons_succ, List.getElem?_cons_zero]; rfl
        case sw199_14 => rfl
        case yw199_14 => (intro w hSw; (try dsimp only at hSw); go_simp <;> with_reducible rfl)
        try simp only [Act.put, List.setIfInBounds_toArray, List.set_cons_zero, List.set_cons_succ]
        refine hR.take (i := 15) (oi := ?ow200_15) (v := ?vw200_15) (m' := 65535) ?hw200_15 (by kernel_rfl) (by kernel_rfl) (fun _ _ _ h => h) (Or.inr ⟨?sw200_15, ?yw200_15⟩) (by assumption) ?nw200_15
        case hw200_15 => simp only [List.getElem?_toArray, List.getElem?_cons_succ, List.getElem?_cons_zero]; rfl
        case sw200_15 => rfl
        case yw200_15 => rfl
        try simp only [Act.put, List.setIfInBounds_toArray, List.set_cons_zero, List.set_cons_succ]
        refine hR.take (i := 16) (oi := ?ow201_16) (v := ?vw201_16) (m' := 131071) ?hw201_16 (by kernel_rfl) (by kernel_rfl) (fun _ _ _ h => h) (Or.inr ⟨?sw201_16, ?yw201_16⟩) (by assumption) ?nw201_16
        case hw201_16 => simp only [List.getElem?_toArray, List.getElem?_cons_succ, List.getElem?_cons_zero]; rfl
        case sw201_16 => rfl
        case yw201_16 => rfl
        try simp only [Act.put, List.setIfInBounds_toArray, List.set_cons_zero, List.set_cons_succ]
        refine hR.take (i := 17) (oi := ?ow202_17) (v := ?vw202_17) (m' := 262143) ?hw202_17 (by kernel_rfl) (by kernel_rfl) (fun _ _ _ h => h) (Or.inr ⟨?sw202_17, ?yw202_17⟩) (by assumption) ?nw202_17
        case hw202_17 => simp only [List.getElem?_toArray, List.getElem?_cons_succ, List.getElem?_cons_zero]; rfl
        case sw202_17 => rfl
        case yw202_17 => rfl
        try simp only [Act.put, List.setIfInBounds_toArray, List.set_cons_zero, List.set_cons_succ]
        refine hR.take (i := 18) (oi := ?ow203_18) (v := ?vw203_18) (m' := 524287) ?hw203_18 (by kernel_rfl) (by kernel_rfl) (fun _ _ _ h => h) (Or.inr ⟨?sw203_18, ?yw203_18⟩) (by assumption) ?nw203_18
        case hw203_18 => simp only [List.getElem?_toArray, List.getElem?_cons_succ, List.getElem?_cons_zero]; rfl
        case sw203_18 => rfl
        case yw203_18 => rfl
        try simp only [Act.put, List.setIfInBounds_toArray, List.set_cons_zero, List.set_cons_succ]
        refine hR.take (i := 19) (oi := ?ow204_19) (v := ?vw204_19) (m' := 1048575) ?hw204_19 (by kernel_rfl) (by kernel_rfl) (fun _ _ _ h => h) (Or.inr ⟨?sw204_19, ?yw204_19⟩) (by assumption) ?nw204_19
        case hw204_19 => simp only [List.getElem?_toArray, List.getElem?_cons_succ, List.getElem?_cons_zero]; rfl
        case sw204_19 => rfl
        case yw204_19 => rfl
        try simp only [Act.put, List.setIfInBounds_toArray, List.set_cons_zero, List.set_cons_succ]
        refine hR.take (i := 20) (oi := ?ow205_20) (v := ?vw205_20) (m' := 2097151) ?hw205_20 (by kernel_rfl) (by kernel_rfl) (fun _ _ _ h => h) (Or.inr ⟨?sw205_20, ?yw205_20⟩) (by assumption) ?nw205_20
        case hw205_20 => simp only [List.getElem?_toArray, List.getElem?_cons_succ, List.getElem?_cons_zero]; rfl
        case sw205_20 => rfl
        case yw205_20 => rfl
        try simp only [Act.put, List.setIfInBounds_toArray, List.set_cons_zero, List.set_cons_succ]
        refine hR.take (i := 21) (oi := ?ow206_21) (v := ?vw206_21) (m' := 4194303) ?hw206_21 (by kernel_rfl) (by kernel_rfl) (fun _ _ _ h => h) (Or.inl ⟨?sw206_21, ?yw206_21⟩) (by assumption) ?nw206_21
        case hw206_21 => simp only [List.getElem?_toArray, List.getElem?_cons_succ, List.getElem?_cons_zero]; rfl
        case sw206_21 => rfl
        case yw206_21 => (intro w hSw; (try dsimp only at hSw); go_simp <;> with_reducible rfl)
        try simp only [Act.put, List.setIfInBounds_toArray, List.set_cons_zero, List.set_cons_succ]
        refine hR.take (i := 22) (oi := ?ow207_22) (v := ?vw207_22) (m' := 8388607) ?hw207_22 (by kernel_rfl) (by kernel_rfl) (fun _ _ _ h => h) (Or.inl ⟨?sw207_22, ?yw207_22⟩) (by assumption) ?nw207_22
        case hw207_22 => simp only [List.getElem?_toArray, List.getElem?_cons_succ, List.getElem?_cons_zero]; rfl
        case sw207_22 => rfl
        case yw207_22 => (intro w hSw; (try dsimp only at hSw); go_simp <;> with_reducible rfl)
        try simp only [Act.put, List.setIfInBounds_toArray, List.set_cons_zero, List.set_cons_succ]
        refine hR.take (i := 23) (oi := ?ow208_23) (v := ?vw208_23) (m' := 16777215) ?hw208_23 (by kernel_rfl) (by kernel_rfl) (fun _ _ _ h => h) (Or.inr ⟨?sw208_23, ?yw208_23⟩) (by assumption) ?nw208_23
        case hw208_23 => simp only [List.getElem?_toArray, List.getElem?_cons_succ, List.getElem?_cons_zero]; rfl
        case sw208_23 => rfl
        case yw208_23 => rfl
        try simp only [Act.put, List.setIfInBounds_toArray, List.set_cons_zero, List.set_cons_succ]
        refine hR.take (i := 24) (oi := ?ow209_24) (v := ?vw209_24) (m' := 33554431) ?hw209_24 (by kernel_rfl) (by kernel_rfl) (fun _ _ _ h => h) (Or.inr ⟨?sw209_24, ?yw209_24⟩) (by assumption) ?nw209_24
        case hw209_24 => simp only [List.getElem?_toArray, List.getElem?_cons_succ, List.getElem?_cons_zero]; rfl
        case sw209_24 => rfl
        case yw209_24 => rfl
        try simp only [Act.put, List.setIfInBounds_toArray, List.set_cons_zero, List.set_cons_succ]
        refine hR.take (i := 25) (oi := ?ow210_25) (v := ?vw210_25) (m' := 67108863) ?hw210_25 (by kernel_rfl) (by kernel_rfl) (fun _ _ _ h => h) (Or.inr ⟨?sw210_25, ?yw210_25⟩) (by assumption) ?nw210_25
        case hw210_25 => simp only [List.getElem?_toArray, List.getElem?_cons_succ, List.getElem?_cons_zero]; rfl
        case sw210_25 => rfl
        case yw210_25 => rfl
        try simp only [Act.put, List.setIfInBounds_toArray, List.set_cons_zero, List.set_cons_succ]
        refine hR.take (i := 26) (oi := ?ow211_26) (v := ?vw211_26) (m' := 134217727) ?hw211_26 (by kernel_rfl) (by kernel_rfl) (fun _ _ _ h => h) (Or.inr ⟨?sw211_26, ?yw211_26⟩) (by assumption) ?nw211_26
        case hw211_26 => simp only [List.getElem?_toArray, List.getElem?_cons_succ, List.getElem?_cons_zero]; rfl
        case sw211_26 => rfl
        case yw211_26 => rfl
        try simp only [Act.put, List.setIfInBounds_toArray, List.set_cons_zero, List.set_cons_succ]
        refine hR.take (i := 27) (oi := ?ow212_27) (v := ?vw212_27) (m' := 268435455) ?hw212_27 (by kernel_rfl) (by kernel_rfl) (fun _ _ _ h => h) (Or.inr ⟨?sw212_27, ?yw212_27⟩) (by assumption) ?nw212_27
        case hw212_27 => simp only [List.getElem?_toArray, List.getElem?_cons_succ, List.getElem?_cons_zero]; rfl
        case sw212_27 => rfl
        case yw212_27 => rfl
        try simp only [Act.put, List.setIfInBounds_toArray, List.set_cons_zero, List.set_cons_succ]
        refine hR.take (i := 28) (oi := ?ow213_28) (v := ?vw213_28) (m' := 536870911) ?hw213_28 (by kernel_rfl) (by kernel_rfl) (fun _ _ _ h => h) (Or.inr ⟨?sw213_28, ?yw213_28⟩) (by assumption) ?nw213_28
        case hw213_28 => simp only [List.getElem?_toArray, List.getElem?_cons_succ, List.getElem?_cons_zero]; rfl
        case sw213_28 => rfl
        case yw213_28 => rfl
        try simp only [Act.put, List.setIfInBounds_toArray, List.set_cons_zero, List.set_cons_succ]
        refine hR.take (i := 29) (oi := ?ow214_29) (v := ?vw214_29) (m' := 1073741823) ?hw214_29 (by kernel_rfl) (by kernel_rfl) (fun _ _ _ h => h) (Or.inr ⟨?sw214_29, ?yw214_29⟩) (by assumption) ?nw214_29
        case hw214_29 => simp only [List.getElem?_toArray, List.getElem?_cons_succ, List.getElem?_cons_zero]; rfl
        case sw214_29 => rfl
        case yw214_29 => rfl
        try simp only [Act.put, List.setIfInBounds_toArray, List.set_cons_zero, List.set_cons_succ]
        refine hR.take (i := 30) (oi := ?ow215_30) (v := ?vw215_30) (m' := 2147483647) ?hw215_30 (by kernel_rfl) (by kernel_rfl) (fun _ _ _ h => h) (Or.inr ⟨?sw215_30, ?yw215_30⟩) (by assumption) ?nw215_30
        case hw215_30 => simp only [List.getElem?_toArray, List.getElem?_cons_succ, List.getElem?_cons_zero]; rfl
        case sw215_30 => rfl
        case yw215_30 => rfl
        try simp only [Act.put, List.setIfInBounds_toArray, List.set_cons_zero, List.set_cons_succ]
        refine hR.take (i := 31) (oi := ?ow216_31) (v := ?vw216_31) (m' := 4294967295) ?hw216_31 (by kernel_rfl) (by kernel_rfl) (fun _ _ _ h => h) (Or.inr ⟨?sw216_31, ?yw216_31⟩) (by assumption) ?nw216_31
        case hw216_31 => simp only [List.getElem?_toArray, List.getElem?_cons_succ, List.getElem?_cons_zero]; rfl
        case sw216_31 => rfl
        case yw216_31 => rfl
        try simp only [Act.put, List.setIfInBounds_toArray, List.set_cons_zero, List.set_cons_succ]
        refine hR.take (i := 32) (oi := ?ow217_32) (v := ?vw217_32) (m' := 8589934591) ?hw217_32 (by kernel_rfl) (by kernel_rfl) (fun _ _ _ h => h) (Or.inr ⟨?sw217_32, ?yw217_32⟩) (by assumption) ?nw217_32
        case hw217_32 => simp only [List.getElem?_toArray, List.getElem?_cons_succ, List.getElem?_cons_zero]; rfl
        case sw217_32 => rfl
        case yw217_32 => rfl
        try simp only [Act.put, List.setIfInBounds_toArray, List.set_cons_zero, List.set_cons_succ]
        refine hR.take (i := 33) (oi := ?ow218_33) (v := ?vw218_33) (m' := 17179869183) ?hw218_33 (by kernel_rfl) (by kernel_rfl) (fun _ _ _ h => h) (Or.inr ⟨?sw218_33, ?yw218_33⟩) (by assumption) ?nw218_33
        case hw218_33 => simp only [List.getElem?_toArray, List.getElem?_cons_succ, List.getElem?_cons_zero]; rfl
        case sw218_33 => rfl
        case yw218_33 => rfl
        try simp only [Act.put, List.setIfInBounds_toArray, List.set_cons_zero, List.set_cons_succ]
        refine hR.take (i := 34) (oi := ?ow219_34) (v := ?vw219_34) (m' := 34359738367) ?hw219_34 (by kernel_rfl) (by kernel_rfl) (fun _ _ _ h => h) (Or.inl ⟨?sw219_34, ?yw219_34⟩) (by assumption) ?nw219_34
        case hw219_34 => simp only [List.getElem?_toArray, List.getElem?_cons_succ, List.getElem?_cons_zero]; rfl
        case sw219_34 => rfl
        case yw219_34 => (intro w hSw; (try dsimp only at hSw); go_simp <;> with_reducible rfl)
        try simp only [Act.put, List.setIfInBounds_toArray, List.set_cons_zero, List.set_cons_succ]
        refine hR.take (i := 35) (oi := ?ow220_35) (v := ?vw220_35) (m' := 68719476735) ?hw220_35 (by kernel_rfl) (by kernel_rfl) (fun _ _ _ h => h) (Or.inl ⟨?sw220_35, ?yw220_35⟩) (by assumption) ?nw220_35
        case hw220_35 => simp only [List.getElem?_toArray, List.getElem?_cons_succ, List.getElem?_cons_zero]; rfl
        case sw220_35 => rfl
        case yw220_35 => (intro w hSw; (try dsimp only at hSw); go_simp <;> with_reducible rfl)
        try simp only [Act.put, List.setIfInBounds_toArray, List.set_cons_zero, List.set_cons_succ]
        refine hR.take (i := 36) (oi := ?ow221_36) (v := ?vw221_36) (m' := 137438953471) ?hw221_36 (by kernel_rfl) (by kernel_rfl) (fun _ _ _ h => h) (Or.inr ⟨?sw221_36, ?yw221_36⟩) (by assumption) ?nw221_36
        case hw221_36 => simp only [List.getElem?_toArray, List.getElem?_cons_succ, List.getElem?_cons_zero]; rfl
        case sw221_36 => rfl
        case yw221_36 => rfl
        try simp only [Act.put, List.setIfInBounds_toArray, List.set_cons_zero, List.set_cons_succ]
        refine hR.take (i := 37) (oi := ?ow222_37) (v := ?vw222_37) (m' := 274877906943) ?hw222_37 (by kernel_rfl) (by kernel_rfl) (fun _ _ _ h => h) (Or.inr ⟨?sw222_37, ?yw222_37⟩) (by assumption) ?nw222_37
        case hw222_37 => simp only [List.getElem?_toArray, List.getElem?_cons_succ, List.getElem?_cons_zero]; rfl
        case sw222_37 => rfl
        case yw222_37 => rfl
        try simp only [Act.put, List.setIfInBounds_toArray, List.set_cons_zero, List.set_cons_succ]
        refine hR.take (i := 38) (oi := ?ow223_38) (v := ?vw223_38) (m' := 549755813887) ?hw223_38 (by kernel_rfl) (by kernel_rfl) (fun _ _ _ h => h) (Or.inr ⟨?sw223_38, ?yw223_38⟩) (by assumption) ?nw223_38
        case hw223_38 => simp only [List.getElem?_toArray, List.getElem?_cons_succ, List.getElem?_cons_zero]; rfl
        case sw223_38 => rfl
        case yw223_38 => rfl
        try simp only [Act.put, List.setIfInBounds_toArray, List.set_cons_zero, List.set_cons_succ]
        refine hR.take (i := 39) (oi := ?ow224_39) (v := ?vw224_39) (m' := 1099511627775) ?hw224_39 (by kernel_rfl) (by kernel_rfl) (fun _ _ _ h => h) (Or.inr ⟨?sw224_39, ?yw224_39⟩) (by assumption) ?nw224_39
        case hw224_39 => simp only [List.getElem?_toArray, List.getElem?_cons_succ, List.getElem?_cons_zero]; rfl
        case sw224_39 => rfl
        case yw224_39 => rfl
        try simp only [Act.put, List.setIfInBounds_toArray, List.set_cons_zero, List.set_cons_succ]
        refine hR.take (i := 40) (oi := ?ow225_40) (v := ?vw225_40) (m' := 2199023255551) ?hw225_40 (by kernel_rfl) (by kernel_rfl) (fun _ _ _ h => h) (Or.inr ⟨?sw225_40, ?yw225_40⟩) (by assumption) ?nw225_40
        case hw225_40 => simp only [List.getElem?_toArray, List.getElem?_cons_succ, List.getElem?_cons_zero]; rfl
        case sw225_40 => rfl
        case yw225_40 => rfl
        try simp only [Act.put, List.setIfInBounds_toArray, List.set_cons_zero, List.set_cons_succ]
        refine hR.take (i := 41) (oi := ?ow226_41) (v := ?vw226_41) (m' := 4398046511103) ?hw226_41 (by kernel_rfl) (by kernel_rfl) (fun _ _ _ h => h) (Or.inr ⟨?sw226_41, ?yw226_41⟩) (by assumption) ?nw226_41
        case hw226_41 => simp only [List.getElem?_toArray, List.getElem?_cons_succ, List.getElem?_cons_zero]; rfl
        case sw226_41 => rfl
        case yw226_41 => rfl
        try simp only [Act.put, List.setIfInBounds_toArray, List.set_cons_zero, List.set_cons_succ]
        refine hR.take (i := 42) (oi := ?ow227_42) (v := ?vw227_42) (m' := 8796093022207) ?hw227_42 (by kernel_rfl) (by kernel_rfl) (fun _ _ _ h => h) (Or.inr ⟨?sw227_42, ?yw227_42⟩) (by assumption) ?nw227_42
        case hw227_42 => simp only [List.getElem?_toArray, List.getElem?_cons_succ, List.getElem?_cons_zero]; rfl
        case sw227_42 => rfl
        case yw227_42 => rfl
        try simp only [Act.put, List.setIfInBounds_toArray, List.set_cons_zero, List.set_cons_succ]
        refine hR.take (i := 43) (oi := ?ow228_43) (v := ?vw228_43) (m' := 17592186044415) ?hw228_43 (by kernel_rfl) (by kernel_rfl) (fun _ _ _ h => h) (Or.inr ⟨?sw228_43, ?yw228_43⟩) (by assumption) ?nw228_43
        case hw228_43 => simp only [List.getElem?_toArray, List.getElem?_cons_succ, List.getElem?_cons_zero]; rfl
        case sw228_43 => rfl
        case yw228_43 => rfl
        try simp only [Act.put, List.setIfInBounds_toArray, List.set_cons_zero, List.set_cons_succ]
        refine hR.take (i := 44) (oi := ?ow229_44) (v := ?vw229_44) (m' := 35184372088831) ?hw229_44 (by kernel_rfl) (by kernel_rfl) (fun _ _ _ h => h) (Or.inr ⟨?sw229_44, ?yw229_44⟩) (by assumption) ?nw229_44
        case hw229_44 => simp only [List.getElem?_toArray, List.getElem?_cons_succ, List.getElem?_cons_zero]; rfl
        case sw229_44 => rfl
        case yw229_44 => rfl
        try simp only [Act.put, List.setIfInBounds_toArray, List.set_cons_zero, List.set_cons_succ]
        refine hR.take (i := 45) (oi := ?ow230_45) (v := ?vw230_45) (m' := 70368744177663) ?hw230_45 (by kernel_rfl) (by kernel_rfl) (fun _ _ _ h => h) (Or.inr ⟨?sw230_45, ?yw230_45⟩) (by assumption) ?nw230_45
        case hw230_45 => simp only [List.getElem?_toArray, List.getElem?_cons_succ, List.getElem?_cons_zero]; rfl
        case sw230_45 => rfl
        case yw230_45 => rfl
        try simp only [Act.put, List.setIfInBounds_toArray, List.set_cons_zero, List.set_cons_succ]
        refine hR.take (i := 46) (oi := ?ow231_46) (v := ?vw231_46) (m' := 140737488355327) ?hw231_46 (by kernel_rfl) (by kernel_rfl) (fun _ _ _ h => h) (Or.inr ⟨?sw231_46, ?yw231_46⟩) (by assumption) ?nw231_46
        case hw231_46 => simp only [List.getElem?_toArray, List.getElem?_cons_succ, List.getElem?_cons_zero]; rfl
        case sw231_46 => rfl
        case yw231_46 => rfl
        try simp only [Act.put, List.setIfInBounds_toArray, List.set_cons_zero, List.set_cons_succ]
        refine hR.take (i := 47) (oi := ?ow232_47) (v := ?vw232_47) (m' := 281474976710655) ?hw232_47 (by kernel_rfl) (by kernel_rfl) (fun _ _ _ h => h) (Or.inr ⟨?sw232_47, ?yw232_47⟩) (by assumption) ?nw232_47
        case hw232_47 => simp only [List.getElem?_toArray, List.getElem?_cons_succ, List.getElem?_cons_zero]; rfl
        case sw232_47 => rfl
        case yw232_47 => rfl
        try simp only [Act.put, List.setIfInBounds_toArray, List.set_cons_zero, List.set_cons_succ]
        refine hR.take (i := 48) (oi := ?ow233_48) (v := ?vw233_48) (m' := 562949953421311) ?hw233_48 (by kernel_rfl) (by kernel_rfl) (fun _ _ _ h => h) (Or.inl ⟨?sw233_48, ?yw233_48⟩) (by assumption) ?nw233_48
        case hw233_48 => simp only [List.getElem?_toArray, List.getElem?_cons_succ, List.getElem?_cons_zero]; rfl
        case sw233_48 => rfl
        case yw233_48 => (intro w hSw; (try dsimp only at hSw); go_simp <;> with_reducible rfl)
        try simp only [Act.put, List.setIfInBounds_toArray, List.set_cons_zero, List.set_cons_succ]
        refine hR.all (by kernel_rfl) ?_ _
        refine NoPanic.normal ?_
        go_wp2_with fail
        go_ret
        exact ⟨ret_b (not_cd (List.mem_of_getElem? Hx.out) hv.out).symm, Hb.out.drew⟩
      have f2 : (3 < x.col) = False := eq_false c2
      by_cases c3 : x.lo < 0
      · have f3 : (x.lo < 0) = True := eq_true c3
        have hv := Lib.hid (show validCdB x = false from decide_eq_false (fun h => by unfold ValidCd at h; omega))
        refine wp_region_noPanic ?_
        refine wp_region_held_drew (S := fun X => Below wr.heap.size wr X) (by kernel_rfl) ?_ (fun hHeld => ?_)
        · (first | with_reducible assumption | (with_reducible refine Below.drew ?_; with_reducible assumption) | (with_reducible refine ba _ _ ?_; with_reducible assumption) | (with_reducible refine Below.drew ?_; with_reducible refine ba _ _ ?_; with_reducible assumption) | exact Below.refl _ _ | exact (Below.refl _ _).drew | exact (Below.refl _ _).alloc (Nat.le_refl _) _ | (refine bc _ _ (by assumption) (by assumption)))
        refine RegOk.begin_ (n := 49) (T := q5A) ⟨by kernel_rfl, by kernel_rfl, by kernel_rfl, by kernel_rfl⟩ fun hR => ?_
        refine hR.take (i := 0) (oi := ?ow234_0) (v := ?vw234_0) (m' := 1) ?hw234_0 (by kernel_rfl) (by kernel_rfl) (fun _ _ _ h => h) (Or.inl ⟨?sw234_0, ?yw234_0⟩) (by assumption) ?nw234_0
        case hw234_0 => simp only [List.getElem?_toArray, List.getElem?_cons_succ, List.getElem?_cons_zero]; rfl
        case sw234_0 => rfl
        case yw234_0 => (intro w hSw; (try dsimp only at hSw); go_simp <;> with_reducible rfl)
        try simp only [Act.put, List.setIfInBounds_toArray, List.set_cons_zero, List.set_cons_succ]
        refine hR.take (i := 1) (oi := ?ow235_1) (v := ?vw235_1) (m' := 3) ?hw235_1 (by kernel_rfl) (by kernel_rfl) (fun _ _ _ h => h) (Or.inl ⟨?sw235_1, ?yw235_1⟩) (by assumption) ?nw235_1
        case hw235_1 => simp only [List.getElem?_toArray, List.getElem?_cons_succ, List.getElem?_cons_zero]; rfl
        case sw235_1 => rfl
        case yw235_1 => (intro w hSw; (try dsimp only at hSw); go_simp <;> with_reducible rfl)
        try simp only [Act.put, List.setIfInBounds_toArray, List.set_cons_zero, List.set_cons_succ]
        refine hR.take (i := 2) (oi := ?ow236_2) (v := ?vw236_2) (m' := 7) ?hw236_2 (by kernel_rfl) (by kernel_rfl) (fun _ _ _ h => h) (Or.inl ⟨?sw236_2, ?yw236_2⟩) (by assumption) ?nw236_2
        case hw236_2 => simp only [List.getElem?_toArray, List.getElem?_cons_succ, List.getElem?_cons_zero]; rfl
        case sw236_2 => rfl
        case yw236_2 => (intro w hSw; (try dsimp only at hSw); go_simp <;> with_reducible rfl)
        try simp only [Act.put, List.setIfInBounds_toArray, List.set_cons_zero, List.set_cons_succ]
        refine hR.take (i := 3) (oi := ?ow237_3) (v := ?vw237_3) (m' := 15) ?hw237_3 (by kernel_rfl) (by kernel_rfl) (fun _ _ _ h => h) (Or.inl ⟨?sw237_3, ?yw237_3⟩) (by assumption) ?nw237_3
        case hw237_3 => simp only [List.getElem?_toArray, List.getElem?_cons_succ, List.getElem?_cons_zero]; rfl
        case sw237_3 => rfl
        case yw237_3 => (intro w hSw; (try dsimp only at hSw); go_simp <;> with_reducible rfl)
        try simp only [Act.put, List.setIfInBounds_toArray, List.set_cons_zero, List.set_cons_succ]
        refine hR.take (i := 4) (oi := ?ow238_4) (v := ?vw238_4) (m' := 31) ?hw238_4 (by kernel_rfl) (by kernel_rfl) (fun _ _ _ h => h) (Or.inl ⟨?sw238_4, ?yw238_4⟩) (by assumption) ?nw238_4
        case hw238_4 => simp only [List.getElem?_toArray, List.getElem?_cons_succ, List.getElem?_cons_zero]; rfl
        case sw238_4 => rfl
        case yw238_4 => (intro w hSw; (try dsimp only at hSw); go_simp <;> with_reducible rfl)
        try simp only [Act.put, List.setIfInBounds_toArray, List.set_cons_zero, List.set_cons_succ]
        refine hR.take (i := 5) (oi := ?ow239_5) (v := ?vw239_5) (m' := 63) ?hw239_5 (by kernel_rfl) (by kernel_rfl) (fun _ _ _ h => h) (Or.inl ⟨?sw239_5, ?yw239_5⟩) (by assumption) ?nw239_5
        case hw239_5 => simp only [List.getElem?_toArray, List.getElem?_cons_succ, List.getElem?_cons_zero]; rfl
        case sw239_5 => rfl
        case yw239_5 => (intro w hSw; (try dsimp only at hSw); go_simp <;> with_reducible rfl)
        try simp only [Act.put, List.setIfInBounds_toArray, List.set_cons_zero, List.set_cons_succ]
        refine hR.take (i := 6) (oi := ?ow240_6) (v := ?vw240_6) (m' := 127) ?hw240_6 (by kernel_rfl) (by kernel_rfl) (fun _ _ _ h => h) (Or.inl ⟨?sw240_6, ?yw240_6⟩) (by assumption) ?nw240_6
        case hw240_6 => simp only [List.getElem?_toArray, List.getElem?_cons_succ, List.getElem?_cons_zero]; rfl
        case sw240_6 => rfl
        case yw240_6 => (intro w hSw; (try dsimp only at hSw); go_simp <;> with_reducible rfl)
        try simp only [Act.put, List.setIfInBounds_toArray, List.set_cons_zero, List.set_cons_succ]
        refine hR.take (i := 7) (oi := ?ow241_7) (v := ?vw241_7) (m' := 255) ?hw241_7 (by kernel_rfl) (by kernel_rfl) (fun _ _ _ h => h) (Or.inl ⟨?sw241_7, ?yw241_7⟩) (by assumption) ?nw241_7
        case hw241_7 => simp only [List.getElem?_toArray, List.getElem?_cons_succ, List.getElem?_cons_zero]; rfl
        case sw241_7 => rfl
        case yw241_7 => (intro w hSw; (try dsimp only at hSw); go_simp <;> with_reducible rfl)
        try simp only [Act.put, List.setIfInBounds_toArray, List.set_cons_zero, List.set_cons_succ]
        refine hR.take (i := 8) (oi := ?ow242_8) (v := ?vw242_8) (m' := 511) ?hw242_8 (by kernel_rfl) (by kernel_rfl) (fun _ _ _ h => h) (Or.inl ⟨?sw242_8, ?yw242_8⟩) (by assumption) ?nw242_8
        case hw242_8 => simp only [List.getElem?_toArray, List.getElem?_cons_succ, List.getElem?_cons_zero]; rfl
        case sw242_8 => rfl
        case yw242_8 => (intro w hSw; (try dsimp only at hSw); go_simp <;> with_reducible rfl)
        try simp only [Act.put, List.setIfInBounds_toArray, List.set_cons_zero, List.set_cons_succ]
        refine hR.take (i := 9) (oi := ?ow243_9) (v := ?vw243_9) (m' := 1023) ?hw243_9 (by kernel_rfl) (by kernel_rfl) (fun _ _ _ h => h) (Or.inl ⟨?sw243_9, ?yw243_9⟩) (by assumption) ?nw243_9
        case hw243_9 => simp only [List.getElem?_toArray, List.getElem?_cons_succ, List.getElem?_cons_zero]; rfl
        case sw243_9 => rfl
        case yw243_9 => (intro w hSw; (try dsimp only at hSw); go_simp <;> with_reducible rfl)
        try simp only [Act.put, List.setIfInBounds_toArray, List.set_cons_zero, List.set_cons_succ]
        refine hR.take (i := 10) (oi := ?ow244_10) (v := ?vw244_10) (m' := 2047) ?hw244_10 (by kernel_rfl) (by kernel_rfl) (fun _ _ _ h => h) (Or.inl ⟨?sw244_10, ?yw244_10⟩) (by assumption) ?nw244_10
        case hw244_10 => simp only [List.getElem?_toArray, List.getElem?_cons_succ, List.getElem?_cons_zero]; rfl
        case sw244_10 => rfl
        case yw244_10 => (intro w hSw; (try dsimp only at hSw); go_simp <;> with_reducible rfl)
        try simp only [Act.put, List.setIfInBounds_toArray, List.set_cons_zero, List.set_cons_succ]
        refine hR.take (i := 11) (oi := ?ow245_11) (v := ?vw245_11) (m' := 4095) ?hw245_11 (by kernel_rfl) (by kernel_rfl) (fun _ _ _ h => h) (Or.inl ⟨?sw245_11, ?yw245_11⟩) (by assumption) ?nw245_11
        case hw245_11 => simp only [List.getElem?_toArray, List.getElem?_cons_succ, List.getElem?_cons_zero]; rfl
        case sw245_11 => rfl
        case yw245_11 => (intro w hSw; (try dsimp only at hSw); go_simp <;> with_reducible rfl)
        try simp only [Act.put, List.setIfInBounds_toArray, List.set_cons_zero, List.set_cons_succ]
        refine hR.take (i := 12) (oi := ?ow246_12) (v := ?vw246_12) (m' := 8191) ?hw246_12 (by kernel_rfl) (by kernel_rfl) (fun _ _ _ h => h) (Or.inl ⟨?sw246_12, ?yw246_12⟩) (by assumption) ?nw246_12
        case hw246_12 => simp only [List.getElem?_toArray, List.getElem?_cons_succ, List.getElem?_cons_zero]; rfl
        case sw246_12 => rfl
        case yw246_12 => (intro w hSw; (try dsimp only at hSw); go_simp <;> with_reducible rfl)
        try simp only [Act.put, List.setIfInBounds_toArray, List.set_cons_zero, List.set_cons_succ]
        refine hR.take (i := 13) (oi := ?ow247_13) (v := ?vw247_13) (m' := 16383) ?hw247_13 (by kernel_rfl) (by kernel_rfl) (fun _ _ _ h => h) (Or.inl ⟨?sw247_13, ?yw247_13⟩) (by assumption) ?nw247_13
        case hw247_13 => simp only [List.getElem?_toArray, List.getElem?_cons_succ, List.getElem?_cons_zero]; rfl
        case sw247_13 => rfl
        case yw247_13 => (intro w hSw; (try dsimp only at hSw); go_simp <;> with_reducible rfl)
        try simp only [Act.put, List.setIfInBounds_toArray, List.set_cons_zero, List.set_cons_succ]
        refine hR.take (i := 14) (oi := ?ow248_14) (v := ?vw248_14) (m' := 32767) ?hw248_14 (by kernel_rfl) (by kernel_rfl) (fun _ _ _ h => h) (Or.inl ⟨?sw248_14, ?yw248_14⟩) (by assumption) ?nw248_14
        case hw248_14 => simp only [List.getElem?_toArray, List.getElem?_cons_succ, List.getElem?_cons_zero]; rfl
        case sw248_14 => rfl
        case yw248_14 => (intro w hSw; (try dsimp only at hSw); go_simp <;> with_reducible rfl)
        try simp only [Act.put, List.setIfInBounds_toArray, List.set_cons_zero, List.set_cons_succ]
        refine hR.take (i := 15) (oi := ?ow249_15) (v := ?vw249_15) (m' := 65535) ?hw249_15 (by kernel_rfl) (by kernel_rfl) (fun _ _ _ h => h) (Or.inl ⟨?sw249_15, ?yw249_15⟩) (by assumption) ?nw249_15
        case hw249_15 => simp only [List.getElem?_toArray, List.getElem?_cons_succ, List.getElem?_cons_zero]; rfl
        case sw249_15 => rfl
        case yw249_15 => (intro w hSw; (try dsimp only at hSw); go_simp <;> with_reducible rfl)
        try simp only [Act.put, List.setIfInBounds_toArray, List.set_cons_zero, List.set_cons_succ]
        refine hR.take (i := 16) (oi := ?ow250_16) (v := ?vw250_16) (m' := 131071) ?hw250_16 (by kernel_rfl) (by kernel_rfl) (fun _ _ _ h => h) (Or.inl ⟨?sw250_16, ?yw250_16⟩) (by assumption) ?nw250_16
        case hw250_16 => simp only [List.getElem?_toArray, List.getElem?_cons_succ, List.getElem?_cons_zero]; rfl
        case sw250_16 => rfl
        case yw250_16 => (intro w hSw; (try dsimp only at hSw); go_simp <;> with_reducible rfl)
        try simp only [Act.put, List.setIfInBounds_toArray, List.set_cons_zero, List.set_cons_succ]
        refine hR.take (i := 17) (oi := ?ow251_17) (v := ?vw251_17) (m' := 262143) ?hw251_17 (by kernel_rfl) (by kernel_rfl) (fun _ _ _ h => h) (Or.inl ⟨?sw251_17, ?yw251_17⟩) (by assumption) ?nw251_17
        case hw251_17 => simp only [List.getElem?_toArray, List.getElem?_cons_succ, List.getElem?_cons_zero]; rfl
        case sw251_17 => rfl
        case yw251_17 => (intro w hSw; (try dsimp only at hSw); go_simp <;> with_reducible rfl)
        try simp only [Act.put, List.setIfInBounds_toArray, List.set_cons_zero, List.set_cons_succ]
        refine hR.take (i := 18) (oi := ?ow252_18) (v := ?vw252_18) (m' := 524287) ?hw252_18 (by kernel_rfl) (by kernel_rfl) (fun _ _ _ h => h) (Or.inl ⟨?sw252_18, ?yw252_18⟩) (by assumption) ?nw252_18
        case hw252_18 => simp only [List.getElem?_toArray, List.getElem?_cons_succ, List.getElem?_cons_zero]; rfl
        case sw252_18 => rfl
        case yw252_18 => (intro w hSw; (try dsimp only at hSw); go_simp <;> with_reducible rfl)
        try simp only [Act.put, List.setIfInBounds_toArray, List.set_cons_zero, List.set_cons_succ]
        refine hR.take (i := 19) (oi := ?ow253_19) (v := ?vw253_19) (m' := 1048575) ?hw253_19 (by kernel_rfl) (by kernel_rfl) (fun _ _ _ h => h) (Or.inl ⟨?sw253_19, ?yw253_19⟩) (by assumption) ?nw253_19
        case hw253_19 => simp only [List.getElem?_toArray, List.getElem?_cons_succ, List.getElem?_cons_zero]; rfl
        case sw253_19 => rfl
        case yw253_19 => (intro w hSw; (try dsimp only at hSw); go_simp <;> with_reducible rfl)
        try simp only [Act.put, List.setIfInBounds_toArray, List.set_cons_zero, List.set_cons_succ]
        refine hR.take (i := 20) (oi := ?ow254_20) (v := ?vw254_20) (m' := 2097151) ?hw254_20 (by kernel_rfl) (by kernel_rfl) (fun _ _ _ h => h) (Or.inl ⟨?sw254_20, ?yw254_20⟩) (by assumption) ?nw254_20
        case hw254_20 => simp only [List.getElem?_toArray, List.getElem?_cons_succ, List.getElem?_cons_zero]; rfl
        case sw254_20 => rfl
        case yw254_20 => (intro w hSw; (try dsimp only at hSw); go_simp <;> with_reducible rfl)
        try simp only [Act.put, List.setIfInBounds_toArray, List.set_cons_zero, List.set_cons_succ]
        refine hR.take (i := 21) (oi := ?ow255_21) (v := ?vw255_21) (m' := 4194303) ?hw255_21 (by kernel_rfl) (by kernel_rfl) (fun _ _ _ h => h) (Or.inl ⟨?sw255_21, ?yw255_21⟩) (by assumption) ?nw255_21
        case hw255_21 => simp only [List.getElem?_toArray, List.getElem?_cons_succ, List.getElem?_cons_zero]; rfl
        case sw255_21 => rfl
        case yw255_21 => (intro w hSw; (try dsimp only at hSw); go_simp <;> with_reducible rfl)
        try simp only [Act.put, List.setIfInBounds_toArray, List.set_cons_zero, List.set_cons_succ]
        refine hR.take (i := 22) (oi := ?ow256_22) (v := ?vw256_22) (m' := 8388607) ?hw256_22 (by kernel_rfl) (by kernel_rfl) (fun _ _ _ h => h) (Or.inl ⟨?sw256_22, ?yw256_22⟩) (by assumption) ?nw256_22
        case hw256_22 => simp only [List.getElem?_toArray, List.getElem?_cons_succ, List.getElem?_cons_zero]; rfl
        case sw256_22 => rfl
        case yw256_22 => (intro w hSw; (try dsimp only at hSw); go_simp <;> with_reducible rfl)
        try simp only [Act.put, List.setIfInBounds_toArray, List.set_cons_zero, List.set_cons_succ]
        refine hR.take (i := 23) (oi := ?ow257_23) (v := ?vw257_23) (m' := 16777215) ?hw257_23 (by kernel_rfl) (by kernel_rfl) (fun _ _ _ h => h) (Or.inr ⟨?sw257_23, ?yw257_23⟩) (by assumption) ?nw257_23
        case hw257_23 => simp only [List.getElem?_toArray, List.getElem?_cons_succ, List.getElem?_cons_zero]; rfl
        case sw257_23 => rfl
        case yw257_23 => rfl
        try simp only [Act.put, List.setIfInBounds_toArray, List.set_cons_zero, List.set_cons_succ]
        refine hR.take (i := 24) (oi := ?ow258_24) (v := ?vw258_24) (m' := 33554431) ?hw258_24 (by kernel_rfl) (by kernel_rfl) (fun _ _ _ h => h) (Or.inr ⟨?sw258_24, ?yw258_24⟩) (by assumption) ?nw258_24
        case hw258_24 => simp only [List.getElem?_toArray, List.getElem?_cons_succ, List.getElem?_cons_zero]; rfl
        case sw258_24 => rfl
        case yw258_24 => rfl
        try simp only [Act.put, List.setIfInBounds_toArray, List.set_cons_zero, List.set_cons_succ]
        refine hR.take (i := 25) (oi := ?ow259_25) (v := ?vw259_25) (m' := 67108863) ?hw259_25 (by kernel_rfl) (by kernel_rfl) (fun _ _ _ h => h) (Or.inr ⟨?sw259_25, ?yw259_25⟩) (by assumption) ?nw259_25
        case hw259_25 => simp only [List.getElem?_toArray, List.getElem?_cons_succ, List.getElem?_cons_zero]; rfl
        case sw259_25 => rfl
        case yw259_25 => rfl
        try simp only [Act.put, List.setIfInBounds_toArray, List.set_cons_zero, List.set_cons_succ]
        refine hR.take (i := 26) (oi := ?ow260_26) (v := ?vw260_26) (m' := 134217727) ?hw260_26 (by kernel_rfl) (by kernel_rfl) (fun _ _ _ h => h) (Or.inr ⟨?sw260_26, ?yw260_26⟩) (by assumption) ?nw260_26
        case hw260_26 => simp only [List.getElem?_toArray, List.getElem?_cons_succ, List.getElem?_cons_zero]; rfl
        case sw260_26 => rfl
        case yw260_26 => rfl
        try simp only [Act.put, List.setIfInBounds_toArray, List.set_cons_zero, List.set_cons_succ]
        refine hR.take (i := 27) (oi := ?ow261_27) (v := ?vw261_27) (m' := 268435455) ?hw261_27 (by kernel_rfl) (by kernel_rfl) (fun _ _ _ h => h) (Or.inr ⟨?sw261_27, ?yw261_27⟩) (by assumption) ?nw261_27
        case hw261_27 => simp only [List.getElem?_toArray, List.getElem?_cons_succ, List.getElem?_cons_zero]; rfl
        case sw261_27 => rfl
        case yw261_27 => rfl
        try simp only [Act.put, List.setIfInBounds_toArray, List.set_cons_zero, List.set_cons_succ]
        refine hR.take (i := 28) (oi := ?ow262_28) (v := ?vw262_28) (m' := 536870911) ?hw262_28 (by kernel_rfl) (by kernel_rfl) (fun _ _ _ h => h) (Or.inr ⟨?sw262_28, ?yw262_28⟩) (by assumption) ?nw262_28
        case hw262_28 => simp only [List.getElem?_toArray, List.getElem?_cons_succ, List.getElem?_cons_zero]; rfl
        case sw262_28 => rfl
        case yw262_28 => rfl
        try simp only [Act.put, List.setIfInBounds_toArray, List.set_cons_zero, List.set_cons_succ]
        refine hR.take (i := 29) (oi := ?ow263_29) (v := ?vw263_29) (m' := 1073741823) ?hw263_29 (by kernel_rfl) (by kernel_rfl) (fun _ _ _ h => h) (Or.inr ⟨?sw263_29, ?yw263_29⟩) (by assumption) ?nw263_29
        case hw263_29 => simp only [List.getElem?_toArray, List.getElem?_cons_succ, List.getElem?_cons_zero]; rfl
        case sw263_29 => rfl
        case yw263_29 => rfl
        try simp only [Act.put, List.setIfInBounds_toArray, List.set_cons_zero, List.set_cons_succ]
        refine hR.take (i := 30) (oi := ?ow264_30) (v := ?vw264_30) (m' := 2147483647) ?hw264_30 (by kernel_rfl) (by kernel_rfl) (fun _ _ _ h => h) (Or.inr ⟨?sw264_30, ?yw264_30⟩) (by assumption) ?nw264_30
        case hw264_30 => simp only [List.getElem?_toArray, List.getElem?_cons_succ, List.getElem?_cons_zero]; rfl
        case sw264_30 => rfl
        case yw264_30 => rfl
        try simp only [Act.put, List.setIfInBounds_toArray, List.set_cons_zero, List.set_cons_succ]
        refine hR.take (i := 31) (oi := ?ow265_31) (v := ?vw265_31) (m' := 4294967295) ?hw265_31 (by kernel_rfl) (by kernel_rfl) (fun _ _ _ h => h) (Or.inr ⟨?sw265_31, ?yw265_31⟩) (by assumption) ?nw265_31
        case hw265_31 => simp only [List.getElem?_toArray, List.getElem?_cons_succ, List.getElem?_cons_zero]; rfl
        case sw265_31 => rfl
        case yw265_31 => rfl
        try simp only [Act.put, List.setIfInBounds_toArray, List.set_cons_zero, List.set_cons_succ]
        refine hR.take (i := 32) (oi := ?ow266_32) (v := ?vw266_32) (m' := 8589934591) ?hw266_32 (by kernel_rfl) (by kernel_rfl) (fun _ _ _ h => h) (Or.inr ⟨?sw266_32, ?yw266_32⟩) (by assumption) ?nw266_32
        case hw266_32 => simp only [List.getElem?_toArray, List.getElem?_cons_succ, List.getElem?_cons_zero]; rfl
        case sw266_32 => rfl
        case yw266_32 => rfl
        try simp only [Act.put, List.setIfInBounds_toArray, List.set_cons_zero, List.set_cons_succ]
        refine hR.take (i := 33) (oi := ?ow267_33) (v := ?vw267_33) (m' := 17179869183) ?hw267_33 (by kernel_rfl) (by kernel_rfl) (fun _ _ _ h => h) (Or.inr ⟨?sw267_33, ?yw267_33⟩) (by assumption) ?nw267_33
        case hw267_33 => simp only [List.getElem?_toArray, List.getElem?_cons_succ, List.getElem?_cons_zero]; rfl
        case sw267_33 => rfl
        case yw267_33 => rfl
        try simp only [Act.put, List.setIfInBounds_toArray, List.set_cons_zero, List.set_cons_succ]
        refine hR.take (i := 34) (oi := ?ow268_34) (v := ?vw268_34) (m' := 34359738367) ?hw268_34 (by kernel_rfl) (by kernel_rfl) (fun _ _ _ h => h) (Or.inl ⟨?sw268_34, ?yw268_34⟩) (by assumption) ?nw268_34
        case hw268_34 => simp only [List.getElem?_toArray, List.getElem?_cons_succ, List.getElem?_cons_zero]; rfl
        case sw268_34 => rfl
        case yw268_34 => (intro w hSw; (try dsimp only at hSw); go_simp <;> with_reducible rfl)
        try simp only [Act.put, List.setIfInBounds_toArray, List.set_cons_zero, List.set_cons_succ]
        refine hR.take (i := 35) (oi := ?ow269_35) (v := ?vw269_35) (m' := 68719476735) ?hw269_35 (by kernel_rfl) (by kernel_rfl) (fun _ _ _ h => h) (Or.inl ⟨?sw269_35, ?yw269_35⟩) (by assumption) ?nw269_35
        case hw269_35 => simp only [List.getElem?_toArray, List.getElem?_cons_succ, List.getElem?_cons_zero]; rfl
        case sw269_35 => rfl
        case yw269_35 => (intro w hSw; (try dsimp only at hSw); go_simp <;> with_reducible rfl)
        try simp only [Act.put, List.setIfInBounds_toArray, List.set_cons_zero, List.set_cons_succ]
        refine hR.take (i := 36) (oi := ?ow270_36) (v := ?vw270_36) (m' := 137438953471) ?hw270_36 (by kernel_rfl) (by kernel_rfl) (fun _ _ _ h => h) (Or.inr ⟨?sw270_36, ?yw270_36⟩) (by assumption) ?nw270_36
        case hw270_36 => simp only [List.getElem?_toArray, List.getElem?_cons_succ, List.getElem?_cons_zero]; rfl
        case sw270_36 => rfl
        case yw270_36 => rfl
        try simp only [Act.put, List.setIfInBounds_toArray, List.set_cons_zero, List.set_cons_succ]
        refine hR.take (i := 37) (oi := ?ow271_37) (v := ?vw271_37) (m' := 274877906943) ?hw271_37 (by kernel_rfl) (by kernel_rfl) (fun _ _ _ h => h) (Or.inr ⟨?sw271_37, ?yw271_37⟩) (by assumption) ?nw271_37
        case hw271_37 => simp only [List.getElem?_toArray, List.getElem?_cons_succ, List.getElem?_cons_zero]; rfl
        case sw271_37 => rfl
        case yw271_37 => rfl
        try simp only [Act.put, List.setIfInBounds_toArray, List.set_cons_zero, List.set_cons_succ]
        refine hR.take (i := 38) (oi := ?ow272_38) (v := ?vw272_38) (m' := 549755813887) ?hw272_38 (by kernel_rfl) (by kernel_rfl) (fun _ _ _ h => h) (Or.inr ⟨?sw272_38, ?yw272_38⟩) (by assumption) ?nw272_38
        case hw272_38 => simp only [List.getElem?_toArray, List.getElem?_cons_succ, List.getElem?_cons_zero]; rfl
        case sw272_38 => rfl
        case yw272_38 => rfl
        try simp only [Act.put, List.setIfInBounds_toArray, List.set_cons_zero, List.set_cons_succ]
        refine hR.take (i := 39) (oi := ?ow273_39) (v := ?vw273_39) (m' := 1099511627775) ?hw273_39 (by kernel_rfl) (by kernel_rfl) (fun _ _ _ h => h) (Or.inr ⟨?sw273_39, ?yw273_39⟩) (by assumption) ?nw273_39
        case hw273_39 => simp only [List.getElem?_toArray, List.getElem?_cons_succ, List.getElem?_cons_zero]; rfl
        case sw273_39 => rfl
        case yw273_39 => rfl
        try simp only [Act.put, List.setIfInBounds_toArray, List.set_cons_zero, List.set_cons_succ]
        refine hR.take (i := 40) (oi := ?ow274_40) (v := ?vw274_40) (m' := 2199023255551) ?hw274_40 (by kernel_rfl) (by kernel_rfl) (fun _ _ _ h => h) (Or.inr ⟨?sw274_40, ?yw274_40⟩) (by assumption) ?nw274_40
        case hw274_40 => simp only [List.getElem?_toArray, List.getElem?_cons_succ, List.getElem?_cons_zero]; rfl
        case sw274_40 => rfl
        case yw274_40 => rfl
        try simp only [Act.put, List.setIfInBounds_toArray, List.set_cons_zero, List.set_cons_succ]
        refine hR.take (i := 41) (oi := ?ow275_41) (v := ?vw275_41) (m' := 4398046511103) ?hw275_41 (by kernel_rfl) (by kernel_rfl) (fun _ _ _ h => h) (Or.inr ⟨?sw275_41, ?yw275_41⟩) (by assumption) ?nw275_41
        case hw275_41 => simp only [List.getElem?_toArray, List.getElem?_cons_succ, List.getElem?_cons_zero]; rfl
        case sw275_41 => rfl
        case yw275_41 => rfl
        try simp only [Act.put, List.setIfInBounds_toArray, List.set_cons_zero, List.set_cons_succ]
        refine hR.take (i := 42) (oi := ?ow276_42) (v := ?vw276_42) (m' := 8796093022207) ?hw276_42 (by kernel_rfl) (by kernel_rfl) (fun _ _ _ h => h) (Or.inr ⟨?sw276_42, ?yw276_42⟩) (by assumption) ?nw276_42
        case hw276_42 => simp only [List.getElem?_toArray, List.getElem?_cons_succ, List.getElem?_cons_zero]; rfl
        case sw276_42 => rfl
        case yw276_42 => rfl
        try simp only [Act.put, List.setIfInBounds_toArray, List.set_cons_zero, List.set_cons_succ]
        refine hR.take (i := 43) (oi := ?ow277_43) (v := ?vw277_43) (m' := 17592186044415) ?hw277_43 (by kernel_rfl) (by kernel_rfl) (fun _ _ _ h => h) (Or.inr ⟨?sw277_43, ?yw277_43⟩) (by assumption) ?nw277_43
        case hw277_43 => simp only [List.getElem?_toArray, List.getElem?_cons_succ, List.getElem?_cons_zero]; rfl
        case sw277_43 => rfl
        case yw277_43 => rfl
        try simp only [Act.put, List.setIfInBounds_toArray, List.set_cons_zero, List.set_cons_succ]
        refine hR.take (i := 44) (oi := ?ow278_44) (v := ?vw278_44) (m' := 35184372088831) ?hw278_44 (by kernel_rfl) (by kernel_rfl) (fun _ _ _ h => h) (Or.inr ⟨?sw278_44, ?yw278_44⟩) (by assumption) ?nw278_44
        case hw278_44 => simp only [List.getElem?_toArray, List.getElem?_cons_succ, List.getElem?_cons_zero]; rfl
        case sw278_44 => rfl
        case yw278_44 => rfl
        try simp only [Act.put, List.setIfInBounds_toArray, List.set_cons_zero, List.set_cons_succ]
        refine hR.take (i := 45) (oi := ?ow279_45) (v := ?vw279_45) (m' := 70368744177663) ?hw279_45 (by kernel_rfl) (by kernel_rfl) (fun _ _ _ h => h) (Or.inr ⟨?sw279_45, ?yw279_45⟩) (by assumption) ?nw279_45
        case hw279_45 => simp only [List.getElem?_toArray, List.getElem?_cons_succ, List.getElem?_cons_zero]; rfl
        case sw279_45 => rfl
        case yw279_45 => rfl
        try simp only [Act.put, List.setIfInBounds_toArray, List.set_cons_zero, List.set_cons_succ]
        refine hR.take (i := 46) (oi := ?ow280_46) (v := ?vw280_46) (m' := 140737488355327) ?hw280_46 (by kernel_rfl) (by kernel_rfl) (fun _ _ _ h => h) (Or.inr ⟨?sw280_46, ?yw280_46⟩) (by assumption) ?nw280_46
        case hw280_46 => simp only [List.getElem?_toArray, List.getElem?_cons_succ, List.getElem?_cons_zero]; rfl
        case sw280_46 => rfl
        case yw280_46 => rfl
        try simp only [Act.put, List.setIfInBounds_toArray, List.set_cons_zero, List.set_cons_succ]
        refine hR.take (i := 47) (oi := ?ow281_47) (v := ?vw281_47) (m' := 281474976710655) ?hw281_47 (by kernel_rfl) (by kernel_rfl) (fun _ _ _ h => h) (Or.inr ⟨?sw281_47, ?yw281_47⟩) (by assumption) ?nw281_47
        case hw281_47 => simp only [List.getElem?_toArray, List.getElem?_cons_succ, List.getElem?_cons_zero]; rfl
        case sw281_47 => rfl
        case yw281_47 => rfl
        try simp only [Act.put, List.setIfInBounds_toArray, List.set_cons_zero, List.set_cons_succ]
        refine hR.take (i := 48) (oi := ?ow282_48) (v := ?vw282_48) (m' := 562949953421311) ?hw282_48 (by kernel_rfl) (by kernel_rfl) (fun _ _ _ h => h) (Or.inl ⟨?sw282_48, ?yw282_48⟩) (by assumption) ?nw282_48
        case hw282_48 => simp only [List.getElem?_toArray, List.getElem?_cons_succ, List.getElem?_cons_zero]; rfl
        case sw282_48 => rfl
        case yw282_48 => (intro w hSw; (try dsimp only at hSw); go_simp <;> with_reducible rfl)
        try simp only [Act.put, List.setIfInBounds_toArray, List.set_cons_zero, List.set_cons_succ]
        refine hR.all (by kernel_rfl) ?_ _
        refine NoPanic.normal ?_
        go_wp2_with fail
        go_ret
        exact ⟨ret_b (not_cd (List.mem_of_getElem? Hx.out) hv.out).symm, Hb.out.drew⟩
      have f3 : (x.lo < 0) = False := eq_false c3
      by_cases c4 : x.hi < x.lo
      · have f4 : (x.hi < x.lo) = True := eq_true c4
        have hv := Lib.hid (show validCdB x = false from decide_eq_false (fun h => by unfold ValidCd at h; omega))
        refine wp_region_noPanic ?_
        refine wp_region_held_drew (S := fun X => Below wr.heap.size wr X) (by kernel_rfl) ?_ (fun hHeld => ?_)
        · (first | with_reducible assumption | (with_reducible refine Below.drew ?_; with_reducible assumption) | (with_reducible refine ba _ _ ?_; with_reducible assumption) | (with_reducible refine Below.drew ?_; with_reducible refine ba _ _ ?_; with_reducible assumption) | exact Below.refl _ _ | exact (Below.refl _ _).drew | exact (Below.refl _ _).alloc (Nat.le_refl _) _ | (refine bc _ _ (by assumption) (by assumption)))
        refine RegOk.begin_ (n := 49) (T := q5A) ⟨by kernel_rfl, by kernel_rfl, by kernel_rfl, by kernel_rfl⟩ fun hR => ?_
        refine hR.take (i := 0) (oi := ?ow283_0) (v := ?vw283_0) (m' := 1) ?hw283_0 (by kernel_rfl) (by kernel_rfl) (fun _ _ _ h => h) (Or.inl ⟨?sw283_0, ?yw283_0⟩) (by assumption) ?nw283_0
        case hw283_0 => simp only [List.getElem?_toArray, List.getElem?_cons_succ, List.getElem?_cons_zero]; rfl
        case sw283_0 => rfl
        case yw283_0 => (intro w hSw; (try dsimp only at hSw); go_simp <;> with_reducible rfl)
        try simp only [Act.put, List.setIfInBounds_toArray, List.set_cons_zero, List.set_cons_succ]
        refine hR.take (i := 1) (oi := ?ow284_1) (v := ?vw284_1) (m' := 3) ?hw284_1 (by kernel_rfl) (by kernel_rfl) (fun _ _ _ h => h) (Or.inl ⟨?sw284_1, ?yw284_1⟩) (by assumption) ?nw284_1
        case hw284_1 => simp only [List.getElem?_toArray, List.getElem?_cons_succ, List.getElem?_cons_zero]; rfl
        case sw284_1 => rfl
        case yw284_1 => (intro w hSw; (try dsimp only at hSw); go_simp <;> with_reducible rfl)
        try simp only [Act.put, List.setIfInBounds_toArray, List.set_cons_zero, List.set_cons_succ]
        refine hR.take (i := 2) (oi := ?ow285_2) (v := ?vw285_2) (m' := 7) ?hw285_2 (by kernel_rfl) (by kernel_rfl) (fun _ _ _ h => h) (Or.inl ⟨?sw285_2, ?yw285_2⟩) (by assumption) ?nw285_2
        case hw285_2 => simp only [List.getElem?_toArray, List.getElem?_cons_succ, List.getElem?_cons_zero]; rfl
        case sw285_2 => rfl
        case yw285_2 => (intro w hSw; (try dsimp only at hSw); go_simp <;> with_reducible rfl)
        try simp only [Act.put, List.setIfInBounds_toArray, List.set_cons_zero, List.set_cons_succ]
        refine hR.take (i := 3) (oi := ?ow286_3) (v := ?vw286_3) (m' := 15) ?hw286_3 (by kernel_rfl) (by kernel_rfl) (fun _ _ _ h => h) (Or.inl ⟨?sw286_3, ?yw286_3⟩) (by assumption) ?nw286_3
        case hw286_3 => simp only [List.getElem?_toArray, List.getElem?_cons_succ, List.getElem?_cons_zero]; rfl
        case sw286_3 => rfl
        case yw286_3 => (intro w hSw; (try dsimp only at hSw); go_simp <;> with_reducible rfl)
        try simp only [Act.put, List.setIfInBounds_toArray, List.set_cons_zero, List.set_cons_succ]
        refine hR.take (i := 4) (oi := ?ow287_4) (v := ?vw287_4) (m' := 31) ?hw287_4 (by kernel_rfl) (by kernel_rfl) (fun _ _ _ h => h) (Or.inl ⟨?sw287_4, ?yw287_4⟩) (by assumption) ?nw287_4
        case hw287_4 => simp only [List.getElem?_toArray, List.getElem?_cons_succ, List.getElem?_cons_zero]; rfl
        case sw287_4 => rfl
        case yw287_4 => (intro w hSw; (try dsimp only at hSw); go_simp <;> with_reducible rfl)
        try simp only [Act.put, List.setIfInBounds_toArray, List.set_cons_zero, List.set_cons_succ]
        refine hR.take (i := 5) (oi := ?ow288_5) (v := ?vw288_5) (m' := 63) ?hw288_5 (by kernel_rfl) (by kernel_rfl) (fun _ _ _ h => h) (Or.inl ⟨?sw288_5, ?yw288_5⟩) (by assumption) ?nw288_5
        case hw288_5 => simp only [List.getElem?_toArray, List.getElem?_cons_succ, List.getElem?_cons_zero]; rfl
        case sw288_5 => rfl
        case yw288_5 => (intro w hSw; (try dsimp only at hSw); go_simp <;> with_reducible rfl)
        try simp only [Act.put, List.setIfInBounds_toArray, List.set_cons_zero, List.set_cons_succ]
        refine hR.take (i := 6) (oi := ?ow289_6) (v := ?vw289_6) (m' := 127) ?hw289_6 (by kernel_rfl) (by kernel_rfl) (fun _ _ _ h => h) (Or.inl ⟨?sw289_6, ?yw289_6⟩) (by assumption) ?nw289_6
        case hw289_6 => simp only [List.getElem?_toArray, List.getElem?_cons_succ, List.getElem?_cons_zero]; rfl
        case sw289_6 => rfl
        case yw289_6 => (intro w hSw; (try dsimp only at hSw); go_simp <;> with_reducible rfl)
        try simp only [Act.put, List.setIfInBounds_toArray, List.set_cons_zero, List.set_cons_succ]
        refine hR.take (i := 7) (oi := ?ow290_7) (v := ?vw290_7) (m' := 255) ?hw290_7 (by kernel_rfl) (by kernel_rfl) (fun _ _ _ h => h) (Or.inl ⟨?sw290_7, ?yw290_7⟩) (by assumption) ?nw290_7
        case hw290_7 => simp only [List.getElem?_toArray, List.getElem?_cons_succ, List.getElem?_cons_zero]; rfl
        case sw290_7 => rfl
        case yw290_7 => (intro w hSw; (try dsimp only at hSw); go_simp <;> with_reducible rfl)
        try simp only [Act.put, List.setIfInBounds_toArray, List.set_cons_zero, List.set_cons_succ]
        refine hR.take (i := 8) (oi := ?ow291_8) (v := ?vw291_8) (m' := 511) ?hw291_8 (by kernel_rfl) (by kernel_rfl) (fun _ _ _ h => h) (Or.inl ⟨?sw291_8, ?yw291_8⟩) (by assumption) ?nw291_8
        case hw291_8 => simp only [List.getElem?_toArray, List.getElem?_cons_succ, List.getElem?_cons_zero]; rfl
        case sw291_8 => rfl
        case yw291_8 => (intro w hSw; (try dsimp only at hSw); go_simp <;> with_reducible rfl)
        try simp only [Act.put, List.setIfInBounds_toArray, List.set_cons_zero, List.set_cons_succ]
        refine hR.take (i := 9) (oi := ?ow292_9) (v := ?vw292_9) (m' := 1023) ?hw292_9 (by kernel_rfl) (by kernel_rfl) (fun _ _ _ h => h) (Or.inl ⟨?sw292_9, ?yw292_9⟩) (by assumption) ?nw292_9
        case hw292_9 => simp only [List.getElem?_toArray, List.getElem?_cons_succ, List.getElem?_cons_zero]; rfl
        case sw292_9 => rfl
        case yw292_9 => (intro w hSw; (try dsimp only at hSw); go_simp <;> with_reducible rfl)
        try simp only [Act.put, List.setIfInBounds_toArray, List.set_cons_zero, List.set_cons_succ]
        refine hR.take (i := 10) (oi := ?ow293_10) (v := ?vw293_10) (m' := 2047) ?hw293_10 (by kernel_rfl) (by kernel_rfl) (fun _ _ _ h => h) (Or.inl ⟨?sw293_10, ?yw293_10⟩) (by assumption) ?nw293_10
        case hw293_10 => simp only [List.getElem?_toArray, List.getElem?_cons_succ, List.getElem?_cons_zero]; rfl
        case sw293_10 => rfl
        case yw293_10 => (intro w hSw; (try dsimp only at hSw); go_simp <;> with_reducible rfl)
        try simp only [Act.put, List.setIfInBounds_toArray, List.set_cons_zero, List.set_cons_succ]
        refine hR.take (i := 11) (oi := ?ow294_11) (v := ?vw294_11) (m' := 4095) ?hw294_11 (by kernel_rfl) (by kernel_rfl) (fun _ _ _ h => h) (Or.inl ⟨?sw294_11, ?yw294_11⟩) (by assumption) ?nw294_11
        case hw294_11 => simp only [List.getElem?_toArray, List.getElem?_cons_succ, List.getElem?_cons_zero]; rfl
        case sw294_11 => rfl
        case yw294_11 => (intro w hSw; (try dsimp only at hSw); go_simp <;> with_reducible rfl)
        try simp only [Act.put, List.setIfInBounds_toArray, List.set_cons_zero, List.set_cons_succ]
        refine hR.take (i := 12) (oi := ?ow295_12) (v := ?vw295_12) (m' := 8191) ?hw295_12 (by kernel_rfl) (by kernel_rfl) (fun _ _ _ h => h) (Or.inl ⟨?sw295_12, ?yw295_12⟩) (by assumption) ?nw295_12
        case hw295_12 => simp only [List.getElem?_toArray, List.getElem?_cons_succ, List.getElem?_cons_zero]; rfl
        case sw295_12 => rfl
        case yw295_12 => (intro w hSw; (try dsimp only at hSw); go_simp <;> with_reducible rfl)
        try simp only [Act.put, List.setIfInBounds_toArray, List.set_cons_zero, List.set_cons_succ]
        refine hR.take (i := 13) (oi := ?ow296_13) (v := ?vw296_13) (m' := 16383) ?hw296_13 (by kernel_rfl) (by kernel_rfl) (fun _ _ _ h => h) (Or.inl ⟨?sw296_13, ?yw296_13⟩) (by assumption) ?nw296_13
        case hw296_13 => simp only [List.getElem?_toArray, List.getElem?_cons_succ, List.getElem?_cons_zero]; rfl
        case sw296_13 => rfl
        case yw296_13 => (intro w hSw; (try dsimp only at hSw); go_simp <;> with_reducible rfl)
        try simp only [Act.put, List.setIfInBounds_toArray, List.set_cons_zero, List.set_cons_succ]
        refine hR.take (i := 14) (oi := ?ow297_14) (v := ?vw297_14) (m' := 32767) ?hw297_14 (by kernel_rfl) (by kernel_rfl) (fun _ _ _ h => h) (Or.inl ⟨?sw297_14, ?yw297_14⟩) (by assumption) ?nw297_14
        case hw297_14 => simp only [List.getElem?_toArray, List.getElem?_cons_succ, List.getElem?_cons_zero]; rfl
        case sw297_14 => rfl
        case yw297_14 => (intro w hSw; (try dsimp only at hSw); go_simp <;> with_reducible rfl)
        try simp only [Act.put, List.setIfInBounds_toArray, List.set_cons_zero, List.set_cons_succ]
        refine hR.take (i := 15) (oi := ?ow298_15) (v := ?vw298_15) (m' := 65535) ?hw298_15 (by kernel_rfl) (by kernel_rfl) (fun _ _ _ h => h) (Or.inl ⟨?sw298_15, ?yw298_15⟩) (by assumption) ?nw298_15
        case hw298_15 => simp only [List.getElem?_toArray, List.getElem?_cons_succ, List.getElem?_cons_zero]; rfl
        case sw298_15 => rfl
        case yw298_15 => (intro w hSw; (try dsimp only at hSw); go_simp <;> with_reducible rfl)
        try simp only [Act.put, List.setIfInBounds_toArray, List.set_cons_zero, List.set_cons_succ]
        refine hR.take (i := 16) (oi := ?ow299_16) (v := ?vw299_16) (m' := 131071) ?hw299_16 (by kernel_rfl) (by kernel_rfl) (fun _ _ _ h => h) (Or.inl ⟨?sw299_16, ?yw299_16⟩) (by assumption) ?nw299_16
        case hw299_16 => simp only [List.getElem?_toArray, List.getElem?_cons_succ, List.getElem?_cons_zero]; rfl
        case sw299_16 => rfl
        case yw299_16 => (intro w hSw; (try dsimp only at hSw); go_simp <;> with_reducible rfl)
        try simp only [Act.put, List.setIfInBounds_toArray, List.set_cons_zero, List.set_cons_succ]
        refine hR.take (i := 17) (oi := ?ow300_17) (v := ?vw300_17) (m' := 262143) ?hw300_17 (by kernel_rfl) (by kernel_rfl) (fun _ _ _ h => h) (Or.inl ⟨?sw300_17, ?yw300_17⟩) (by assumption) ?nw300_17
        case hw300_17 => simp only [List.getElem?_toArray, List.getElem?_cons_succ, List.getElem?_cons_zero]; rfl
        case sw300_17 => rfl
        case yw300_17 => (intro w hSw; (try dsimp only at hSw); go_simp <;> with_reducible rfl)
        try simp only [Act.put, List.setIfInBounds_toArray, List.set_cons_zero, List.set_cons_succ]
        refine hR.take (i := 18) (oi := ?ow301_18) (v := ?vw301_18) (m' := 524287) ?hw301_18 (by kernel_rfl) (by kernel_rfl) (fun _ _ _ h => h) (Or.inl ⟨?sw301_18, ?yw301_18⟩) (by assumption) ?nw301_18
        case hw301_18 => simp only [List.getElem?_toArray, List.getElem?_cons_succ, List.getElem?_cons_zero]; rfl
        case sw301_18 => rfl
        case yw301_18 => (intro w hSw; (try dsimp only at hSw); go_simp <;> with_reducible rfl)
        try simp only [Act.put, List.setIfInBounds_toArray, List.set_cons_zero, List.set_cons_succ]
        refine hR.take (i := 19) (oi := ?ow302_19) (v := ?vw302_19) (m' := 1048575) ?hw302_19 (by kernel_rfl) (by kernel_rfl) (fun _ _ _ h => h) (Or.inl ⟨?sw302_19, ?yw302_19⟩) (by assumption) ?nw302_19
        case hw302_19 => simp only [List.getElem?_toArray, List.getElem?_cons_succ, List.getElem?_cons_zero]; rfl
        case sw302_19 => rfl
        case yw302_19 => (intro w hSw; (try dsimp only at hSw); go_simp <;> with_reducible rfl)
        try simp only [Act.put, List.setIfInBounds_toArray, List.set_cons_zero, List.set_cons_succ]
        refine hR.take (i := 20) (oi := ?ow303_20) (v := ?vw303_20) (m' := 2097151) ?hw303_20 (by kernel_rfl) (by kernel_rfl) (fun _ _ _ h => h) (Or.inl ⟨?sw303_20, ?yw303_20⟩) (by assumption) ?nw303_20
        case hw303_20 => simp only [List.getElem?_toArray, List.getElem?_cons_succ, List.getElem?_cons_zero]; rfl
        case sw303_20 => rfl
        case yw303_20 => (intro w hSw; (try dsimp only at hSw); go_simp <;> with_reducible rfl)
        try simp only [Act.put, List.setIfInBounds_toArray, List.set_cons_zero, List.set_cons_succ]
        refine hR.take (i := 21) (oi := ?ow304_21) (v := ?vw304_21) (m' := 4194303) ?hw304_21 (by kernel_rfl) (by kernel_rfl) (fun _ _ _ h => h) (Or.inl ⟨?sw304_21, ?yw304_21⟩) (by assumption) ?nw304_21
        case hw304_21 => simp only [List.getElem?_toArray, List.getElem?_cons_succ, List.getElem?_cons_zero]; rfl
        case sw304_21 => rfl
        case yw304_21 => (intro w hSw; (try dsimp only at hSw); go_simp <;> with_reducible rfl)
        try simp only [Act.put, List.setIfInBounds_toArray, List.set_cons_zero, List.set_cons_succ]
        refine hR.take (i := 22) (oi := ?ow305_22) (v := ?vw305_22) (m' := 8388607) ?hw305_22 (by kernel_rfl) (by kernel_rfl) (fun _ _ _ h => h) (Or.inl ⟨?sw305_22, ?yw305_22⟩) (by assumption) ?nw305_22
        case hw305_22 => simp only [List.getElem?_toArray, List.getElem?_cons_succ, List.getElem?_cons_zero]; rfl
        case sw305_22 => rfl
        case yw305_22 => (intro w hSw; (try dsimp only at hSw); go_simp <;> with_reducible rfl)
        try simp only [Act.put, List.setIfInBounds_toArray, List.set_cons_zero, List.set_cons_succ]
        refine hR.take (i := 23) (oi := ?ow306_23) (v := ?vw306_23) (m' := 16777215) ?hw306_23 (by kernel_rfl) (by kernel_rfl) (fun _ _ _ h => h) (Or.inl ⟨?sw306_23, ?yw306_23⟩) (by assumption) ?nw306_23
        case hw306_23 => simp only [List.getElem?_toArray, List.getElem?_cons_succ, List.getElem?_cons_zero]; rfl
        case sw306_23 => rfl
        case yw306_23 => (intro w hSw; (try dsimp only at hSw); go_simp <;> with_reducible rfl)
        try simp only [Act.put, List.setIfInBounds_toArray, List.set_cons_zero, List.set_cons_succ]
        refine hR.take (i := 24) (oi := ?ow307_24) (v := ?vw307_24) (m' := 33554431) ?hw307_24 (by kernel_rfl) (by kernel_rfl) (fun _ _ _ h => h) (Or.inl ⟨?sw307_24, ?yw307_24⟩) (by assumption) ?nw307_24
        case hw307_24 => simp only [List.getElem?_toArray, List.getElem?_cons_succ, List.getElem?_cons_zero]; rfl
        case sw307_24 => rfl
        case yw307_24 => (intro w hSw; (try dsimp only at hSw); go_simp <;> with_reducible rfl)
        try simp only [Act.put, List.setIfInBounds_toArray, List.set_cons_zero, List.set_cons_succ]
        refine hR.take (i := 25) (oi := ?ow308_25) (v := ?vw308_25) (m' := 67108863) ?hw308_25 (by kernel_rfl) (by kernel_rfl) (fun _ _ _ h => h) (Or.inl ⟨?sw308_25, ?yw308_25⟩) (by assumption) ?nw308_25
        case hw308_25 => simp only [List.getElem?_toArray, List.getElem?_cons_succ, List.getElem?_cons_zero]; rfl
        case sw308_25 => rfl
        case yw308_25 => (intro w hSw; (try dsimp only at hSw); go_simp <;> with_reducible rfl)
        try simp only [Act.put, List.setIfInBounds_toArray, List.set_cons_zero, List.set_cons_succ]
        refine hR.take (i := 26) (oi := ?ow309_26) (v := ?vw309_26) (m' := 134217727) ?hw309_26 (by kernel_rfl) (by kernel_rfl) (fun _ _ _ h => h) (Or.inl ⟨?sw309_26, ?yw309_26⟩) (by assumption) ?nw309_26
        case hw309_26 => simp only [List.getElem?_toArray, List.getElem?_cons_succ, List.getElem?_cons_zero]; rfl
        case sw309_26 => rfl
        case yw309_26 => (intro w hSw; (try dsimp only at hSw); go_simp <;> with_reducible rfl)
        try simp only [Act.put, List.setIfInBounds_toArray, List.set_cons_zero, List.set_cons_succ]
        refine hR.take (i := 27) (oi := ?ow310_27) (v := ?vw310_27) (m' := 268435455) ?hw310_27 (by kernel_rfl) (by kernel_rfl) (fun _ _ _ h => h) (Or.inl ⟨?sw310_27, ?yw310_27⟩) (by assumption) ?nw310_27
        case hw310_27 => simp only [List.getElem?_toArray, List.getElem?_cons_succ, List.getElem?_cons_zero]; rfl
        case sw310_27 => rfl
        case yw310_27 => (intro w hSw; (try dsimp only at hSw); go_simp <;> with_reducible rfl)
        try simp only [Act.put, List.setIfInBounds_toArray, List.set_cons_zero, List.set_cons_succ]
        refine hR.take (i := 28) (oi := ?ow311_28) (v := ?vw311_28) (m' := 536870911) ?hw311_28 (by kernel_rfl) (by kernel_rfl) (fun _ _ _ h => h) (Or.inl ⟨?sw311_28, ?yw311_28⟩) (by assumption) ?nw311_28
        case hw311_28 => simp only [List.getElem?_toArray, List.getElem?_cons_succ, List.getElem?_cons_zero]; rfl
        case sw311_28 => rfl
        case yw311_28 => (intro w hSw; (try dsimp only at hSw); go_simp <;> with_reducible rfl)
        try simp only [Act.put, List.setIfInBounds_toArray, List.set_cons_zero, List.set_cons_succ]
        refine hR.take (i := 29) (oi := ?ow312_29) (v := ?vw312_29) (m' := 1073741823) ?hw312_29 (by kernel_rfl) (by kernel_rfl) (fun _ _ _ h => h) (Or.inl ⟨?sw312_29, ?yw312_29⟩) (by assumption) ?nw312_29
        case hw312_29 => simp only [List.getElem?_toArray, List.getElem?_cons_succ, List.getElem?_cons_zero]; rfl
        case sw312_29 => rfl
        case yw312_29 => (intro w hSw; (try dsimp only at hSw); go_simp <;> with_reducible rfl)
        try simp only [Act.put, List.setIfInBounds_toArray, List.set_cons_zero, List.set_cons_succ]
        refine hR.take (i := 30) (oi := ?ow313_30) (v := ?vw313_30) (m' := 2147483647) ?hw313_30 (by kernel_rfl) (by kernel_rfl) (fun _ _ _ h => h) (Or.inl ⟨?sw313_30, ?yw313_30⟩) (by assumption) ?nw313_30
        case hw313_30 => simp only [List.getElem?_toArray, List.getElem?_cons_succ, List.getElem?_cons_zero]; rfl
        case sw313_30 => rfl
        case yw313_30 => (intro w hSw; (try dsimp only at hSw); go_simp <;> with_reducible rfl)
        try simp only [Act.put, List.setIfInBounds_toArray, List.set_cons_zero, List.set_cons_succ]
        refine hR.take (i := 31) (oi := ?ow314_31) (v := ?vw314_31) (m' := 4294967295) ?hw314_31 (by kernel_rfl) (by kernel_rfl) (fun _ _ _ h => h) (Or.inl ⟨?sw314_31, ?yw314_31⟩) (by assumption) ?nw314_31
        case hw314_31 => simp only [List.getElem?_toArray, List.getElem?_cons_succ, List.getElem?_cons_zero]; rfl
        case sw314_31 => rfl
        case yw314_31 => (intro w hSw; (try dsimp only at hSw); go_simp <;> with_reducible rfl)
        try simp only [Act.put, List.setIfInBounds_toArray, List.set_cons_zero, List.set_cons_succ]
        refine hR.take (i := 32) (oi := ?ow315_32) (v := ?vw315_32) (m' := 8589934591) ?hw315_32 (by kernel_rfl) (by kernel_rfl) (fun _ _ _ h => h) (Or.inl ⟨?sw315_32, ?yw315_32⟩) (by assumption) ?nw315_32
        case hw315_32 => simp only [List.getElem?_toArray, List.getElem?_cons_succ, List.getElem?_cons_zero]; rfl
        case sw315_32 => rfl
        case yw315_32 => (intro w hSw; (try dsimp only at hSw); go_simp <;> with_reducible rfl)
        try simp only [Act.put, List.setIfInBounds_toArray, List.set_cons_zero, List.set_cons_succ]
        refine hR.take (i := 33) (oi := ?ow316_33) (v := ?vw316_33) (m' := 17179869183) ?hw316_33 (by kernel_rfl) (by kernel_rfl) (fun _ _ _ h => h) (Or.inl ⟨?sw316_33, ?yw316_33⟩) (by assumption) ?nw316_33
        case hw316_33 => simp only [List.getElem?_toArray, List.getElem?_cons_succ, List.getElem?_cons_zero]; rfl
        case sw316_33 => rfl
        case yw316_33 => (intro w hSw; (try dsimp only at hSw); go_simp <;> with_reducible rfl)
        try simp only [Act.put, List.setIfInBounds_toArray, List.set_cons_zero, List.set_cons_succ]
        refine hR.take (i := 34) (oi := ?ow317_34) (v := ?vw317_34) (m' := 34359738367) ?hw317_34 (by kernel_rfl) (by kernel_rfl) (fun _ _ _ h => h) (Or.inl ⟨?sw317_34, ?yw317_34⟩) (by assumption) ?nw317_34
        case hw317_34 => simp only [List.getElem?_toArray, List.getElem?_cons_succ, List.getElem?_cons_zero]; rfl
        case sw317_34 => rfl
        case yw317_34 => (intro w hSw; (try dsimp only at hSw); go_simp <;> with_reducible rfl)
        try simp only [Act.put, List.setIfInBounds_toArray, List.set_cons_zero, List.set_cons_succ]
        refine hR.take (i := 35) (oi := ?ow318_35) (v := ?vw318_35) (m' := 68719476735) ?hw318_35 (by kernel_rfl) (by kernel_rfl) (fun _ _ _ h => h) (Or.inl ⟨?sw318_35, ?yw318_35⟩) (by assumption) ?nw318_35
        case hw318_35 => simp only [List.getElem?_toArray, List.getElem?_cons_succ, List.getElem?_cons_zero]; rfl
        case sw318_35 => rfl
        case yw318_35 => (intro w hSw; (try dsimp only at hSw); go_simp <;> with_reducible rfl)
        try simp only [Act.put, List.setIfInBounds_toArray, List.set_cons_zero, List.set_cons_succ]
        refine hR.take (i := 36) (oi := ?ow319_36) (v := ?vw319_36) (m' := 137438953471) ?hw319_36 (by kernel_rfl) (by kernel_rfl) (fun _ _ _ h => h) (Or.inr ⟨?sw319_36, ?yw319_36⟩) (by assumption) ?nw319_36
        case hw319_36 => simp only [List.getElem?_toArray, List.getElem?_cons_succ, List.getElem?_cons_zero]; rfl
        case sw319_36 => rfl
        case yw319_36 => rfl
        try simp only [Act.put, List.setIfInBounds_toArray, List.set_cons_zero, List.set_cons_succ]
        refine hR.take (i := 37) (oi := ?ow320_37) (v := ?vw320_37) (m' := 274877906943) ?hw320_37 (by kernel_rfl) (by kernel_rfl) (fun _ _ _ h => h) (Or.inr ⟨?sw320_37, ?yw320_37⟩) (by assumption) ?nw320_37
        case hw320_37 => simp only [List.getElem?_toArray, List.getElem?_cons_succ, List.getElem?_cons_zero]; rfl
        case sw320_37 => rfl
        case yw320_37 => rfl
        try simp only [Act.put, List.setIfInBounds_toArray, List.set_cons_zero, List.set_cons_succ]
        refine hR.take (i := 38) (oi := ?ow321_38) (v := ?vw321_38) (m' := 549755813887) ?hw321_38 (by kernel_rfl) (by kernel_rfl) (fun _ _ _ h => h) (Or.inr ⟨?sw321_38, ?yw321_38⟩) (by assumption) ?nw321_38
        case hw321_38 => simp only [List.getElem?_toArray, List.getElem?_cons_succ, List.getElem?_cons_zero]; rfl
        case sw321_38 => rfl
        case yw321_38 => rfl
        try simp only [Act.put, List.setIfInBounds_toArray, List.set_cons_zero, List.set_cons_succ]
        refine hR.take (i := 39) (oi := ?ow322_39) (v := ?vw322_39) (m' := 1099511627775) ?hw322_39 (by kernel_rfl) (by kernel_rfl) (fun _ _ _ h => h) (Or.inr ⟨?sw322_39, ?yw322_39⟩) (by assumption) ?nw322_39
        case hw322_39 => simp only [List.getElem?_toArray, List.getElem?_cons_succ, List.getElem?_cons_zero]; rfl
        case sw322_39 => rfl
        case yw322_39 => rfl
        try simp only [Act.put, List.setIfInBounds_toArray, List.set_cons_zero, List.set_cons_succ]
        refine hR.take (i := 40) (oi := ?ow323_40) (v := ?vw323_40) (m' := 2199023255551) ?hw323_40 (by kernel_rfl) (by kernel_rfl) (fun _ _ _ h => h) (Or.inr ⟨?sw323_40, ?yw323_40⟩) (by assumption) ?nw323_40
        case hw323_40 => simp only [List.getElem?_toArray, List.getElem?_cons_succ, List.getElem?_cons_zero]; rfl
        case sw323_40 => rfl
        case yw323_40 => rfl
        try simp only [Act.put, List.setIfInBounds_toArray, List.set_cons_zero, List.set_cons_succ]
        refine hR.take (i := 41) (oi := ?ow324_41) (v := ?vw324_41) (m' := 4398046511103) ?hw324_41 (by kernel_rfl) (by kernel_rfl) (fun _ _ _ h => h) (Or.inr ⟨?sw324_41, ?yw324_41⟩) (by assumption) ?nw324_41
        case hw324_41 => simp only [List.getElem?_toArray, List.getElem?_cons_succ, List.getElem?_cons_zero]; rfl
        case sw324_41 => rfl
        case yw324_41 => rfl
        try simp only [Act.put, List.setIfInBounds_toArray, List.set_cons_zero, List.set_cons_succ]
        refine hR.take (i := 42) (oi := ?ow325_42) (v := ?vw325_42) (m' := 8796093022207) ?hw325_42 (by kernel_rfl) (by kernel_rfl) (fun _ _ _ h => h) (Or.inr ⟨?sw325_42, ?yw325_42⟩) (by assumption) ?nw325_42
        case hw325_42 => simp only [List.getElem?_toArray, List.getElem?_cons_succ, List.getElem?_cons_zero]; rfl
        case sw325_42 => rfl
        case yw325_42 => rfl
        try simp only [Act.put, List.setIfInBounds_toArray, List.set_cons_zero, List.set_cons_succ]
        refine hR.take (i := 43) (oi := ?ow326_43) (v := ?vw326_43) (m' := 17592186044415) ?hw326_43 (by kernel_rfl) (by kernel_rfl) (fun _ _ _ h => h) (Or.inr ⟨?sw326_43, ?yw326_43⟩) (by assumption) ?nw326_43
        case hw326_43 => simp only [List.getElem?_toArray, List.getElem?_cons_succ, List.getElem?_cons_zero]; rfl
        case sw326_43 => rfl
        case yw326_43 => rfl
        try simp only [Act.put, List.setIfInBounds_toArray, List.set_cons_zero, List.set_cons_succ]
        refine hR.take (i := 44) (oi := ?ow327_44) (v := ?vw327_44) (m' := 35184372088831) ?hw327_44 (by kernel_rfl) (by kernel_rfl) (fun _ _ _ h => h) (Or.inr ⟨?sw327_44, ?yw327_44⟩) (by assumption) ?nw327_44
        case hw327_44 => simp only [List.getElem?_toArray, List.getElem?_cons_succ, List.getElem?_cons_zero]; rfl
        case sw327_44 => rfl
        case yw327_44 => rfl
        try simp only [Act.put, List.setIfInBounds_toArray, List.set_cons_zero, List.set_cons_succ]
        refine hR.take (i := 45) (oi := ?ow328_45) (v := ?vw328_45) (m' := 70368744177663) ?hw328_45 (by kernel_rfl) (by kernel_rfl) (fun _ _ _ h => h) (Or.inr ⟨?sw328_45, ?yw328_45⟩) (by assumption) ?nw328_45
        case hw328_45 => simp only [List.getElem?_toArray, List.getElem?_cons_succ, List.getElem?_cons_zero]; rfl
        case sw328_45 => rfl
        case yw328_45 => rfl
        try simp only [Act.put, List.setIfInBounds_toArray, List.set_cons_zero, List.set_cons_succ]
        refine hR.take (i := 46) (oi := ?ow329_46) (v := ?vw329_46) (m' := 140737488355327) ?hw329_46 (by kernel_rfl) (by kernel_rfl) (fun _ _ _ h => h) (Or.inr ⟨?sw329_46, ?yw329_46⟩) (by assumption) ?nw329_46
        case hw329_46 => simp only [List.getElem?_toArray, List.getElem?_cons_succ, List.getElem?_cons_zero]; rfl
        case sw329_46 => rfl
        case yw329_46 => rfl
        try simp only [Act.put, List.setIfInBounds_toArray, List.set_cons_zero, List.set_cons_succ]
        refine hR.take (i := 47) (oi := ?ow330_47) (v := ?vw330_47) (m' := 281474976710655) ?hw330_47 (by kernel_rfl) (by kernel_rfl) (fun _ _ _ h => h) (Or.inr ⟨?sw330_47, ?yw330_47⟩) (by assumption) ?nw330_47
        case hw330_47 => simp only [List.getElem?_toArray, List.getElem?_cons_succ, List.getElem?_cons_zero]; rfl
        case sw330_47 => rfl
        case yw330_47 => rfl
        try simp only [Act.put, List.setIfInBounds_toArray, List.set_cons_zero, List.set_cons_succ]
        refine hR.take (i := 48) (oi := ?ow331_48) (v := ?vw331_48) (m' := 562949953421311) ?hw331_48 (by kernel_rfl) (by kernel_rfl) (fun _ _ _ h => h) (Or.inl ⟨?sw331_48, ?yw331_48⟩) (by assumption) ?nw331_48
        case hw331_48 => simp only [List.getElem?_toArray, List.getElem?_cons_succ, List.getElem?_cons_zero]; rfl
        case sw331_48 => rfl
        case yw331_48 => (intro w hSw; (try dsimp only at hSw); go_simp <;> with_reducible rfl)
        try simp only [Act.put, List.setIfInBounds_toArray, List.set_cons_zero, List.set_cons_succ]
        refine hR.all (by kernel_rfl) ?_ _
        refine NoPanic.normal ?_
        go_wp2_with fail
        go_ret
        exact ⟨ret_b (not_cd (List.mem_of_getElem? Hx.out) hv.out).symm, Hb.out.drew⟩
      have f4 : (x.hi < x.lo) = False := eq_false c4
      by_cases c5 : maxC x.col < x.hi
      · have f5 : (maxC x.col < x.hi) = True := eq_true c5
        have hv := Lib.hid (show validCdB x = false from decide_eq_false (fun h => by unfold ValidCd at h; omega))
        refine wp_region_noPanic ?_
        refine wp_region_held_drew (S := fun X => Below wr.heap.size wr X) (by kernel_rfl) ?_ (fun hHeld => ?_)
        · (first | with_reducible assumption | (with_reducible refine Below.drew ?_; with_reducible assumption) | (with_reducible refine ba _ _ ?_; with_reducible assumption) | (with_reducible refine Below.drew ?_; with_reducible refine ba _ _ ?_; with_reducible assumption) | exact Below.refl _ _ | exact (Below.refl _ _).drew | exact (Below.refl _ _).alloc (Nat.le_refl _) _ | (refine bc _ _ (by assumption) (by assumption)))
        refine RegOk.begin_ (n := 49) (T := q5A) ⟨by kernel_rfl, by kernel_rfl, by kernel_rfl, by kernel_rfl⟩ fun hR => ?_
        refine hR.take (i := 0) (oi := ?ow332_0) (v := ?vw332_0) (m' := 1) ?hw332_0 (by kernel_rfl) (by kernel_rfl) (fun _ _ _ h => h) (Or.inl ⟨?sw332_0, ?yw332_0⟩) (by assumption) ?nw332_0
        case hw332_0 => simp only [List.getElem?_toArray, List.getElem?_cons_succ, List.getElem?_cons_zero]; rfl
        case sw332_0 => rfl
        case yw332_0 => (intro w hSw; (try dsimp only at hSw); go_simp <;> with_reducible rfl)
        try simp only [Act.put, List.setIfInBounds_toArray, List.set_cons_zero, List.set_cons_succ]
        refine hR.take (i := 1) (oi := ?ow333_1) (v := ?vw333_1) (m' := 3) ?hw333_1 (by kernel_rfl) (by kernel_rfl) (fun _ _ _ h => h) (Or.inl ⟨?sw333_1, ?yw333_1⟩) (by assumption) ?nw333_1
        case hw333_1 => simp only [List.getElem?_toArray, List.getElem?_cons_succ, List.getElem?_cons_zero]; rfl
        case sw333_1 => rfl
        case yw333_1 => (intro w hSw; (try dsimp only at hSw); go_simp <;> with_reducible rfl)
        try simp only [Act.put, List.setIfInBounds_toArray, List.set_cons_zero, List.set_cons_succ]
        refine hR.take (i := 2) (oi := ?ow334_2) (v := ?vw334_2) (m' := 7) ?hw334_2 (by kernel_rfl) (by kernel_rfl) (fun _ _ _ h => h) (Or.inl ⟨?sw334_2, ?yw334_2⟩) (by assumption) ?nw334_2
        case hw334_2 => simp only [List.getElem?_toArray, List.getElem?_cons_succ, List.getElem?_cons_zero]; rfl
        case sw334_2 => rfl
        case yw334_2 => (intro w hSw; (try dsimp only at hSw); go_simp <;> with_reducible rfl)
        try simp only [Act.put, List.setIfInBounds_toArray, List.set_cons_zero, List.set_cons_succ]
        refine hR.take (i := 3) (oi := ?ow335_3) (v := ?vw335_3) (m' := 15) ?hw335_3 (by kernel_rfl) (by kernel_rfl) (fun _ _ _ h => h) (Or.inl ⟨?sw335_3, ?yw335_3⟩) (by assumption) ?nw335_3
        case hw335_3 => simp only [List.getElem?_toArray, List.getElem?_cons_succ, List.getElem?_cons_zero]; rfl
        case sw335_3 => rfl
        case yw335_3 => (intro w hSw; (try dsimp only at hSw); go_simp <;> with_reducible rfl)
        try simp only [Act.put, List.setIfInBounds_toArray, List.set_cons_zero, List.set_cons_succ]
        refine hR.take (i := 4) (oi := ?ow336_4) (v := ?vw336_4) (m' := 31) ?hw336_4 (by kernel_rfl) (by kernel_rfl) (fun _ _ _ h => h) (Or.inl ⟨?sw336_4, ?yw336_4⟩) (by assumption) ?nw336_4
        case hw336_4 => simp only [List.getElem?_toArray, List.getElem?_cons_succ, List.getElem?_cons_zero]; rfl
        case sw336_4 => rfl
        case yw336_4 => (intro w hSw; (try dsimp only at hSw); go_simp <;> with_reducible rfl)
        try simp only [Act.put, List.setIfInBounds_toArray, List.set_cons_zero, List.set_cons_succ]
        refine hR.take (i := 5) (oi := ?ow337_5) (v := ?vw337_5) (m' := 63) ?hw337_5 (by kernel_rfl) (by kernel_rfl) (fun _ _ _ h => h) (Or.inl ⟨?sw337_5, ?yw337_5⟩) (by assumption) ?nw337_5
        case hw337_5 => simp only [List.getElem?_toArray, List.getElem?_cons_succ, List.getElem?_cons_zero]; rfl
        case sw337_5 => rfl
        case yw337_5 => (intro w hSw; (try dsimp only at hSw); go_simp <;> with_reducible rfl)
        try simp only [Act.put, List.setIfInBounds_toArray, List.set_cons_zero, List.set_cons_succ]
        refine hR.take (i := 6) (oi := ?ow338_6) (v := ?vw338_6) (m' := 127) ?hw338_6 (by kernel_rfl) (by kernel_rfl) (fun _ _ _ h => h) (Or.inl ⟨?sw338_6, ?yw338_6⟩) (by assumption) ?nw338_6
        case hw338_6 => simp only [List.getElem?_toArray, List.getElem?_cons_succ, List.getElem?_cons_zero]; rfl
        case sw338_6 => rfl
        case yw338_6 => (intro w hSw; (try dsimp only at hSw); go_simp <;> with_reducible rfl)
        try simp only [Act.put, List.setIfInBounds_toArray, List.set_cons_zero, List.set_cons_succ]
        refine hR.take (i := 7) (oi := ?ow339_7) (v := ?vw339_7) (m' := 255) ?hw339_7 (by kernel_rfl) (by kernel_rfl) (fun _ _ _ h => h) (Or.inl ⟨?sw339_7, ?yw339_7⟩) (by assumption) ?nw339_7
        case hw339_7 => simp only [List.getElem?_toArray, List.getElem?_cons_succ, List.getElem?_cons_zero]; rfl
        case sw339_7 => rfl
        case yw339_7 => (intro w hSw; (try dsimp only at hSw); go_simp <;> with_reducible rfl)
        try simp only [Act.put, List.setIfInBounds_toArray, List.set_cons_zero, List.set_cons_succ]
        refine hR.take (i := 8) (oi := ?ow340_8) (v := ?vw340_8) (m' := 511) ?hw340_8 (by kernel_rfl) (by kernel_rfl) (fun _ _ _ h => h) (Or.inl ⟨?sw340_8, ?yw340_8⟩) (by assumption) ?nw340_8
        case hw340_8 => simp only [List.getElem?_toArray, List.getElem?_cons_succ, List.getElem?_cons_zero]; rfl
        case sw340_8 => rfl
        case yw340_8 => (intro w hSw; (try dsimp only at hSw); go_simp <;> with_reducible rfl)
        try simp only [Act.put, List.setIfInBounds_toArray, List.set_cons_zero, List.set_cons_succ]
        refine hR.take (i := 9) (oi := ?ow341_9) (v := ?vw341_9) (m' := 1023) ?hw341_9 (by kernel_rfl) (by kernel_rfl) (fun _ _ _ h => h) (Or.inl ⟨?sw341_9, ?yw341_9⟩) (by assumption) ?nw341_9
        case hw341_9 => simp only [List.getElem?_toArray, List.getElem?_cons_succ, List.getElem?_cons_zero]; rfl
        case sw341_9 => rfl
        case yw341_9 => (intro w hSw; (try dsimp only at hSw); go_simp <;> with_reducible rfl)
        try simp only [Act.put, List.setIfInBounds_toArray, List.set_cons_zero, List.set_cons_succ]
        refine hR.take (i := 10) (oi := ?ow342_10) (v := ?vw342_10) (m' := 2047) ?hw342_10 (by kernel_rfl) (by kernel_rfl) (fun _ _ _ h => h) (Or.inl ⟨?sw342_10, ?yw342_10⟩) (by assumption) ?nw342_10
        case hw342_10 => simp only [List.getElem?_toArray, List.getElem?_cons_succ, List.getElem?_cons_zero]; rfl
        case sw342_10 => rfl
        case yw342_10 => (intro w hSw; (try dsimp only at hSw); go_simp <;> with_reducible rfl)
        try simp only [Act.put, List.setIfInBounds_toArray, List.set_cons_zero, List.set_cons_succ]
        refine hR.take (i := 11) (oi := ?ow343_11) (v := ?vw343_11) (m' := 4095) ?hw343_11 (by kernel_rfl) (by kernel_rfl) (fun _ _ _ h => h) (Or.inl ⟨?sw343_11, ?yw343_11⟩) (by assumption) ?nw343_11
        case hw343_11 => simp only [List.getElem?_toArray, List.getElem?_cons_succ, List.getElem?_cons_zero]; rfl
        case sw343_11 => rfl
        case yw343_11 => (intro w hSw; (try dsimp only at hSw); go_simp <;> with_reducible rfl)
        try simp only [Act.put, List.setIfInBounds_toArray, List.set_cons_zero, List.set_cons_succ]
        refine hR.take (i := 12) (oi := ?ow344_12) (v := ?vw344_12) (m' := 8191) ?hw344_12 (by kernel_rfl) (by kernel_rfl) (fun _ _ _ h => h) (Or.inl ⟨?sw344_12, ?yw344_12⟩) (by assumption) ?nw344_12
        case hw344_12 => simp only [List.getElem?_toArray, List.getElem?_cons_succ, List.getElem?_cons_zero]; rfl
        case sw344_12 => rfl
        case yw344_12 => (intro w hSw; (try dsimp only at hSw); go_simp <;> with_reducible rfl)
        try simp only [Act.put, List.setIfInBounds_toArray, List.set_cons_zero, List.set_cons_succ]
        refine hR.take (i := 13) (oi := ?ow345_13) (v := ?vw345_13) (m' := 16383) ?hw345_13 (by kernel_rfl) (by kernel_rfl) (fun _ _ _ h => h) (Or.inl ⟨?sw345_13, ?yw345_13⟩) (by assumption) ?nw345_13
        case hw345_13 => simp only [List.getElem?_toArray, List.getElem?_cons_succ, List.getElem?_cons_zero]; rfl
        case sw345_13 => rfl
        case yw345_13 => (intro w hSw; (try dsimp only at hSw); go_simp <;> with_reducible rfl)
        try simp only [Act.put, List.setIfInBounds_toArray, List.set_cons_zero, List.set_cons_succ]
        refine hR.take (i := 14) (oi := ?ow346_14) (v := ?vw346_14) (m' := 32767) ?hw346_14 (by kernel_rfl) (by kernel_rfl) (fun _ _ _ h => h) (Or.inl ⟨?sw346_14, ?yw346_14⟩) (by assumption) ?nw346_14
        case hw346_14 => simp only [List.getElem?_toArray, List.getElem?_cons_succ, List.getElem?_cons_zero]; rfl
        case sw346_14 => rfl
        case yw346_14 => (intro w hSw; (try dsimp only at hSw); go_simp <;> with_reducible rfl)
        try simp only [Act.put, List.setIfInBounds_toArray, List.set_cons_zero, List.set_cons_succ]
        refine hR.take (i := 15) (oi := ?ow347_15) (v := ?vw347_15) (m' := 65535) ?hw347_15 (by kernel_rfl) (by kernel_rfl) (fun _ _ _ h => h) (Or.inl ⟨?sw347_15, ?yw347_15⟩) (by assumption) ?nw347_15
        case hw347_15 => simp only [List.getElem?_toArray, List.getElem?_cons_succ, List.getElem?_cons_zero]; rfl
        case sw347_15 => rfl
        case yw347_15 => (intro w hSw; (try dsimp only at hSw); go_simp <;> with_reducible rfl)
        try simp only [Act.put, List.setIfInBounds_toArray, List.set_cons_zero, List.set_cons_succ]
        refine hR.take (i := 16) (oi := ?ow348_16) (v := ?vw348_16) (m' := 131071) ?hw348_16 (by kernel_rfl) (by kernel_rfl) (fun _ _ _ h => h) (Or.inl ⟨?sw348_16, ?yw348_16⟩) (by assumption) ?nw348_16
        case hw348_16 => simp only [List.getElem?_toArray, List.getElem?_cons_succ, List.getElem?_cons_zero]; rfl
        case sw348_16 => rfl
        case yw348_16 => (intro w hSw; (try dsimp only at hSw); go_simp <;> with_reducible rfl)
        try simp only [Act.put, List.setIfInBounds_toArray, List.set_cons_zero, List.set_cons_succ]
        refine hR.take (i := 17) (oi := ?ow349_17) (v := ?vw349_17) (m' := 262143) ?hw349_17 (by kernel_rfl) (by kernel_rfl) (fun _ _ _ h => h) (Or.inl ⟨?sw349_17, ?yw349_17⟩) (by assumption) ?nw349_17
        case hw349_17 => simp only [List.getElem?_toArray, List.getElem?_cons_succ, List.getElem?_cons_zero]; rfl
        case sw349_17 => rfl
        case yw349_17 => (intro w hSw; (try dsimp only at hSw); go_simp <;> with_reducible rfl)
        try simp only [Act.put, List.setIfInBounds_toArray, List.set_cons_zero, List.set_cons_succ]
        refine hR.take (i := 18) (oi := ?ow350_18) (v := ?vw350_18) (m' := 524287) ?hw350_18 (by kernel_rfl) (by kernel_rfl) (fun _ _ _ h => h) (Or.inl ⟨?sw350_18, ?yw350_18⟩) (by assumption) ?nw350_18
        case hw350_18 => simp only [List.getElem?_toArray, List.getElem?_cons_succ, List.getElem?_cons_zero]; rfl
        case sw350_18 => rfl
        case yw350_18 => (intro w hSw; (try dsimp only at hSw); go_simp <;> with_reducible rfl)
        try simp only [Act.put, List.setIfInBounds_toArray, List.set_cons_zero, List.set_cons_succ]
        refine hR.take (i := 19) (oi := ?ow351_19) (v := ?vw351_19) (m' := 1048575) ?hw351_19 (by kernel_rfl) (by kernel_rfl) (fun _ _ _ h => h) (Or.inl ⟨?sw351_19, ?yw351_19⟩) (by assumption) ?nw351_19
        case hw351_19 => simp only [List.getElem?_toArray, List.getElem?_cons_succ, List.getElem?_cons_zero]; rfl
        case sw351_19 => rfl
        case yw351_19 => (intro w hSw; (try dsimp only at hSw); go_simp <;> with_reducible rfl)
        try simp only [Act.put, List.setIfInBounds_toArray, List.set_cons_zero, List.set_cons_succ]
        refine hR.take (i := 20) (oi := ?ow352_20) (v := ?vw352_20) (m' := 2097151) ?hw352_20 (by kernel_rfl) (by kernel_rfl) (fun _ _ _ h => h) (Or.inl ⟨?sw352_20, ?yw352_20⟩) (by assumption) ?nw352_20
        case hw352_20 => simp only [List.getElem?_toArray, List.getElem?_cons_succ, List.getElem?_cons_zero]; rfl
        case sw352_20 => rfl
        case yw352_20 => (intro w hSw; (try dsimp only at hSw); go_simp <;> with_reducible rfl)
        try simp only [Act.put, List.setIfInBounds_toArray, List.set_cons_zero, List.set_cons_succ]
        refine hR.take (i := 21) (oi := ?ow353_21) (v := ?vw353_21) (m' := 4194303) ?hw353_21 (by kernel_rfl) (by kernel_rfl) (fun _ _ _ h => h) (Or.inl ⟨?sw353_21, ?yw353_21⟩) (by assumption) ?nw353_21
        case hw353_21 => simp only [List.getElem?_toArray, List.getElem?_cons_succ, List.getElem?_cons_zero]; rfl
        case sw353_21 => rfl
        case yw353_21 => (intro w hSw; (try dsimp only at hSw); go_simp <;> with_reducible rfl)
        try simp only [Act.put, List.setIfInBounds_toArray, List.set_cons_zero, List.set_cons_succ]
        refine hR.take (i := 22) (oi := ?ow354_22) (v := ?vw354_22) (m' := 8388607) ?hw354_22 (by kernel_rfl) (by kernel_rfl) (fun _ _ _ h => h) (Or.inl ⟨?sw354_22, ?yw354_22⟩) (by assumption) ?nw354_22
        case hw354_22 => simp only [List.getElem?_toArray, List.getElem?_cons_succ, List.getElem?_cons_zero]; rfl
        case sw354_22 => rfl
        case yw354_22 => (intro w hSw; (try dsimp only at hSw); go_simp <;> with_reducible rfl)
        try simp only [Act.put, List.setIfInBounds_toArray, List.set_cons_zero, List.set_cons_succ]
        refine hR.take (i := 23) (oi := ?ow355_23) (v := ?vw355_23) (m' := 16777215) ?hw355_23 (by kernel_rfl) (by kernel_rfl) (fun _ _ _ h => h) (Or.inl ⟨?sw355_23, ?yw355_23⟩) (by assumption) ?nw355_23
        case hw355_23 => simp only [List.getElem?_toArray, List.getElem?_cons_succ, List.getElem?_cons_zero]; rfl
        case sw355_23 => rfl
        case yw355_23 => (intro w hSw; (try dsimp only at hSw); go_simp <;> with_reducible rfl)
        try simp only [Act.put, List.setIfInBounds_toArray, List.set_cons_zero, List.set_cons_succ]
        refine hR.take (i := 24) (oi := ?ow356_24) (v := ?vw356_24) (m' := 33554431) ?hw356_24 (by kernel_rfl) (by kernel_rfl) (fun _ _ _ h => h) (Or.inl ⟨?sw356_24, ?yw356_24⟩) (by assumption) ?nw356_24
        case hw356_24 => simp only [List.getElem?_toArray, List.getElem?_cons_succ, List.getElem?_cons_zero]; rfl
        case sw356_24 => rfl
        case yw356_24 => (intro w hSw; (try dsimp only at hSw); go_simp <;> with_reducible rfl)
        try simp only [Act.put, List.setIfInBounds_toArray, List.set_cons_zero, List.set_cons_succ]
        refine hR.take (i := 25) (oi := ?ow357_25) (v := ?vw357_25) (m' := 67108863) ?hw357_25 (by kernel_rfl) (by kernel_rfl) (fun _ _ _ h => h) (Or.inl ⟨?sw357_25, ?yw357_25⟩) (by assumption) ?nw357_25
        case hw357_25 => simp only [List.getElem?_toArray, List.getElem?_cons_succ, List.getElem?_cons_zero]; rfl
        case sw357_25 => rfl
        case yw357_25 => (intro w hSw; (try dsimp only at hSw); go_simp <;> with_reducible rfl)
        try simp only [Act.put, List.setIfInBounds_toArray, List.set_cons_zero, List.set_cons_succ]
        refine hR.take (i := 26) (oi := ?ow358_26) (v := ?vw358_26) (m' := 134217727) ?hw358_26 (by kernel_rfl) (by kernel_rfl) (fun _ _ _ h => h) (Or.inl ⟨?sw358_26, ?yw358_26⟩) (by assumption) ?nw358_26
        case hw358_26 => simp only [List.getElem?_toArray, List.getElem?_cons_succ, List.getElem?_cons_zero]; rfl
        case sw358_26 => rfl
        case yw358_26 => (intro w hSw; (try dsimp only at hSw); go_simp <;> with_reducible rfl)
        try simp only [Act.put, List.setIfInBounds_toArray, List.set_cons_zero, List.set_cons_succ]
        refine hR.take (i := 27) (oi := ?ow359_27) (v := ?vw359_27) (m' := 268435455) ?hw359_27 (by kernel_rfl) (by kernel_rfl) (fun _ _ _ h => h) (Or.inl ⟨?sw359_27, ?yw359_27⟩) (by assumption) ?nw359_27
        case hw359_27 => simp only [List.getElem?_toArray, List.getElem?_cons_succ, List.getElem?_cons_zero]; rfl
        case sw359_27 => rfl
        case yw359_27 => (intro w hSw; (try dsimp only at hSw); go_simp <;> with_reducible rfl)
        try simp only [Act.put, List.setIfInBounds_toArray, List.set_cons_zero, List.set_cons_succ]
        refine hR.take (i := 28) (oi := ?ow360_28) (v := ?vw360_28) (m' := 536870911) ?hw360_28 (by kernel_rfl) (by kernel_rfl) (fun _ _ _ h => h) (Or.inl ⟨?sw360_28, ?yw360_28⟩) (by assumption) ?nw360_28
        case hw360_28 => simp only [List.getElem?_toArray, List.getElem?_cons_succ, List.getElem?_cons_zero]; rfl
        case sw360_28 => rfl
        case yw360_28 => (intro w hSw; (try dsimp only at hSw); go_simp <;> with_reducible rfl)
        try simp only [Act.put, List.setIfInBounds_toArray, List.set_cons_zero, List.set_cons_succ]
        refine hR.take (i := 29) (oi := ?ow361_29) (v := ?vw361_29) (m' := 1073741823) ?hw361_29 (by kernel_rfl) (by kernel_rfl) (fun _ _ _ h => h) (Or.inl ⟨?sw361_29, ?yw361_29⟩) (by assumption) ?nw361_29
        case hw361_29 => simp only [List.getElem?_toArray, List.getElem?_cons_succ, List.getElem?_cons_zero]; rfl
        case sw361_29 => rfl
        case yw361_29 => (intro w hSw; (try dsimp only at hSw); go_simp <;> with_reducible rfl)
        try simp only [Act.put, List.setIfInBounds_toArray, List.set_cons_zero, List.set_cons_succ]
        refine hR.take (i := 30) (oi := ?ow362_30) (v := ?vw362_30) (m' := 2147483647) ?hw362_30 (by kernel_rfl) (by kernel_rfl) (fun _ _ _ h => h) (Or.inl ⟨?sw362_30, ?yw362_30⟩) (by assumption) ?nw362_30
        case hw362_30 => simp only [List.getElem?_toArray, List.getElem?_cons_succ, List.getElem?_cons_zero]; rfl
        case sw362_30 => rfl
        case yw362_30 => (intro w hSw; (try dsimp only at hSw); go_simp <;> with_reducible rfl)
        try simp only [Act.put, List.setIfInBounds_toArray, List.set_cons_zero, List.set_cons_succ]
        refine hR.take (i := 31) (oi := ?ow363_31) (v := ?vw363_31) (m' := 4294967295) ?hw363_31 (by kernel_rfl) (by kernel_rfl) (fun _ _ _ h => h) (Or.inl ⟨?sw363_31, ?yw363_31⟩) (by assumption) ?nw363_31
        case hw363_31 => simp only [List.getElem?_toArray, List.getElem?_cons_succ, List.getElem?_cons_zero]; rfl
        case sw363_31 => rfl
        case yw363_31 => (intro w hSw; (try dsimp only at hSw); go_simp <;> with_reducible rfl)
        try simp only [Act.put, List.setIfInBounds_toArray, List.set_cons_zero, List.set_cons_succ]
        refine hR.take (i := 32) (oi := ?ow364_32) (v := ?vw364_32) (m' := 8589934591) ?hw364_32 (by kernel_rfl) (by kernel_rfl) (fun _ _ _ h => h) (Or.inl ⟨?sw364_32, ?yw364_32⟩) (by assumption) ?nw364_32
        case hw364_32 => simp only [List.getElem?_toArray, List.getElem?_cons_succ, List.getElem?_cons_zero]; rfl
        case sw364_32 => rfl
        case yw364_32 => (intro w hSw; (try dsimp only at hSw); go_simp <;> with_reducible rfl)
        try simp only [Act.put, List.setIfInBounds_toArray, List.set_cons_zero, List.set_cons_succ]
        refine hR.take (i := 33) (oi := ?ow365_33) (v := ?vw365_33) (m' := 17179869183) ?hw365_33 (by kernel_rfl) (by kernel_rfl) (fun _ _ _ h => h) (Or.inl ⟨?sw365_33, ?yw365_33⟩) (by assumption) ?nw365_33
        case hw365_33 => simp only [List.getElem?_toArray, List.getElem?_cons_succ, List.getElem?_cons_zero]; rfl
        case sw365_33 => rfl
        case yw365_33 => (intro w hSw; (try dsimp only at hSw); go_simp <;> with_reducible rfl)
        try simp only [Act.put, List.setIfInBounds_toArray, List.set_cons_zero, List.set_cons_succ]
        refine hR.take (i := 34) (oi := ?ow366_34) (v := ?vw366_34) (m' := 34359738367) ?hw366_34 (by kernel_rfl) (by kernel_rfl) (fun _ _ _ h => h) (Or.inl ⟨?sw366_34, ?yw366_34⟩) (by assumption) ?nw366_34
        case hw366_34 => simp only [List.getElem?_toArray, List.getElem?_cons_succ, List.getElem?_cons_zero]; rfl
        case sw366_34 => rfl
        case yw366_34 => (intro w hSw; (try dsimp only at hSw); go_simp <;> with_reducible rfl)
        try simp only [Act.put, List.setIfInBounds_toArray, List.set_cons_zero, List.set_cons_succ]
        refine hR.take (i := 35) (oi := ?ow367_35) (v := ?vw367_35) (m' := 68719476735) ?hw367_35 (by kernel_rfl) (by kernel_rfl) (fun _ _ _ h => h) (Or.inl ⟨?sw367_35, ?yw367_35⟩) (by assumption) ?nw367_35
        case hw367_35 => simp only [List.getElem?_toArray, List.getElem?_cons_succ, List.getElem?_cons_zero]; rfl
        case sw367_35 => rfl
        case yw367_35 => (intro w hSw; (try dsimp only at hSw); go_simp <;> with_reducible rfl)
        try simp only [Act.put, List.setIfInBounds_toArray, List.set_cons_zero, List.set_cons_succ]
        refine hR.take (i := 36) (oi := ?ow368_36) (v := ?vw368_36) (m' := 137438953471) ?hw368_36 (by kernel_rfl) (by kernel_rfl) (fun _ _ _ h => h) (Or.inl ⟨?sw368_36, ?yw368_36⟩) (by assumption) ?nw368_36
        case hw368_36 => simp only [List.getElem?_toArray, List.getElem?_cons_succ, List.getElem?_cons_zero]; rfl
        case sw368_36 => rfl
        case yw368_36 => (intro w hSw; (try dsimp only at hSw); go_simp <;> with_reducible rfl)
        try simp only [Act.put, List.setIfInBounds_toArray, List.set_cons_zero, List.set_cons_succ]
        refine hR.take (i := 37) (oi := ?ow369_37) (v := ?vw369_37) (m' := 274877906943) ?hw369_37 (by kernel_rfl) (by kernel_rfl) (fun _ _ _ h => h) (Or.inl ⟨?sw369_37, ?yw369_37⟩) (by assumption) ?nw369_37
        case hw369_37 => simp only [List.getElem?_toArray, List.getElem?_cons_succ, List.getElem?_cons_zero]; rfl
        case sw369_37 => rfl
        case yw369_37 => (intro w hSw; (try dsimp only at hSw); go_simp <;> with_reducible rfl)
        try simp only [Act.put, List.setIfInBounds_toArray, List.set_cons_zero, List.set_cons_succ]
        refine hR.take (i := 38) (oi := ?ow370_38) (v := ?vw370_38) (m' := 549755813887) ?hw370_38 (by kernel_rfl) (by kernel_rfl) (fun _ _ _ h => h) (Or.inl ⟨?sw370_38, ?yw370_38⟩) (by assumption) ?nw370_38
        case hw370_38 => simp only [List.getElem?_toArray, List.getElem?_cons_succ, List.getElem?_cons_zero]; rfl
        case sw370_38 => rfl
        case yw370_38 => (intro w hSw; (try dsimp only at hSw); go_simp <;> with_reducible rfl)
        try simp only [Act.put, List.setIfInBounds_toArray, List.set_cons_zero, List.set_cons_succ]
        refine hR.take (i := 39) (oi := ?ow371_39) (v := ?vw371_39) (m' := 1099511627775) ?hw371_39 (by kernel_rfl) (by kernel_rfl) (fun _ _ _ h => h) (Or.inl ⟨?sw371_39, ?yw371_39⟩) (by assumption) ?nw371_39
        case hw371_39 => simp only [List.getElem?_toArray, List.getElem?_cons_succ, List.getElem?_cons_zero]; rfl
        case sw371_39 => rfl
        case yw371_39 => (intro w hSw; (try dsimp only at hSw); go_simp <;> with_reducible rfl)
        try simp only [Act.put, List.setIfInBounds_toArray, List.set_cons_zero, List.set_cons_succ]
        refine hR.take (i := 40) (oi := ?ow372_40) (v := ?vw372_40) (m' := 2199023255551) ?hw372_40 (by kernel_rfl) (by kernel_rfl) (fun _ _ _ h => h) (Or.inl ⟨?sw372_40, ?yw372_40⟩) (by assumption) ?nw372_40
        case hw372_40 => simp only [List.getElem?_toArray, List.getElem?_cons_succ, List.getElem?_cons_zero]; rfl
        case sw372_40 => rfl
        case yw372_40 => (intro w hSw; (try dsimp only at hSw); go_simp <;> with_reducible rfl)
        try simp only [Act.put, List.setIfInBounds_toArray, List.set_cons_zero, List.set_cons_succ]
        refine hR.take (i := 41) (oi := ?ow373_41) (v := ?vw373_41) (m' := 4398046511103) ?hw373_41 (by kernel_rfl) (by kernel_rfl) (fun _ _ _ h => h) (Or.inl ⟨?sw373_41, ?yw373_41⟩) (by assumption) ?nw373_41
        case hw373_41 => simp only [List.getElem?_toArray, List.getElem?_cons_succ, List.getElem?_cons_zero]; rfl
        case sw373_41 => rfl
        case yw373_41 => (intro w hSw; (try dsimp only at hSw); go_simp <;> with_reducible rfl)
        try simp only [Act.put, List.setIfInBounds_toArray, List.set_cons_zero, List.set_cons_succ]
        refine hR.take (i := 42) (oi := ?ow374_42) (v := ?vw374_42) (m' := 8796093022207) ?hw374_42 (by kernel_rfl) (by kernel_rfl) (fun _ _ _ h => h) (Or.inl ⟨?sw374_42, ?yw374_42⟩) (by assumption) ?nw374_42
        case hw374_42 => simp only [List.getElem?_toArray, List.getElem?_cons_succ, List.getElem?_cons_zero]; rfl
        case sw374_42 => rfl
        case yw374_42 => (intro w hSw; (try dsimp only at hSw); go_simp <;> with_reducible rfl)
        try simp only [Act.put, List.setIfInBounds_toArray, List.set_cons_zero, List.set_cons_succ]
        refine hR.take (i := 43) (oi := ?ow375_43) (v := ?vw375_43) (m' := 17592186044415) ?hw375_43 (by kernel_rfl) (by kernel_rfl) (fun _ _ _ h => h) (Or.inl ⟨?sw375_43, ?yw375_43⟩) (by assumption) ?nw375_43
        case hw375_43 => simp only [List.getElem?_toArray, List.getElem?_cons_succ, List.getElem?_cons_zero]; rfl
        case sw375_43 => rfl
        case yw375_43 => (intro w hSw; (try dsimp only at hSw); go_simp <;> with_reducible rfl)
        try simp only [Act.put, List.setIfInBounds_toArray, List.set_cons_zero, List.set_cons_succ]
        refine hR.take (i := 44) (oi := ?ow376_44) (v := ?vw376_44) (m' := 35184372088831) ?hw376_44 (by kernel_rfl) (by kernel_rfl) (fun _ _ _ h => h) (Or.inl ⟨?sw376_44, ?yw376_44⟩) (by assumption) ?nw376_44
        case hw376_44 => simp only [List.getElem?_toArray, List.getElem?_cons_succ, List.getElem?_cons_zero]; rfl
        case sw376_44 => rfl
        case yw376_44 => (intro w hSw; (try dsimp only at hSw); go_simp <;> with_reducible rfl)
        try simp only [Act.put, List.setIfInBounds_toArray, List.set_cons_zero, List.set_cons_succ]
        refine hR.take (i := 45) (oi := ?ow377_45) (v := ?vw377_45) (m' := 70368744177663) ?hw377_45 (by kernel_rfl) (by kernel_rfl) (fun _ _ _ h => h) (Or.inl ⟨?sw377_45, ?yw377_45⟩) (by assumption) ?nw377_45
        case hw377_45 => simp only [List.getElem?_toArray, List.getElem?_cons_succ, List.getElem?_cons_zero]; rfl
        case sw377_45 => rfl
        case yw377_45 => (intro w hSw; (try dsimp only at hSw); go_simp <;> with_reducible rfl)
        try simp only [Act.put, List.setIfInBounds_toArray, List.set_cons_zero, List.set_cons_succ]
        refine hR.come (rs := [46]) (by kernel_rfl) (by simp) ?_
        refine AllReadyH.cons (o := ?o378_46) ?h378_46 (fun K hK => ?kw378_46) AllReadyH.nil
        case h378_46 => simp only [List.getElem?_toArray, List.getElem?_cons_succ, List.getElem?_cons_zero]; rfl
        go_simp
        go_at_call 80; refine (maxRef _ _).mono ?_; rintro e w2 ⟨rfl, rfl⟩
        refine hK.out _ _ ?_ (fun hHeld => ?_)
        · (first | with_reducible assumption | (with_reducible refine Below.drew ?_; with_reducible assumption) | (with_reducible refine ba _ _ ?_; with_reducible assumption) | (with_reducible refine Below.drew ?_; with_reducible refine ba _ _ ?_; with_reducible assumption) | exact Below.refl _ _ | exact (Below.refl _ _).drew | exact (Below.refl _ _).alloc (Nat.le_refl _) _ | (refine bc _ _ (by assumption) (by assumption)))
        clear hK K
        refine RegOk.put_ (m' := 140737488355327) (by kernel_rfl) ?_
        try simp only [Act.put, List.setIfInBounds_toArray, List.set_cons_zero, List.set_cons_succ]
        refine hR.take (i := 47) (oi := ?ow379_47) (v := ?vw379_47) (m' := 281474976710655) ?hw379_47 (by kernel_rfl) (by kernel_rfl) (fun _ _ _ h => h) (Or.inl ⟨?sw379_47, ?yw379_47⟩) (by assumption) ?nw379_47
        case hw379_47 => simp only [List.getElem?_toArray, List.getElem?_cons_succ, List.getElem?_cons_zero]; rfl
        case sw379_47 => rfl
        case yw379_47 => (intro w hSw; (try dsimp only at hSw); go_simp <;> with_reducible rfl)
        try simp only [Act.put, List.setIfInBounds_toArray, List.set_cons_zero, List.set_cons_succ]
        refine hR.take (i := 48) (oi := ?ow380_48) (v := ?vw380_48) (m' := 562949953421311) ?hw380_48 (by kernel_rfl) (by kernel_rfl) (fun _ _ _ h => h) (Or.inl ⟨?sw380_48, ?yw380_48⟩) (by assumption) ?nw380_48
        case hw380_48 => simp only [List.getElem?_toArray, List.getElem?_cons_succ, List.getElem?_cons_zero]; rfl
        case sw380_48 => rfl
        case yw380_48 => (intro w hSw; (try dsimp only at hSw); go_simp <;> with_reducible rfl)
        try simp only [Act.put, List.setIfInBounds_toArray, List.set_cons_zero, List.set_cons_succ]
        refine hR.all (by kernel_rfl) ?_ _
        refine NoPanic.normal ?_
        go_wp2_with fail
        go_ret
        exact ⟨ret_b (not_cd (List.mem_of_getElem? Hx.out) hv.out).symm, Hb.out.drew⟩
      · have f5 : (maxC x.col < x.hi) = False := eq_false c5
        have hv := Lib.hid (show validCdB x = true from decide_eq_true (by unfold ValidCd; omega))
        refine wp_region_noPanic ?_
        refine wp_region_held_drew (S := fun X => Below wr.heap.size wr X) (by kernel_rfl) ?_ (fun hHeld => ?_)
        · (first | with_reducible assumption | (with_reducible refine Below.drew ?_; with_reducible assumption) | (with_reducible refine ba _ _ ?_; with_reducible assumption) | (with_reducible refine Below.drew ?_; with_reducible refine ba _ _ ?_; with_reducible assumption) | exact Below.refl _ _ | exact (Below.refl _ _).drew | exact (Below.refl _ _).alloc (Nat.le_refl _) _ | (refine bc _ _ (by assumption) (by assumption)))
        refine RegOk.begin_ (n := 49) (T := q5A) ⟨by kernel_rfl, by kernel_rfl, by kernel_rfl, by kernel_rfl⟩ fun hR => ?_
        refine hR.take (i := 0) (oi := ?ow381_0) (v := ?vw381_0) (m' := 1) ?hw381_0 (by kernel_rfl) (by kernel_rfl) (fun _ _ _ h => h) (Or.inl ⟨?sw381_0, ?yw381_0⟩) (by assumption) ?nw381_0
        case hw381_0 => simp only [List.getElem?_toArray, List.getElem?_cons_succ, List.getElem?_cons_zero]; rfl
        case sw381_0 => rfl
        case yw381_0 => (intro w hSw; (try dsimp only at hSw); go_simp <;> with_reducible rfl)
        try simp only [Act.put, List.setIfInBounds_toArray, List.set_cons_zero, List.set_cons_succ]
        refine hR.take (i := 1) (oi := ?ow382_1) (v := ?vw382_1) (m' := 3) ?hw382_1 (by kernel_rfl) (by kernel_rfl) (fun _ _ _ h => h) (Or.inl ⟨?sw382_1, ?yw382_1⟩) (by assumption) ?nw382_1
        case hw382_1 => simp only [List.getElem?_toArray, List.getElem?_cons_succ, List.getElem?_cons_zero]; rfl
        case sw382_1 => rfl
        case yw382_1 => (intro w hSw; (try dsimp only at hSw); go_simp <;> with_reducible rfl)
        try simp only [Act.put, List.setIfInBounds_toArray, List.set_cons_zero, List.set_cons_succ]
        refine hR.take (i := 2) (oi := ?ow383_2) (v := ?vw383_2) (m' := 7) ?hw383_2 (by kernel_rfl) (by kernel_rfl) (fun _ _ _ h => h) (Or.inl ⟨?sw383_2, ?yw383_2⟩) (by assumption) ?nw383_2
        case hw383_2 => simp only [List.getElem?_toArray, List.getElem?_cons_succ, List.getElem?_cons_zero]; rfl
        case sw383_2 => rfl
        case yw383_2 => (intro w hSw; (try dsimp only at hSw); go_simp <;> with_reducible rfl)
        try simp only [Act.put, List.setIfInBounds_toArray, List.set_cons_zero, List.set_cons_succ]
        refine hR.take (i := 3) (oi := ?ow384_3) (v := ?vw384_3) (m' := 15) ?hw384_3 (by kernel_rfl) (by kernel_rfl) (fun _ _ _ h => h) (Or.inl ⟨?sw384_3, ?yw384_3⟩) (by assumption) ?nw384_3
        case hw384_3 => simp only [List.getElem?_toArray, List.getElem?_cons_succ, List.getElem?_cons_zero]; rfl
        case sw384_3 => rfl
        case yw384_3 => (intro w hSw; (try dsimp only at hSw); go_simp <;> with_reducible rfl)
        try simp only [Act.put, List.setIfInBounds_toArray, List.set_cons_zero, List.set_cons_succ]
        refine hR.take (i := 4) (oi := ?ow385_4) (v := ?vw385_4) (m' := 31) ?hw385_4 (by kernel_rfl) (by kernel_rfl) (fun _ _ _ h => h) (Or.inl ⟨?sw385_4, ?yw385_4⟩) (by assumption) ?nw385_4
        case hw385_4 => simp only [List.getElem?_toArray, List.getElem?_cons_succ, List.getElem?_cons_zero]; rfl
        case sw385_4 => rfl
        case yw385_4 => (intro w hSw; (try dsimp only at hSw); go_simp <;> with_reducible rfl)
        try simp only [Act.put, List.setIfInBounds_toArray, List.set_cons_zero, List.set_cons_succ]
        refine hR.take (i := 5) (oi := ?ow386_5) (v := ?vw386_5) (m' := 63) ?hw386_5 (by kernel_rfl) (by kernel_rfl) (fun _ _ _ h => h) (Or.inl ⟨?sw386_5, ?yw386_5⟩) (by assumption) ?nw386_5
        case hw386_5 => simp only [List.getElem?_toArray, List.getElem?_cons_succ, List.getElem?_cons_zero]; rfl
        case sw386_5 => rfl
        case yw386_5 => (intro w hSw; (try dsimp only at hSw); go_simp <;> with_reducible rfl)
        try simp only [Act.put, List.setIfInBounds_toArray, List.set_cons_zero, List.set_cons_succ]
        refine hR.take (i := 6) (oi := ?ow387_6) (v := ?vw387_6) (m' := 127) ?hw387_6 (by kernel_rfl) (by kernel_rfl) (fun _ _ _ h => h) (Or.inl ⟨?sw387_6, ?yw387_6⟩) (by assumption) ?nw387_6
        case hw387_6 => simp only [List.getElem?_toArray, List.getElem?_cons_succ, List.getElem?_cons_zero]; rfl
        case sw387_6 => rfl
        case yw387_6 => (intro w hSw; (try dsimp only at hSw); go_simp <;> with_reducible rfl)
        try simp only [Act.put, List.setIfInBounds_toArray, List.set_cons_zero, List.set_cons_succ]
        refine hR.take (i := 7) (oi := ?ow388_7) (v := ?vw388_7) (m' := 255) ?hw388_7 (by kernel_rfl) (by kernel_rfl) (fun _ _ _ h => h) (Or.inl ⟨?sw388_7, ?yw388_7⟩) (by assumption) ?nw388_7
        case hw388_7 => simp only [List.getElem?_toArray, List.getElem?_cons_succ, List.getElem?_cons_zero]; rfl
        case sw388_7 => rfl
        case yw388_7 => (intro w hSw; (try dsimp only at hSw); go_simp <;> with_reducible rfl)
        try simp only [Act.put, List.setIfInBounds_toArray, List.set_cons_zero, List.set_cons_succ]
        refine hR.take (i := 8) (oi := ?ow389_8) (v := ?vw389_8) (m' := 511) ?hw389_8 (by kernel_rfl) (by kernel_rfl) (fun _ _ _ h => h) (Or.inl ⟨?sw389_8, ?yw389_8⟩) (by assumption) ?nw389_8
        case hw389_8 => simp only [List.getElem?_toArray, List.getElem?_cons_succ, List.getElem?_cons_zero]; rfl
        case sw389_8 => rfl
        case yw389_8 => (intro w hSw; (try dsimp only at hSw); go_simp <;> with_reducible rfl)
        try simp only [Act.put, List.setIfInBounds_toArray, List.set_cons_zero, List.set_cons_succ]
        refine hR.take (i := 9) (oi := ?ow390_9) (v := ?vw390_9) (m' := 1023) ?hw390_9 (by kernel_rfl) (by kernel_rfl) (fun _ _ _ h => h) (Or.inl ⟨?sw390_9, ?yw390_9⟩) (by assumption) ?nw390_9
        case hw390_9 => simp only [List.getElem?_toArray, List.getElem?_cons_succ, List.getElem?_cons_zero]; rfl
        case sw390_9 => rfl
        case yw390_9 => (intro w hSw; (try dsimp only at hSw); go_simp <;> with_reducible rfl)
        try simp only [Act.put, List.setIfInBounds_toArray, List.set_cons_zero, List.set_cons_succ]
        refine hR.take (i := 10) (oi := ?ow391_10) (v := ?vw391_10) (m' := 2047) ?hw391_10 (by kernel_rfl) (by kernel_rfl) (fun _ _ _ h => h) (Or.inl ⟨?sw391_10, ?yw391_10⟩) (by assumption) ?nw391_10
        case hw391_10 => simp only [List.getElem?_toArray, List.getElem?_cons_succ, List.getElem?_cons_zero]; rfl
        case sw391_10 => rfl
        case yw391_10 => (intro w hSw; (try dsimp only at hSw); go_simp <;> with_reducible rfl)
        try simp only [Act.put, List.setIfInBounds_toArray, List.set_cons_zero, List.set_cons_succ]
        refine hR.take (i := 11) (oi := ?ow392_11) (v := ?vw392_11) (m' := 4095) ?hw392_11 (by kernel_rfl) (by kernel_rfl) (fun _ _ _ h => h) (Or.inl ⟨?sw392_11, ?yw392_11⟩) (by assumption) ?nw392_11
        case hw392_11 => simp only [List.getElem?_toArray, List.getElem?_cons_succ, List.getElem?_cons_zero]; rfl
        case sw392_11 => rfl
        case yw392_11 => (intro w hSw; (try dsimp only at hSw); go_simp <;> with_reducible rfl)
        try simp only [Act.put, List.setIfInBounds_toArray, List.set_cons_zero, List.set_cons_succ]
        refine hR.take (i := 12) (oi := ?ow393_12) (v := ?vw393_12) (m' := 8191) ?hw393_12 (by kernel_rfl) (by kernel_rfl) (fun _ _ _ h => h) (Or.inl ⟨?sw393_12, ?yw393_12⟩) (by assumption) ?nw393_12
        case hw393_12 => simp only [List.getElem?_toArray, List.getElem?_cons_succ, List.getElem?_cons_zero]; rfl
        case sw393_12 => rfl
        case yw393_12 => (intro w hSw; (try dsimp only at hSw); go_simp <;> with_reducible rfl)
        try simp only [Act.put, List.setIfInBounds_toArray, List.set_cons_zero, List.set_cons_succ]
        refine hR.take (i := 13) (oi := ?ow394_13) (v := ?vw394_13) (m' := 16383) ?hw394_13 (by kernel_rfl) (by kernel_rfl) (fun _ _ _ h => h) (Or.inl ⟨?sw394_13, ?yw394_13⟩) (by assumption) ?nw394_13
        case hw394_13 => simp only [List.getElem?_toArray, List.getElem?_cons_succ, List.getElem?_cons_zero]; rfl
        case sw394_13 => rfl
        case yw394_13 => (intro w hSw; (try dsimp only at hSw); go_simp <;> with_reducible rfl)
        try simp only [Act.put, List.setIfInBounds_toArray, List.set_cons_zero, List.set_cons_succ]
        refine hR.take (i := 14) (oi := ?ow395_14) (v := ?vw395_14) (m' := 32767) ?hw395_14 (by kernel_rfl) (by kernel_rfl) (fun _ _ _ h => h) (Or.inl ⟨?sw395_14, ?yw395_14⟩) (by assumption) ?nw395_14
        case hw395_14 => simp only [List.getElem?_toArray, List.getElem?_cons_succ, List.getElem?_cons_zero]; rfl
        case sw395_14 => rfl
        case yw395_14 => (intro w hSw; (try dsimp only at hSw); go_simp <;> with_reducible rfl)
        try simp only [Act.put, List.setIfInBounds_toArray, List.set_cons_zero, List.set_cons_succ]
        refine hR.take (i := 15) (oi := ?ow396_15) (v := ?vw396_15) (m' := 65535) ?hw396_15 (by kernel_rfl) (by kernel_rfl) (fun _ _ _ h => h) (Or.inl ⟨?sw396_15, ?yw396_15⟩) (by assumption) ?nw396_15
        case hw396_15 => simp only [List.getElem?_toArray, List.getElem?_cons_succ, List.getElem?_cons_zero]; rfl
        case sw396_15 => rfl
        case yw396_15 => (intro w hSw; (try dsimp only at hSw); go_simp <;> with_reducible rfl)
        try simp only [Act.put, List.setIfInBounds_toArray, List.set_cons_zero, List.set_cons_succ]
        refine hR.take (i := 16) (oi := ?ow397_16) (v := ?vw397_16) (m' := 131071) ?hw397_16 (by kernel_rfl) (by kernel_rfl) (fun _ _ _ h => h) (Or.inl ⟨?sw397_16, ?yw397_16⟩) (by assumption) ?nw397_16
        case hw397_16 => simp only [List.getElem?_toArray, List.getElem?_cons_succ, List.getElem?_cons_zero]; rfl
        case sw397_16 => rfl
        case yw397_16 => (intro w hSw; (try dsimp only at hSw); go_simp <;> with_reducible rfl)
        try simp only [Act.put, List.setIfInBounds_toArray, List.set_cons_zero, List.set_cons_succ]
        refine hR.take (i := 17) (oi := ?ow398_17) (v := ?vw398_17) (m' := 262143) ?hw398_17 (by kernel_rfl) (by kernel_rfl) (fun _ _ _ h => h) (Or.inl ⟨?sw398_17, ?yw398_17⟩) (by assumption) ?nw398_17
        case hw398_17 => simp only [List.getElem?_toArray, List.getElem?_cons_succ, List.getElem?_cons_zero]; rfl
        case sw398_17 => rfl
        case yw398_17 => (intro w hSw; (try dsimp only at hSw); go_simp <;> with_reducible rfl)
        try simp only [Act.put, List.setIfInBounds_toArray, List.set_cons_zero, List.set_cons_succ]
        refine hR.take (i := 18) (oi := ?ow399_18) (v := ?vw399_18) (m' := 524287) ?hw399_18 (by kernel_rfl) (by kernel_rfl) (fun _ _ _ h => h) (Or.inl ⟨?sw399_18, ?yw399_18⟩) (by assumption) ?nw399_18
        case hw399_18 => simp only [List.getElem?_toArray, List.getElem?_cons_succ, List.getElem?_cons_zero]; rfl
        case sw399_18 => rfl
        case yw399_18 => (intro w hSw; (try dsimp only at hSw); go_simp <;> with_reducible rfl)
        try simp only [Act.put, List.setIfInBounds_toArray, List.set_cons_zero, List.set_cons_succ]
        refine hR.take (i := 19) (oi := ?ow400_19) (v := ?vw400_19) (m' := 1048575) ?hw400_19 (by kernel_rfl) (by kernel_rfl) (fun _ _ _ h => h) (Or.inl ⟨?sw400_19, ?yw400_19⟩) (by assumption) ?nw400_19
        case hw400_19 => simp only [List.getElem?_toArray, List.getElem?_cons_succ, List.getElem?_cons_zero]; rfl
        case sw400_19 => rfl
        case yw400_19 => (intro w hSw; (try dsimp only at hSw); go_simp <;> with_reducible rfl)
        try simp only [Act.put, List.setIfInBounds_toArray, List.set_cons_zero, List.set_cons_succ]
        refine hR.take (i := 20) (oi := ?ow401_20) (v := ?vw401_20) (m' := 2097151) ?hw401_20 (by kernel_rfl) (by kernel_rfl) (fun _ _ _ h => h) (Or.inl ⟨?sw401_20, ?yw401_20⟩) (by assumption) ?nw401_20
        case hw401_20 => simp only [List.getElem?_toArray, List.getElem?_cons_succ, List.getElem?_cons_zero]; rfl
        case sw401_20 => rfl
        case yw401_20 => (intro w hSw; (try dsimp only at hSw); go_simp <;> with_reducible rfl)
        try simp only [Act.put, List.setIfInBounds_toArray, List.set_cons_zero, List.set_cons_succ]
        refine hR.take (i := 21) (oi := ?ow402_21) (v := ?vw402_21) (m' := 4194303) ?hw402_21 (by kernel_rfl) (by kernel_rfl) (fun _ _ _ h => h) (Or.inl ⟨?sw402_21, ?yw402_21⟩) (by assumption) ?nw402_21
        case hw402_21 => simp only [List.getElem?_toArray, List.getElem?_cons_succ, List.getElem?_cons_zero]; rfl
        case sw402_21 => rfl
        case yw402_21 => (intro w hSw; (try dsimp only at hSw); go_simp <;> with_reducible rfl)
        try simp only [Act.put, List.setIfInBounds_toArray, List.set_cons_zero, List.set_cons_succ]
        refine hR.take (i := 22) (oi := ?ow403_22) (v := ?vw403_22) (m' := 8388607) ?hw403_22 (by kernel_rfl) (by kernel_rfl) (fun _ _ _ h => h) (Or.inl ⟨?sw403_22, ?yw403_22⟩) (by assumption) ?nw403_22
        case hw403_22 => simp only [List.getElem?_toArray, List.getElem?_cons_succ, List.getElem?_cons_zero]; rfl
        case sw403_22 => rfl
        case yw403_22 => (intro w hSw; (try dsimp only at hSw); go_simp <;> with_reducible rfl)
        try simp only [Act.put, List.setIfInBounds_toArray, List.set_cons_zero, List.set_cons_succ]
        refine hR.take (i := 23) (oi := ?ow404_23) (v := ?vw404_23) (m' := 16777215) ?hw404_23 (by kernel_rfl) (by kernel_rfl) (fun _ _ _ h => h) (Or.inl ⟨?sw404_23, ?yw404_23⟩) (by assumption) ?nw404_23
        case hw404_23 => simp only [List.getElem?_toArray, List.getElem?_cons_succ, List.getElem?_cons_zero]; rfl
        case sw404_23 => rfl
        case yw404_23 => (intro w hSw; (try dsimp only at hSw); go_simp <;> with_reducible rfl)
        try simp only [Act.put, List.setIfInBounds_toArray, List.set_cons_zero, List.set_cons_succ]
        refine hR.take (i := 24) (oi := ?ow405_24) (v := ?vw405_24) (m' := 33554431) ?hw405_24 (by kernel_rfl) (by kernel_rfl) (fun _ _ _ h => h) (Or.inl ⟨?sw405_24, ?yw405_24⟩) (by assumption) ?nw405_24
        case hw405_24 => simp only [List.getElem?_toArray, List.getElem?_cons_succ, List.getElem?_cons_zero]; rfl
        case sw405_24 => rfl
        case yw405_24 => (intro w hSw; (try dsimp only at hSw); go_simp <;> with_reducible rfl)
        try simp only [Act.put, List.setIfInBounds_toArray, List.set_cons_zero, List.set_cons_succ]
        refine hR.take (i := 25) (oi := ?ow406_25) (v := ?vw406_25) (m' := 67108863) ?hw406_25 (by kernel_rfl) (by kernel_rfl) (fun _ _ _ h => h) (Or.inl ⟨?sw406_25, ?yw406_25⟩) (by assumption) ?nw406_25
        case hw406_25 => simp only [List.getElem?_toArray, List.getElem?_cons_succ, List.getElem?_cons_zero]; rfl
        case sw406_25 => rfl
        case yw406_25 => (intro w hSw; (try dsimp only at hSw); go_simp <;> with_reducible rfl)
        try simp only [Act.put, List.setIfInBounds_toArray, List.set_cons_zero, List.set_cons_succ]
        refine hR.take (i := 26) (oi := ?ow407_26) (v := ?vw407_26) (m' := 134217727) ?hw407_26 (by kernel_rfl) (by kernel_rfl) (fun _ _ _ h => h) (Or.inl ⟨?sw407_26, ?yw407_26⟩) (by assumption) ?nw407_26
        case hw407_26 => simp only [List.getElem?_toArray, List.getElem?_cons_succ, List.getElem?_cons_zero]; rfl
        case sw407_26 => rfl
        case yw407_26 => (intro w hSw; (try dsimp only at hSw); go_simp <;> with_reducible rfl)
        try simp only [Act.put, List.setIfInBounds_toArray, List.set_cons_zero, List.set_cons_succ]
        refine hR.take (i := 27) (oi := ?ow408_27) (v := ?vw408_27) (m' := 268435455) ?hw408_27 (by kernel_rfl) (by kernel_rfl) (fun _ _ _ h => h) (Or.inl ⟨?sw408_27, ?yw408_27⟩) (by assumption) ?nw408_27
        case hw408_27 => simp only [List.getElem?_toArray, List.getElem?_cons_succ, List.getElem?_cons_zero]; rfl
        case sw408_27 => rfl
        case yw408_27 => (intro w hSw; (try dsimp only at hSw); go_simp <;> with_reducible rfl)
        try simp only [Act.put, List.setIfInBounds_toArray, List.set_cons_zero, List.set_cons_succ]
        refine hR.take (i := 28) (oi := ?ow409_28) (v := ?vw409_28) (m' := 536870911) ?hw409_28 (by kernel_rfl) (by kernel_rfl) (fun _ _ _ h => h) (Or.inl ⟨?sw409_28, ?yw409_28⟩) (by assumption) ?nw409_28
        case hw409_28 => simp only [List.getElem?_toArray, List.getElem?_cons_succ, List.getElem?_cons_zero]; rfl
        case sw409_28 => rfl
        case yw409_28 => (intro w hSw; (try dsimp only at hSw); go_simp <;> with_reducible rfl)
        try simp only [Act.put, List.setIfInBounds_toArray, List.set_cons_zero, List.set_cons_succ]
        refine hR.take (i := 29) (oi := ?ow410_29) (v := ?vw410_29) (m' := 1073741823) ?hw410_29 (by kernel_rfl) (by kernel_rfl) (fun _ _ _ h => h) (Or.inl ⟨?sw410_29, ?yw410_29⟩) (by assumption) ?nw410_29
        case hw410_29 => simp only [List.getElem?_toArray, List.getElem?_cons_succ, List.getElem?_cons_zero]; rfl
        case sw410_29 => rfl
        case yw410_29 => (intro w hSw; (try dsimp only at hSw); go_simp <;> with_reducible rfl)
        try simp only [Act.put, List.setIfInBounds_toArray, List.set_cons_zero, List.set_cons_succ]
        refine hR.take (i := 30) (oi := ?ow411_30) (v := ?vw411_30) (m' := 2147483647) ?hw411_30 (by kernel_rfl) (by kernel_rfl) (fun _ _ _ h => h) (Or.inl ⟨?sw411_30, ?yw411_30⟩) (by assumption) ?nw411_30
        case hw411_30 => simp only [List.getElem?_toArray, List.getElem?_cons_succ, List.getElem?_cons_zero]; rfl
        case sw411_30 => rfl
        case yw411_30 => (intro w hSw; (try dsimp only at hSw); go_simp <;> with_reducible rfl)
        try simp only [Act.put, List.setIfInBounds_toArray, List.set_cons_zero, List.set_cons_succ]
        refine hR.take (i := 31) (oi := ?ow412_31) (v := ?vw412_31) (m' := 4294967295) ?hw412_31 (by kernel_rfl) (by kernel_rfl) (fun _ _ _ h => h) (Or.inl ⟨?sw412_31, ?yw412_31⟩) (by assumption) ?nw412_31
        case hw412_31 => simp only [List.getElem?_toArray, List.getElem?_cons_succ, List.getElem?_cons_zero]; rfl
        case sw412_31 => rfl
        case yw412_31 => (intro w hSw; (try dsimp only at hSw); go_simp <;> with_reducible rfl)
        try simp only [Act.put, List.setIfInBounds_toArray, List.set_cons_zero, List.set_cons_succ]
        refine hR.take (i := 32) (oi := ?ow413_32) (v := ?vw413_32) (m' := 8589934591) ?hw413_32 (by kernel_rfl) (by kernel_rfl) (fun _ _ _ h => h) (Or.inl ⟨?sw413_32, ?yw413_32⟩) (by assumption) ?nw413_32
        case hw413_32 => simp only [List.getElem?_toArray, List.getElem?_cons_succ, List.getElem?_cons_zero]; rfl
        case sw413_32 => rfl
        case yw413_32 => (intro w hSw; (try dsimp only at hSw); go_simp <;> with_reducible rfl)
        try simp only [Act.put, List.setIfInBounds_toArray, List.set_cons_zero, List.set_cons_succ]
        refine hR.take (i := 33) (oi := ?ow414_33) (v := ?vw414_33) (m' := 17179869183) ?hw414_33 (by kernel_rfl) (by kernel_rfl) (fun _ _ _ h => h) (Or.inl ⟨?sw414_33, ?yw414_33⟩) (by assumption) ?nw414_33
        case hw414_33 => simp only [List.getElem?_toArray, List.getElem?_cons_succ, List.getElem?_cons_zero]; rfl
        case sw414_33 => rfl
        case yw414_33 => (intro w hSw; (try dsimp only at hSw); go_simp <;> with_reducible rfl)
        try simp only [Act.put, List.setIfInBounds_toArray, List.set_cons_zero, List.set_cons_succ]
        refine hR.take (i := 34) (oi := ?ow415_34) (v := ?vw415_34) (m' := 34359738367) ?hw415_34 (by kernel_rfl) (by kernel_rfl) (fun _ _ _ h => h) (Or.inl ⟨?sw415_34, ?yw415_34⟩) (by assumption) ?nw415_34
        case hw415_34 => simp only [List.getElem?_toArray, List.getElem?_cons_succ, List.getElem?_cons_zero]; rfl
        case sw415_34 => rfl
        case yw415_34 => (intro w hSw; (try dsimp only at hSw); go_simp <;> with_reducible rfl)
        try simp only [Act.put, List.setIfInBounds_toArray, List.set_cons_zero, List.set_cons_succ]
        refine hR.take (i := 35) (oi := ?ow416_35) (v := ?vw416_35) (m' := 68719476735) ?hw416_35 (by kernel_rfl) (by kernel_rfl) (fun _ _ _ h => h) (Or.inl ⟨?sw416_35, ?yw416_35⟩) (by assumption) ?nw416_35
        case hw416_35 => simp only [List.getElem?_toArray, List.getElem?_cons_succ, List.getElem?_cons_zero]; rfl
        case sw416_35 => rfl
        case yw416_35 => (intro w hSw; (try dsimp only at hSw); go_simp <;> with_reducible rfl)
        try simp only [Act.put, List.setIfInBounds_toArray, List.set_cons_zero, List.set_cons_succ]
        refine hR.take (i := 36) (oi := ?ow417_36) (v := ?vw417_36) (m' := 137438953471) ?hw417_36 (by kernel_rfl) (by kernel_rfl) (fun _ _ _ h => h) (Or.inl ⟨?sw417_36, ?yw417_36⟩) (by assumption) ?nw417_36
        case hw417_36 => simp only [List.getElem?_toArray, List.getElem?_cons_succ, List.getElem?_cons_zero]; rfl
        case sw417_36 => rfl
        case yw417_36 => (intro w hSw; (try dsimp only at hSw); go_simp <;> with_reducible rfl)
        try simp only [Act.put, List.setIfInBounds_toArray, List.set_cons_zero, List.set_cons_succ]
        refine hR.take (i := 37) (oi := ?ow418_37) (v := ?vw418_37) (m' := 274877906943) ?hw418_37 (by kernel_rfl) (by kernel_rfl) (fun _ _ _ h => h) (Or.inl ⟨?sw418_37, ?yw418_37⟩) (by assumption) ?nw418_37
        case hw418_37 => simp only [List.getElem?_toArray, List.getElem?_cons_succ, List.getElem?_cons_zero]; rfl
        case sw418_37 => rfl
        case yw418_37 => (intro w hSw; (try dsimp only at hSw); go_simp <;> with_reducible rfl)
        try simp only [Act.put, List.setIfInBounds_toArray, List.set_cons_zero, List.set_cons_succ]
        refine hR.take (i := 38) (oi := ?ow419_38) (v := ?vw419_38) (m' := 549755813887) ?hw419_38 (by kernel_rfl) (by kernel_rfl) (fun _ _ _ h => h) (Or.inl ⟨?sw419_38, ?yw419_38⟩) (by assumption) ?nw419_38
        case hw419_38 => simp only [List.getElem?_toArray, List.getElem?_cons_succ, List.getElem?_cons_zero]; rfl
        case sw419_38 => rfl
        case yw419_38 => (intro w hSw; (try dsimp only at hSw); go_simp <;> with_reducible rfl)
        try simp only [Act.put, List.setIfInBounds_toArray, List.set_cons_zero, List.set_cons_succ]
        refine hR.take (i := 39) (oi := ?ow420_39) (v := ?vw420_39) (m' := 1099511627775) ?hw420_39 (by kernel_rfl) (by kernel_rfl) (fun _ _ _ h => h) (Or.inl ⟨?sw420_39, ?yw420_39⟩) (by assumption) ?nw420_39
        case hw420_39 => simp only [List.getElem?_toArray, List.getElem?_cons_succ, List.getElem?_cons_zero]; rfl
        case sw420_39 => rfl
        case yw420_39 => (intro w hSw; (try dsimp only at hSw); go_simp <;> with_reducible rfl)
        try simp only [Act.put, List.setIfInBounds_toArray, List.set_cons_zero, List.set_cons_succ]
        refine hR.take (i := 40) (oi := ?ow421_40) (v := ?vw421_40) (m' := 2199023255551) ?hw421_40 (by kernel_rfl) (by kernel_rfl) (fun _ _ _ h => h) (Or.inl ⟨?sw421_40, ?yw421_40⟩) (by assumption) ?nw421_40
        case hw421_40 => simp only [List.getElem?_toArray, List.getElem?_cons_succ, List.getElem?_cons_zero]; rfl
        case sw421_40 => rfl
        case yw421_40 => (intro w hSw; (try dsimp only at hSw); go_simp <;> with_reducible rfl)
        try simp only [Act.put, List.setIfInBounds_toArray, List.set_cons_zero, List.set_cons_succ]
        refine hR.take (i := 41) (oi := ?ow422_41) (v := ?vw422_41) (m' := 4398046511103) ?hw422_41 (by kernel_rfl) (by kernel_rfl) (fun _ _ _ h => h) (Or.inl ⟨?sw422_41, ?yw422_41⟩) (by assumption) ?nw422_41
        case hw422_41 => simp only [List.getElem?_toArray, List.getElem?_cons_succ, List.getElem?_cons_zero]; rfl
        case sw422_41 => rfl
        case yw422_41 => (intro w hSw; (try dsimp only at hSw); go_simp <;> with_reducible rfl)
        try simp only [Act.put, List.setIfInBounds_toArray, List.set_cons_zero, List.set_cons_succ]
        refine hR.take (i := 42) (oi := ?ow423_42) (v := ?vw423_42) (m' := 8796093022207) ?hw423_42 (by kernel_rfl) (by kernel_rfl) (fun _ _ _ h => h) (Or.inl ⟨?sw423_42, ?yw423_42⟩) (by assumption) ?nw423_42
        case hw423_42 => simp only [List.getElem?_toArray, List.getElem?_cons_succ, List.getElem?_cons_zero]; rfl
        case sw423_42 => rfl
        case yw423_42 => (intro w hSw; (try dsimp only at hSw); go_simp <;> with_reducible rfl)
        try simp only [Act.put, List.setIfInBounds_toArray, List.set_cons_zero, List.set_cons_succ]
        refine hR.take (i := 43) (oi := ?ow424_43) (v := ?vw424_43) (m' := 17592186044415) ?hw424_43 (by kernel_rfl) (by kernel_rfl) (fun _ _ _ h => h) (Or.inl ⟨?sw424_43, ?yw424_43⟩) (by assumption) ?nw424_43
        case hw424_43 => simp only [List.getElem?_toArray, List.getElem?_cons_succ, List.getElem?_cons_zero]; rfl
        case sw424_43 => rfl
        case yw424_43 => (intro w hSw; (try dsimp only at hSw); go_simp <;> with_reducible rfl)
        try simp only [Act.put, List.setIfInBounds_toArray, List.set_cons_zero, List.set_cons_succ]
        refine hR.take (i := 44) (oi := ?ow425_44) (v := ?vw425_44) (m' := 35184372088831) ?hw425_44 (by kernel_rfl) (by kernel_rfl) (fun _ _ _ h => h) (Or.inl ⟨?sw425_44, ?yw425_44⟩) (by assumption) ?nw425_44
        case hw425_44 => simp only [List.getElem?_toArray, List.getElem?_cons_succ, List.getElem?_cons_zero]; rfl
        case sw425_44 => rfl
        case yw425_44 => (intro w hSw; (try dsimp only at hSw); go_simp <;> with_reducible rfl)
        try simp only [Act.put, List.setIfInBounds_toArray, List.set_cons_zero, List.set_cons_succ]
        refine hR.take (i := 45) (oi := ?ow426_45) (v := ?vw426_45) (m' := 70368744177663) ?hw426_45 (by kernel_rfl) (by kernel_rfl) (fun _ _ _ h => h) (Or.inl ⟨?sw426_45, ?yw426_45⟩) (by assumption) ?nw426_45
        case hw426_45 => simp only [List.getElem?_toArray, List.getElem?_cons_succ, List.getElem?_cons_zero]; rfl
        case sw426_45 => rfl
        case yw426_45 => (intro w hSw; (try dsimp only at hSw); go_simp <;> with_reducible rfl)
        try simp only [Act.put, List.setIfInBounds_toArray, List.set_cons_zero, List.set_cons_succ]
        refine hR.come (rs := [46]) (by kernel_rfl) (by simp) ?_
        refine AllReadyH.cons (o := ?o427_46) ?h427_46 (fun K hK => ?kw427_46) AllReadyH.nil
        case h427_46 => simp only [List.getElem?_toArray, List.getElem?_cons_succ, List.getElem?_cons_zero]; rfl
        go_simp
        go_at_call 80; refine (maxRef _ _).mono ?_; rintro e w2 ⟨rfl, rfl⟩
        refine hK.out _ _ ?_ (fun hHeld => ?_)
        · (first | with_reducible assumption | (with_reducible refine Below.drew ?_; with_reducible assumption) | (with_reducible refine ba _ _ ?_; with_reducible assumption) | (with_reducible refine Below.drew ?_; with_reducible refine ba _ _ ?_; with_reducible assumption) | exact Below.refl _ _ | exact (Below.refl _ _).drew | exact (Below.refl _ _).alloc (Nat.le_refl _) _ | (refine bc _ _ (by assumption) (by assumption)))
        clear hK K
        refine RegOk.put_ (m' := 140737488355327) (by kernel_rfl) ?_
        try simp only [Act.put, List.setIfInBounds_toArray, List.set_cons_zero, List.set_cons_succ]
        refine hR.take (i := 47) (oi := ?ow428_47) (v := ?vw428_47) (m' := 281474976710655) ?hw428_47 (by kernel_rfl) (by kernel_rfl) (fun _ _ _ h => h) (Or.inl ⟨?sw428_47, ?yw428_47⟩) (by assumption) ?nw428_47
        case hw428_47 => simp only [List.getElem?_toArray, List.getElem?_cons_succ, List.getElem?_cons_zero]; rfl
        case sw428_47 => rfl
        case yw428_47 => (intro w hSw; (try dsimp only at hSw); go_simp <;> with_reducible rfl)
        try simp only [Act.put, List.setIfInBounds_toArray, List.set_cons_zero, List.set_cons_succ]
        refine hR.take (i := 48) (oi := ?ow429_48) (v := ?vw429_48) (m' := 562949953421311) ?hw429_48 (by kernel_rfl) (by kernel_rfl) (fun _ _ _ h => h) (Or.inl ⟨?sw429_48, ?yw429_48⟩) (by assumption) ?nw429_48
        case hw429_48 => simp only [List.getElem?_toArray, List.getElem?_cons_succ, List.getElem?_cons_zero]; rfl
        case sw429_48 => rfl
        case yw429_48 => (intro w hSw; (try dsimp only at hSw); go_simp <;> with_reducible rfl)
        try simp only [Act.put, List.setIfInBounds_toArray, List.set_cons_zero, List.set_cons_succ]
        refine hR.all (by kernel_rfl) ?_ _
        refine NoPanic.normal ?_
        go_wp2_with fail
        go_roundw
        case rel => exact ⟨j + 1, by omega, by go_num, by rw [Hn.out, Ha.out, hv.out]; rfl, Hb.out.drew⟩
        case measure => simp [intOf]; omega
    · have hj1 : ¬ (j : Int) < (l.length : Int) := by omega
      go_wp2_with fail
      go_ret
      refine ⟨ret_b ?_, Hb.out⟩
      have := Ha.out
      rw [List.take_of_length_le (by omega)] at this
      unfold validFltB
      rw [decide_eq_true h3, this]; rfl
end Go.Proofs.YtagadbdbbglddaaGreatDoor
