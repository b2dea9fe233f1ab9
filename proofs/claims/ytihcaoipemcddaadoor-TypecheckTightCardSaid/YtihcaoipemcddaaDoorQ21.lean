/-
  Contracts of the type checker's law (XQ21): Value, Match, and the law's own simple, first, field.
-/
import Derived.Test.YtihcaoipemcddaaDoorQ20
import Derived.Test.YtihcaoipemcddaaDoorQP
namespace Go.Proofs.YtihcaoipemcddaaDoor
open Go.RowKit

theorem valueRef {r : Rd} {col : Int} (w : World) (h0 : 0 ≤ col) (h3 : col ≤ 3) : Calls Tryd.prog 39 #[(.agg #[.int .i64 r.who, .int .i64 r.whn, .int .i64 r.knd, .int .i64 r.val]), .int .i64 col] w fun e w' => e = .returned (.int .i64 (fldI r col)) ∧ Below w.heap.size w w' := by
  rcases (by omega : col = 0 ∨ col = 1 ∨ col = 2 ∨ col = 3) with rfl | rfl | rfl | rfl
  all_goals
    clear h0 h3
    go_enter Tryd.func39, Tryd.ntmps39
    go_wp2_with fail
    go_ret
    exact ⟨rfl, (by repeat' (first | with_reducible exact Below.refl _ _ | with_reducible assumption | with_reducible refine Below.setCell ?_ ?_ _ | with_reducible refine Below.drew ?_ | with_reducible refine below_drewN ?_ _ | with_reducible refine Below.alloc ?_ ?_ _ | (rintro _ ⟨⟩; simp <;> omega) | omega | (simp <;> omega)))⟩
theorem fieldL14 {r : Rd} {col : Int} (w : World) (h0 : 0 ≤ col) (h3 : col ≤ 3) : Calls Tryd.prog 37 #[(.agg #[.int .i64 r.who, .int .i64 r.whn, .int .i64 r.knd, .int .i64 r.val]), .int .i64 col] w fun e w' => e = .returned (.int .i64 (fldI r col)) ∧ Below w.heap.size w w' := by
  rcases (by omega : col = 0 ∨ col = 1 ∨ col = 2 ∨ col = 3) with rfl | rfl | rfl | rfl
  all_goals
    clear h0 h3
    go_enter Tryd.func37, Tryd.ntmps37
    go_wp2_with fail
    go_ret
    exact ⟨rfl, (by repeat' (first | with_reducible exact Below.refl _ _ | with_reducible assumption | with_reducible refine Below.setCell ?_ ?_ _ | with_reducible refine Below.drew ?_ | with_reducible refine below_drewN ?_ _ | with_reducible refine Below.alloc ?_ ?_ _ | (rintro _ ⟨⟩; simp <;> omega) | omega | (simp <;> omega)))⟩
def q21M : List FRow := [(0, ([], (14, [3]))), (1, ([], (15, [0]))), (2, ([], (16, [5]))), (3, ([1, 2], (17, [14, 15]))), (4, ([3], (18, [16]))), (5, ([4], (19, [17]))), (6, ([0, 5], (20, [13, 18]))), (7, ([6, 6, 0, 1, 2, 3, 4, 5, 6], (7, [19])))]
set_option maxRecDepth 100000 in
set_option maxHeartbeats 2000000 in
theorem matchRef {l : List Cd} {r : Rd} {A : Option Addr} {c : Nat} {S : Nat → Prop} (w : World) (h : Sl cdE S w A c l) (hv : ∀ x ∈ l, ValidCd x) :
    Calls Tryd.prog 27 #[.slice A l.length c, (.agg #[.int .i64 r.who, .int .i64 r.whn, .int .i64 r.knd, .int .i64 r.val])] w fun e w' => e = .returned (.bool (matchB l r)) ∧ Below w.heap.size w w' := by
  have hm := h.max
  have H := Lib.hid h
  have HV := Lib.hid hv
  clear h hv
  go_enter Tryd.func27, Tryd.ntmps27
  go_wp2_with fail
  go_loopw [5] (fun i wr => ∃ j : Nat, j ≤ l.length ∧ i = .int .i64 j ∧ Hid ((l.take j).all (matchT r) = true) ∧ Below w.heap.size w wr ∧ Hid (wr.heap[w.heap.size]? = some (.cells #[.int .i64 r.who, .int .i64 r.whn, .int .i64 r.knd, .int .i64 r.val] 40 (0, 0)))) (fun i _ => l.length - (intOf i).toNat)
  case atStart => exact ⟨0, Nat.zero_le _, rfl, Lib.hid rfl, (Below.refl _ _).alloc (Nat.le_refl _) _, Lib.hid (heap_alloc_at rfl)⟩
  case round =>
    obtain ⟨j, hj, rfl, ht, hb, gr⟩ := hrel
    have b1 := Lib.hid hb
    have H1 := Lib.hid (H.out.keep (Below.agree hb))
    clear hb
    have hj0 : (0 : Int) ≤ (j : Int) := by omega
    by_cases hlt : j < l.length
    · obtain ⟨x, hx⟩ : ∃ x, l[j]? = some x := ⟨_, List.getElem?_eq_getElem hlt⟩
      obtain ⟨b2, o2, rfl, -, l2, x0, x1, x2⟩ := cd_at H1.out hx
      have hj1 : (j : Int) < (l.length : Int) := by omega
      obtain ⟨⟨hc0, hc3⟩, -, -, -⟩ := HV.out x (List.mem_of_getElem? hx)
      have hn := Lib.hid (show (l.take (j + 1)).all (matchT r) = ((l.take j).all (matchT r) && matchT r x) by rw [take_snocR hx]; simp)
      have Hx := Lib.hid hx
      have lg := heap_lt gr.out
      have zr : ∀ W, Below wr.heap.size wr W → _ ∧ _ ∧ _ ∧ _ := fun W hW => row4 (mvQ gr hW)
      have zc : ∀ W, Below wr.heap.size wr W → ∀ o, W.cell? ⟨b2, o, none⟩ = wr.cell? ⟨b2, o, none⟩ := fun W hW o => hW.cell (p := ⟨b2, o, none⟩) l2
      have br : Below wr.heap.size wr wr := Below.refl _ _
      have ba : ∀ W o, Below wr.heap.size wr W → Below wr.heap.size wr (W.alloc o) := fun W o h => h.alloc h.size o
      have bc : ∀ W W', Below wr.heap.size wr W → Below W.heap.size W W' → Below wr.heap.size wr W' := fun W W' h k => h.trans (k.mono h.size)
      clear hx
      go_upto_region 4 with fail
      obtain ⟨y, hy⟩ : ∃ y, fldI r x.col = y := ⟨_, rfl⟩
      have HY := Lib.hid hy
      clear hy
      by_cases c2 : y < x.lo
      · have hf := Lib.hid (show matchB l r = false from List.all_eq_false.2 ⟨x, List.mem_of_getElem? Hx.out, by unfold matchT; rw [HY.out]; simp; omega⟩)
        refine wp_region_noPanic ?_
        refine wp_region_held_drew (S := fun X => Below wr.heap.size wr X) (by kernel_rfl) ?_ (fun hHeld => ?_)
        · (first | with_reducible assumption | (with_reducible refine Below.drew ?_; with_reducible assumption) | (with_reducible refine ba _ _ ?_; with_reducible assumption) | (with_reducible refine Below.drew ?_; with_reducible refine ba _ _ ?_; with_reducible assumption) | exact Below.refl _ _ | exact (Below.refl _ _).drew | exact (Below.refl _ _).alloc (Nat.le_refl _) _ | (refine bc _ _ (by assumption) (by assumption)))
        refine RegOk.begin_ (n := 8) (T := q21M) ⟨by kernel_rfl, by kernel_rfl, by kernel_rfl, by kernel_rfl⟩ fun hR => ?_
        refine hR.take (i := 0) (oi := ?ow1_0) (v := ?vw1_0) (m' := 1) ?hw1_0 (by kernel_rfl) (by kernel_rfl) (fun _ _ _ h => h) (Or.inl ⟨?sw1_0, ?yw1_0⟩) (by assumption) ?nw1_0
        case hw1_0 => simp only [List.getElem?_toArray, List.getElem?_cons_succ, List.getElem?_cons_zero]; rfl
        case sw1_0 => rfl
        case yw1_0 => (intro w hSw; (try dsimp only at hSw); go_simp <;> with_reducible rfl)
        try simp only [Act.put, List.setIfInBounds_toArray, List.set_cons_zero, List.set_cons_succ]
        refine hR.take (i := 1) (oi := ?ow2_1) (v := ?vw2_1) (m' := 3) ?hw2_1 (by kernel_rfl) (by kernel_rfl) (fun _ _ _ h => h) (Or.inl ⟨?sw2_1, ?yw2_1⟩) (by assumption) ?nw2_1
        case hw2_1 => simp only [List.getElem?_toArray, List.getElem?_cons_succ, List.getElem?_cons_zero]; rfl
        case sw2_1 => rfl
        case yw2_1 => (intro w hSw; (try dsimp only at hSw); go_simp <;> with_reducible rfl)
        try simp only [Act.put, List.setIfInBounds_toArray, List.set_cons_zero, List.set_cons_succ]
        refine hR.take (i := 2) (oi := ?ow3_2) (v := ?vw3_2) (m' := 7) ?hw3_2 (by kernel_rfl) (by kernel_rfl) (fun _ _ _ h => h) (Or.inl ⟨?sw3_2, ?yw3_2⟩) (by assumption) ?nw3_2
        case hw3_2 => simp only [List.getElem?_toArray, List.getElem?_cons_succ, List.getElem?_cons_zero]; rfl
        case sw3_2 => rfl
        case yw3_2 => (intro w hSw; (try dsimp only at hSw); go_simp <;> with_reducible rfl)
        try simp only [Act.put, List.setIfInBounds_toArray, List.set_cons_zero, List.set_cons_succ]
        refine hR.take (i := 3) (oi := ?ow4_3) (v := ?vw4_3) (m' := 15) ?hw4_3 (by kernel_rfl) (by kernel_rfl) (fun _ _ _ h => h) (Or.inl ⟨?sw4_3, ?yw4_3⟩) (by assumption) ?nw4_3
        case hw4_3 => simp only [List.getElem?_toArray, List.getElem?_cons_succ, List.getElem?_cons_zero]; rfl
        case sw4_3 => rfl
        case yw4_3 => (intro w hSw; (try dsimp only at hSw); go_simp <;> with_reducible rfl)
        try simp only [Act.put, List.setIfInBounds_toArray, List.set_cons_zero, List.set_cons_succ]
        refine hR.take (i := 4) (oi := ?ow5_4) (v := ?vw5_4) (m' := 31) ?hw5_4 (by kernel_rfl) (by kernel_rfl) (fun _ _ _ h => h) (Or.inl ⟨?sw5_4, ?yw5_4⟩) (by assumption) ?nw5_4
        case hw5_4 => simp only [List.getElem?_toArray, List.getElem?_cons_succ, List.getElem?_cons_zero]; rfl
        case sw5_4 => rfl
        case yw5_4 => (intro w hSw; (try dsimp only at hSw); go_simp <;> with_reducible rfl)
        try simp only [Act.put, List.setIfInBounds_toArray, List.set_cons_zero, List.set_cons_succ]
        refine hR.take (i := 5) (oi := ?ow6_5) (v := ?vw6_5) (m' := 63) ?hw6_5 (by kernel_rfl) (by kernel_rfl) (fun _ _ _ h => h) (Or.inl ⟨?sw6_5, ?yw6_5⟩) (by assumption) ?nw6_5
        case hw6_5 => simp only [List.getElem?_toArray, List.getElem?_cons_succ, List.getElem?_cons_zero]; rfl
        case sw6_5 => rfl
        case yw6_5 => (intro w hSw; (try dsimp only at hSw); go_simp <;> with_reducible rfl)
        try simp only [Act.put, List.setIfInBounds_toArray, List.set_cons_zero, List.set_cons_succ]
        refine hR.come (rs := [6]) (by kernel_rfl) (by simp) ?_
        refine AllReadyH.cons (o := ?o7_6) ?h7_6 (fun K hK => ?kw7_6) AllReadyH.nil
        case h7_6 => simp only [List.getElem?_toArray, List.getElem?_cons_succ, List.getElem?_cons_zero]; rfl
        go_simp
        go_at_call 39; refine (valueRef _ hc0 hc3).mono ?_; rw [HY.out]; rintro e w2 ⟨rfl, hb2⟩; have hk := bc _ _ (by (first | with_reducible assumption | (with_reducible refine Below.drew ?_; with_reducible assumption) | (with_reducible refine ba _ _ ?_; with_reducible assumption) | (with_reducible refine Below.drew ?_; with_reducible refine ba _ _ ?_; with_reducible assumption) | exact Below.refl _ _ | exact (Below.refl _ _).drew | exact (Below.refl _ _).alloc (Nat.le_refl _) _ | (refine bc _ _ (by assumption) (by assumption)))) hb2
        refine hK.out _ _ ?_ (fun hHeld => ?_)
        · (first | with_reducible assumption | (with_reducible refine Below.drew ?_; with_reducible assumption) | (with_reducible refine ba _ _ ?_; with_reducible assumption) | (with_reducible refine Below.drew ?_; with_reducible refine ba _ _ ?_; with_reducible assumption) | exact Below.refl _ _ | exact (Below.refl _ _).drew | exact (Below.refl _ _).alloc (Nat.le_refl _) _ | (refine bc _ _ (by assumption) (by assumption)))
        clear hK K
        refine RegOk.put_ (m' := 127) (by kernel_rfl) ?_
        try simp only [Act.put, List.setIfInBounds_toArray, List.set_cons_zero, List.set_cons_succ]
        refine hR.take (i := 7) (oi := ?ow8_7) (v := ?vw8_7) (m' := 255) ?hw8_7 (by kernel_rfl) (by kernel_rfl) (fun _ _ _ h => h) (Or.inl ⟨?sw8_7, ?yw8_7⟩) (by assumption) ?nw8_7
        case hw8_7 => simp only [List.getElem?_toArray, List.getElem?_cons_succ, List.getElem?_cons_zero]; rfl
        case sw8_7 => rfl
        case yw8_7 => (intro w hSw; (try dsimp only at hSw); go_simp <;> with_reducible rfl)
        try simp only [Act.put, List.setIfInBounds_toArray, List.set_cons_zero, List.set_cons_succ]
        refine hR.all (by kernel_rfl) ?_ _
        refine NoPanic.normal ?_
        go_wp2_with fail
        go_ret
        exact ⟨ret_b hf.out.symm, b1.out.trans (Below.mono (by assumption) b1.out.size)⟩
      · have d2 : decide (y < x.lo) = false := decide_eq_false c2
        by_cases c3 : x.hi < y
        · have hf := Lib.hid (show matchB l r = false from List.all_eq_false.2 ⟨x, List.mem_of_getElem? Hx.out, by unfold matchT; rw [HY.out]; simp; omega⟩)
          refine wp_region_noPanic ?_
          refine wp_region_held_drew (S := fun X => Below wr.heap.size wr X) (by kernel_rfl) ?_ (fun hHeld => ?_)
          · (first | with_reducible assumption | (with_reducible refine Below.drew ?_; with_reducible assumption) | (with_reducible refine ba _ _ ?_; with_reducible assumption) | (with_reducible refine Below.drew ?_; with_reducible refine ba _ _ ?_; with_reducible assumption) | exact Below.refl _ _ | exact (Below.refl _ _).drew | exact (Below.refl _ _).alloc (Nat.le_refl _) _ | (refine bc _ _ (by assumption) (by assumption)))
          refine RegOk.begin_ (n := 8) (T := q21M) ⟨by kernel_rfl, by kernel_rfl, by kernel_rfl, by kernel_rfl⟩ fun hR => ?_
          refine hR.take (i := 0) (oi := ?ow9_0) (v := ?vw9_0) (m' := 1) ?hw9_0 (by kernel_rfl) (by kernel_rfl) (fun _ _ _ h => h) (Or.inl ⟨?sw9_0, ?yw9_0⟩) (by assumption) ?nw9_0
          case hw9_0 => simp only [List.getElem?_toArray, List.getElem?_cons_succ, List.getElem?_cons_zero]; rfl
          case sw9_0 => rfl
          case yw9_0 => (intro w hSw; (try dsimp only at hSw); go_simp <;> with_reducible rfl)
          try simp only [Act.put, List.setIfInBounds_toArray, List.set_cons_zero, List.set_cons_succ]
          refine hR.take (i := 1) (oi := ?ow10_1) (v := ?vw10_1) (m' := 3) ?hw10_1 (by kernel_rfl) (by kernel_rfl) (fun _ _ _ h => h) (Or.inl ⟨?sw10_1, ?yw10_1⟩) (by assumption) ?nw10_1
          case hw10_1 => simp only [List.getElem?_toArray, List.getElem?_cons_succ, List.getElem?_cons_zero]; rfl
          case sw10_1 => rfl
          case yw10_1 => (intro w hSw; (try dsimp only at hSw); go_simp <;> with_reducible rfl)
          try simp only [Act.put, List.setIfInBounds_toArray, List.set_cons_zero, List.set_cons_succ]
          refine hR.take (i := 2) (oi := ?ow11_2) (v := ?vw11_2) (m' := 7) ?hw11_2 (by kernel_rfl) (by kernel_rfl) (fun _ _ _ h => h) (Or.inl ⟨?sw11_2, ?yw11_2⟩) (by assumption) ?nw11_2
          case hw11_2 => simp only [List.getElem?_toArray, List.getElem?_cons_succ, List.getElem?_cons_zero]; rfl
          case sw11_2 => rfl
          case yw11_2 => (intro w hSw; (try dsimp only at hSw); go_simp <;> with_reducible rfl)
          try simp only [Act.put, List.setIfInBounds_toArray, List.set_cons_zero, List.set_cons_succ]
          refine hR.take (i := 3) (oi := ?ow12_3) (v := ?vw12_3) (m' := 15) ?hw12_3 (by kernel_rfl) (by kernel_rfl) (fun _ _ _ h => h) (Or.inl ⟨?sw12_3, ?yw12_3⟩) (by assumption) ?nw12_3
          case hw12_3 => simp only [List.getElem?_toArray, List.getElem?_cons_succ, List.getElem?_cons_zero]; rfl
          case sw12_3 => rfl
          case yw12_3 => (intro w hSw; (try dsimp only at hSw); go_simp <;> with_reducible rfl)
          try simp only [Act.put, List.setIfInBounds_toArray, List.set_cons_zero, List.set_cons_succ]
          refine hR.take (i := 4) (oi := ?ow13_4) (v := ?vw13_4) (m' := 31) ?hw13_4 (by kernel_rfl) (by kernel_rfl) (fun _ _ _ h => h) (Or.inl ⟨?sw13_4, ?yw13_4⟩) (by assumption) ?nw13_4
          case hw13_4 => simp only [List.getElem?_toArray, List.getElem?_cons_succ, List.getElem?_cons_zero]; rfl
          case sw13_4 => rfl
          case yw13_4 => (intro w hSw; (try dsimp only at hSw); go_simp <;> with_reducible rfl)
          try simp only [Act.put, List.setIfInBounds_toArray, List.set_cons_zero, List.set_cons_succ]
          refine hR.take (i := 5) (oi := ?ow14_5) (v := ?vw14_5) (m' := 63) ?hw14_5 (by kernel_rfl) (by kernel_rfl) (fun _ _ _ h => h) (Or.inl ⟨?sw14_5, ?yw14_5⟩) (by assumption) ?nw14_5
          case hw14_5 => simp only [List.getElem?_toArray, List.getElem?_cons_succ, List.getElem?_cons_zero]; rfl
          case sw14_5 => rfl
          case yw14_5 => (intro w hSw; (try dsimp only at hSw); go_simp <;> with_reducible rfl)
          try simp only [Act.put, List.setIfInBounds_toArray, List.set_cons_zero, List.set_cons_succ]
          refine hR.come (rs := [6]) (by kernel_rfl) (by simp) ?_
          refine AllReadyH.cons (o := ?o15_6) ?h15_6 (fun K hK => ?kw15_6) AllReadyH.nil
          case h15_6 => simp only [List.getElem?_toArray, List.getElem?_cons_succ, List.getElem?_cons_zero]; rfl
          go_simp
          go_at_call 39; refine (valueRef _ hc0 hc3).mono ?_; rw [HY.out]; rintro e w2 ⟨rfl, hb2⟩; have hk := bc _ _ (by (first | with_reducible assumption | (with_reducible refine Below.drew ?_; with_reducible assumption) | (with_reducible refine ba _ _ ?_; with_reducible assumption) | (with_reducible refine Below.drew ?_; with_reducible refine ba _ _ ?_; with_reducible assumption) | exact Below.refl _ _ | exact (Below.refl _ _).drew | exact (Below.refl _ _).alloc (Nat.le_refl _) _ | (refine bc _ _ (by assumption) (by assumption)))) hb2
          refine hK.out _ _ ?_ (fun hHeld => ?_)
          · (first | with_reducible assumption | (with_reducible refine Below.drew ?_; with_reducible assumption) | (with_reducible refine ba _ _ ?_; with_reducible assumption) | (with_reducible refine Below.drew ?_; with_reducible refine ba _ _ ?_; with_reducible assumption) | exact Below.refl _ _ | exact (Below.refl _ _).drew | exact (Below.refl _ _).alloc (Nat.le_refl _) _ | (refine bc _ _ (by assumption) (by assumption)))
          clear hK K
          refine RegOk.put_ (m' := 127) (by kernel_rfl) ?_
          try simp only [Act.put, List.setIfInBounds_toArray, List.set_cons_zero, List.set_cons_succ]
          refine hR.take (i := 7) (oi := ?ow16_7) (v := ?vw16_7) (m' := 255) ?hw16_7 (by kernel_rfl) (by kernel_rfl) (fun _ _ _ h => h) (Or.inl ⟨?sw16_7, ?yw16_7⟩) (by assumption) ?nw16_7
          case hw16_7 => simp only [List.getElem?_toArray, List.getElem?_cons_succ, List.getElem?_cons_zero]; rfl
          case sw16_7 => rfl
          case yw16_7 => (intro w hSw; (try dsimp only at hSw); go_simp <;> with_reducible rfl)
          try simp only [Act.put, List.setIfInBounds_toArray, List.set_cons_zero, List.set_cons_succ]
          refine hR.all (by kernel_rfl) ?_ _
          refine NoPanic.normal ?_
          go_wp2_with fail
          go_ret
          exact ⟨ret_b hf.out.symm, b1.out.trans (Below.mono (by assumption) b1.out.size)⟩
        · have d3 : decide (x.hi < y) = false := decide_eq_false c3
          have hf := Lib.hid (show matchT r x = true from decide_eq_true (by rw [HY.out]; omega))
          refine wp_region_noPanic ?_
          refine wp_region_held_drew (S := fun X => Below wr.heap.size wr X) (by kernel_rfl) ?_ (fun hHeld => ?_)
          · (first | with_reducible assumption | (with_reducible refine Below.drew ?_; with_reducible assumption) | (with_reducible refine ba _ _ ?_; with_reducible assumption) | (with_reducible refine Below.drew ?_; with_reducible refine ba _ _ ?_; with_reducible assumption) | exact Below.refl _ _ | exact (Below.refl _ _).drew | exact (Below.refl _ _).alloc (Nat.le_refl _) _ | (refine bc _ _ (by assumption) (by assumption)))
          refine RegOk.begin_ (n := 8) (T := q21M) ⟨by kernel_rfl, by kernel_rfl, by kernel_rfl, by kernel_rfl⟩ fun hR => ?_
          refine hR.take (i := 0) (oi := ?ow17_0) (v := ?vw17_0) (m' := 1) ?hw17_0 (by kernel_rfl) (by kernel_rfl) (fun _ _ _ h => h) (Or.inl ⟨?sw17_0, ?yw17_0⟩) (by assumption) ?nw17_0
          case hw17_0 => simp only [List.getElem?_toArray, List.getElem?_cons_succ, List.getElem?_cons_zero]; rfl
          case sw17_0 => rfl
          case yw17_0 => (intro w hSw; (try dsimp only at hSw); go_simp <;> with_reducible rfl)
          try simp only [Act.put, List.setIfInBounds_toArray, List.set_cons_zero, List.set_cons_succ]
          refine hR.take (i := 1) (oi := ?ow18_1) (v := ?vw18_1) (m' := 3) ?hw18_1 (by kernel_rfl) (by kernel_rfl) (fun _ _ _ h => h) (Or.inl ⟨?sw18_1, ?yw18_1⟩) (by assumption) ?nw18_1
          case hw18_1 => simp only [List.getElem?_toArray, List.getElem?_cons_succ, List.getElem?_cons_zero]; rfl
          case sw18_1 => rfl
          case yw18_1 => (intro w hSw; (try dsimp only at hSw); go_simp <;> with_reducible rfl)
          try simp only [Act.put, List.setIfInBounds_toArray, List.set_cons_zero, List.set_cons_succ]
          refine hR.take (i := 2) (oi := ?ow19_2) (v := ?vw19_2) (m' := 7) ?hw19_2 (by kernel_rfl) (by kernel_rfl) (fun _ _ _ h => h) (Or.inl ⟨?sw19_2, ?yw19_2⟩) (by assumption) ?nw19_2
          case hw19_2 => simp only [List.getElem?_toArray, List.getElem?_cons_succ, List.getElem?_cons_zero]; rfl
          case sw19_2 => rfl
          case yw19_2 => (intro w hSw; (try dsimp only at hSw); go_simp <;> with_reducible rfl)
          try simp only [Act.put, List.setIfInBounds_toArray, List.set_cons_zero, List.set_cons_succ]
          refine hR.take (i := 3) (oi := ?ow20_3) (v := ?vw20_3) (m' := 15) ?hw20_3 (by kernel_rfl) (by kernel_rfl) (fun _ _ _ h => h) (Or.inl ⟨?sw20_3, ?yw20_3⟩) (by assumption) ?nw20_3
          case hw20_3 => simp only [List.getElem?_toArray, List.getElem?_cons_succ, List.getElem?_cons_zero]; rfl
          case sw20_3 => rfl
          case yw20_3 => (intro w hSw; (try dsimp only at hSw); go_simp <;> with_reducible rfl)
          try simp only [Act.put, List.setIfInBounds_toArray, List.set_cons_zero, List.set_cons_succ]
          refine hR.take (i := 4) (oi := ?ow21_4) (v := ?vw21_4) (m' := 31) ?hw21_4 (by kernel_rfl) (by kernel_rfl) (fun _ _ _ h => h) (Or.inl ⟨?sw21_4, ?yw21_4⟩) (by assumption) ?nw21_4
          case hw21_4 => simp only [List.getElem?_toArray, List.getElem?_cons_succ, List.getElem?_cons_zero]; rfl
          case sw21_4 => rfl
          case yw21_4 => (intro w hSw; (try dsimp only at hSw); go_simp <;> with_reducible rfl)
          try simp only [Act.put, List.setIfInBounds_toArray, List.set_cons_zero, List.set_cons_succ]
          refine hR.take (i := 5) (oi := ?ow22_5) (v := ?vw22_5) (m' := 63) ?hw22_5 (by kernel_rfl) (by kernel_rfl) (fun _ _ _ h => h) (Or.inl ⟨?sw22_5, ?yw22_5⟩) (by assumption) ?nw22_5
          case hw22_5 => simp only [List.getElem?_toArray, List.getElem?_cons_succ, List.getElem?_cons_zero]; rfl
          case sw22_5 => rfl
          case yw22_5 => (intro w hSw; (try dsimp only at hSw); go_simp <;> with_reducible rfl)
          try simp only [Act.put, List.setIfInBounds_toArray, List.set_cons_zero, List.set_cons_succ]
          refine hR.come (rs := [6]) (by kernel_rfl) (by simp) ?_
          refine AllReadyH.cons (o := ?o23_6) ?h23_6 (fun K hK => ?kw23_6) AllReadyH.nil
          case h23_6 => simp only [List.getElem?_toArray, List.getElem?_cons_succ, List.getElem?_cons_zero]; rfl
          go_simp
          go_at_call 39; refine (valueRef _ hc0 hc3).mono ?_; rw [HY.out]; rintro e w2 ⟨rfl, hb2⟩; have hk := bc _ _ (by (first | with_reducible assumption | (with_reducible refine Below.drew ?_; with_reducible assumption) | (with_reducible refine ba _ _ ?_; with_reducible assumption) | (with_reducible refine Below.drew ?_; with_reducible refine ba _ _ ?_; with_reducible assumption) | exact Below.refl _ _ | exact (Below.refl _ _).drew | exact (Below.refl _ _).alloc (Nat.le_refl _) _ | (refine bc _ _ (by assumption) (by assumption)))) hb2
          refine hK.out _ _ ?_ (fun hHeld => ?_)
          · (first | with_reducible assumption | (with_reducible refine Below.drew ?_; with_reducible assumption) | (with_reducible refine ba _ _ ?_; with_reducible assumption) | (with_reducible refine Below.drew ?_; with_reducible refine ba _ _ ?_; with_reducible assumption) | exact Below.refl _ _ | exact (Below.refl _ _).drew | exact (Below.refl _ _).alloc (Nat.le_refl _) _ | (refine bc _ _ (by assumption) (by assumption)))
          clear hK K
          refine RegOk.put_ (m' := 127) (by kernel_rfl) ?_
          try simp only [Act.put, List.setIfInBounds_toArray, List.set_cons_zero, List.set_cons_succ]
          refine hR.take (i := 7) (oi := ?ow24_7) (v := ?vw24_7) (m' := 255) ?hw24_7 (by kernel_rfl) (by kernel_rfl) (fun _ _ _ h => h) (Or.inl ⟨?sw24_7, ?yw24_7⟩) (by assumption) ?nw24_7
          case hw24_7 => simp only [List.getElem?_toArray, List.getElem?_cons_succ, List.getElem?_cons_zero]; rfl
          case sw24_7 => rfl
          case yw24_7 => (intro w hSw; (try dsimp only at hSw); go_simp <;> with_reducible rfl)
          try simp only [Act.put, List.setIfInBounds_toArray, List.set_cons_zero, List.set_cons_succ]
          refine hR.all (by kernel_rfl) ?_ _
          refine NoPanic.normal ?_
          go_wp2_with fail
          go_roundw
          case rel => exact ⟨j + 1, by omega, by go_num, Lib.hid (by rw [hn.out, ht.out, hf.out]; rfl), b1.out.trans (Below.mono (by assumption) b1.out.size), mvQ gr (by assumption)⟩
          case measure => simp [intOf]; omega
    · have hj1 : ¬ (j : Int) < (l.length : Int) := by omega
      have hf := Lib.hid (show matchB l r = true from by have h1 := ht.out; rwa [List.take_of_length_le (by omega)] at h1)
      go_wp2_with fail
      go_ret
      exact ⟨ret_b hf.out.symm, b1.out⟩
theorem firstL14 {l : List Int} {A : Option Addr} {c : Nat} {S : Nat → Prop} (w : World) (h : Sl .i64 S w A c l) : Calls Tryd.prog 29 #[.agg #[.slice A l.length c]] w fun e w' => e = .returned (.int .i64 (l.headD (-1))) ∧ Below w.heap.size w w' := by
  have hm := h.max
  rcases l with _ | ⟨x, l⟩
  · clear h
    go_enter Tryd.func29, Tryd.ntmps29
    go_wp2_with fail
    go_ret
    exact ⟨rfl, (by repeat' (first | with_reducible exact Below.refl _ _ | with_reducible assumption | with_reducible refine Below.setCell ?_ ?_ _ | with_reducible refine Below.drew ?_ | with_reducible refine below_drewN ?_ _ | with_reducible refine Below.alloc ?_ ?_ _ | (rintro _ ⟨⟩; simp <;> omega) | omega | (simp <;> omega)))⟩
  · obtain ⟨b1, o1, rfl, -, hb1, x0⟩ := i64_at h (i := 0) rfl
    simp only [Nat.add_zero] at x0
    have hne : (((l.length : Int) + 1) == 0) = false := beqF (by omega)
    have hp : (0 : Int) < (l.length : Int) + 1 := by omega
    simp only [List.length_cons, Int.natCast_add, Int.natCast_one] at hm ⊢
    clear h
    go_enter Tryd.func29, Tryd.ntmps29
    go_wp2_with fail
    go_ret
    exact ⟨rfl, (by repeat' (first | with_reducible exact Below.refl _ _ | with_reducible assumption | with_reducible refine Below.setCell ?_ ?_ _ | with_reducible refine Below.drew ?_ | with_reducible refine below_drewN ?_ _ | with_reducible refine Below.alloc ?_ ?_ _ | (rintro _ ⟨⟩; simp <;> omega) | omega | (simp <;> omega)))⟩
theorem simpleL14 (kd cl k : Int) (w : World) : Calls Tryd.prog 28 #[.int .i64 kd, .int .i64 cl, .int .i64 k] w fun e w' => ∃ g b, w.heap.size ≤ g ∧ e = .returned (.agg #[.int .i64 kd, .int .i64 cl, .int .i64 k, .slice (some ⟨g, 0, none⟩) 1 1]) ∧
    w'.heap[g]? = some (.cells #[.slice (some ⟨b, 0, none⟩) 0 0] 44 (0, 0)) ∧ Below w.heap.size w w' := by
  go_enter Tryd.func28, Tryd.ntmps28
  go_wp2_with fail
  exact bodyPost_ret (v := .agg #[.int .i64 kd, .int .i64 cl, .int .i64 k, .slice (some ⟨w.heap.size + 1 + 1, 0, none⟩) 1 1]) (by simp [results, Tryd.results28, go_sem, *]) rfl
    ⟨w.heap.size + 1 + 1, w.heap.size + 1, by omega, rfl, by first | (repeat' (first | (with_reducible refine heap_alloc_at ?_; (simp; done)) | (with_reducible refine (Below.heap_setCell _ _ _ _ ?_).trans ?_; (simp; done)) | (simp; done))), (by repeat' (first | with_reducible exact Below.refl _ _ | with_reducible assumption | with_reducible refine Below.setCell ?_ ?_ _ | with_reducible refine Below.drew ?_ | with_reducible refine below_drewN ?_ _ | with_reducible refine Below.alloc ?_ ?_ _ | (rintro _ ⟨⟩; simp <;> omega) | omega | (simp <;> omega)))⟩
/-- A row of one block. -/
theorem Sl.ofRow {α : Type} {E : Enc α} {S : Nat → Prop} {w : World} {g : Nat} {cs : List Value} {t : TypeId} {xs : List α} (h : w.heap[g]? = some (.cells cs.toArray t (0, 0))) (he : Elems E S w cs xs) (hS : S g) (hm : xs.length ≤ maxLen) :
    Sl E S w (some ⟨g, 0, none⟩) xs.length xs :=
  ⟨Nat.le_refl _, hm, cs, fun _ => ⟨_, rfl, hS, heap_lt h, fun j u hu => by rw [Addr.add_lit, cell_of_row _ _ _ _ _ _ h]; simpa using hu⟩, he⟩
theorem sl_fs1 {S : Nat → Prop} {w : World} {g : Nat} {t : TypeId} {B : Option Addr} {d : Nat} {l : List Cd} (h : w.heap[g]? = some (.cells #[.slice B l.length d] t (0, 0))) (hs : Sl cdE S w B d l) (hS : S g) : Sl cdE.slice S w (some ⟨g, 0, none⟩) 1 [l] :=
  Sl.ofRow (cs := [.slice B l.length d]) h (.single ⟨B, d, rfl, hs⟩) hS (by unfold maxLen; simp)
theorem sl_cd1 {S : Nat → Prop} {w : World} {g : Nat} {t : TypeId} {x : Cd} (h : w.heap[g]? = some (.cells #[.int .i64 x.col, .int .i64 x.lo, .int .i64 x.hi] t (0, 0))) (hS : S g) : Sl cdE S w (some ⟨g, 0, none⟩) 1 [x] :=
  Sl.ofRow (cs := [.int .i64 x.col, .int .i64 x.lo, .int .i64 x.hi]) h (.single cdE_shut) hS (by unfold maxLen; simp)
end Go.Proofs.YtihcaoipemcddaaDoor
