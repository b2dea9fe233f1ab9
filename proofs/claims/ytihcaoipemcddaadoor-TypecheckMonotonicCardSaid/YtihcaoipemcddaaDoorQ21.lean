/-
  Contracts of the type checker's law (XQ21): Value, Match, and the law's own simple, first, field.
-/
import Derived.Test.YtihcaoipemcddaaDoorQ20
import Derived.Test.YtihcaoipemcddaaDoorQP
namespace Go.Proofs.YtihcaoipemcddaaDoor
open Go.RowKit

theorem valueRef {r : Rd} {col : Int} (w : World) (h0 : 0 ≤ col) (h3 : col ≤ 3) : Calls Tryd.prog 39 #[(.agg #[.int .i64 r.who, .int .i64 r.whn, .int .i64 r.knd, .int .i64 r.val]), .int .i64 col] w fun e w' => e = .returned (.int .i64 (fldI r col)) ∧ Below w.heap.size w w' := by
  rcases (by omega : col = 0 ∨ col = 1 ∨ col = 2 ∨ col = 3) with rfl | rfl | rfl | rfl
  all_goals
    clear h0 h3
    go_enter Tryd.func39, Tryd.ntmps39
    go_wp2_with fail
    go_ret
    exact ⟨rfl, (by repeat' (first | with_reducible exact Below.refl _ _ | with_reducible assumption | with_reducible refine Below.setCell ?_ ?_ _ | with_reducible refine Below.drew ?_ | with_reducible refine below_drewN ?_ _ | with_reducible refine Below.alloc ?_ ?_ _ | (rintro _ ⟨⟩; simp <;> omega) | omega | (simp <;> omega)))⟩
theorem fieldL14 {r : Rd} {col : Int} (w : World) (h0 : 0 ≤ col) (h3 : col ≤ 3) : Calls Tryd.prog 37 #[(.agg #[.int .i64 r.who, .int .i64 r.whn, .int .i64 r.knd, .int .i64 r.val]), .int .i64 col] w fun e w' => e = .returned (.int .i64 (fldI r col)) ∧ Below w.heap.size w w' := by
  rcases (by omega : col = 0 ∨ col = 1 ∨ col = 2 ∨ col = 3) with rfl | rfl | rfl | rfl
  all_goals
    clear h0 h3
    go_enter Tryd.func37, Tryd.ntmps37
    go_wp2_with fail
    go_ret
    exact ⟨rfl, (by repeat' (first | with_reducible exact Below.refl _ _ | with_reducible assumption | with_reducible refine Below.setCell ?_ ?_ _ | with_reducible refine Below.drew ?_ | with_reducible refine below_drewN ?_ _ | with_reducible refine Below.alloc ?_ ?_ _ | (rintro _ ⟨⟩; simp <;> omega) | omega | (simp <;> omega)))⟩
def q21M : List FRow := [(0, ([], (14, [3]))), (1, ([], (15, [0]))), (2, ([], (16, [5]))), (3, ([1, 2], (17, [14, 15]))), (4, ([3], (18, [16]))), (5, ([4], (19, [17]))), (6, ([0, 5], (20, [13, 18]))), (7, ([6, 6, 0, 1, 2, 3, 4, 5, 6], (7, [19])))]
set_option maxRecDepth 100000 in
set_option maxHeartbeats 2000000 in
theorem matchRef {l : List Cd} {r : Rd} {A : Option Addr} {c : Nat} {S : Nat → Prop} (w : World) (h : Sl cdE S w A c l) (hv : ∀ x ∈ l, ValidCd x) :
    Calls Tryd.prog 27 #[.slice A l.length c, (.agg #[.int .i64 r.who, .int .i64 r.whn, .int .i64 r.knd, .int .i64 r.val])] w fun e w' => e = .returned (.bool (matchB l r)) ∧ Below w.heap.size w w' := by
  have hm := h.max
  have H := Lib.hid h
  have HV := Lib.hid hv
  clear h hv
  go_enter Tryd.func27, Tryd.ntmps27
  go_wp2_with fail
  go_loopw [5] (fun i wr => ∃ j : Nat, j ≤ l.length ∧ i = .int .i64 j ∧ Hid ((l.take j).all (matchT r) = true) ∧ Below w.heap.size w wr ∧ Hid (wr.heap[w.heap.size]? = some (.cells #[.int .i64 r.who, .int .i64 r.whn, .int .i64 r.knd, .int .i64 r.val] 40 (0, 0)))) (fun i _ => l.length - (intOf i).toNat)
  case atStart => exact ⟨0, Nat.zero_le _, rfl, Lib.hid rfl, (Below.refl _ _).alloc (Nat.le_refl _) _, Lib.hid (heap_alloc_at rfl)⟩
  case round =>
    obtain ⟨j, hj, rfl, ht, hb, gr⟩ := hrel
    have b1 := Lib.hid hb
    have H1 := Lib.hid (H.out.keep (Below.agree hb))
    clear hb
    have hj0 : (0 : Int) ≤ (j : Int) := by omega
    by_cases hlt : j < l.length
    · obtain ⟨x, hx⟩ : ∃ x, l[j]? = some x := ⟨_, List.getElem?_eq_getElem hlt⟩
      obtain ⟨b2, o2, rfl, -, l2, x0, x1, x2⟩ := cd_at H1.out hx
      have hj1 : (j : Int) < (l.length : Int) := by omega
      obtain ⟨⟨hc0, hc3⟩, -, -, -⟩ := HV.out x (List.mem_of_getElem? hx)
      have hn := Lib.hid (show (l.take (j + 1)).all (matchT r) = ((l.take j).all (matchT r) && matchT r x) by rw [take_snocR hx]; simp)
      have Hx := Lib.hid hx
      have lg := heap_lt gr.out
      have zr : ∀ W, Below wr.heap.size wr W → _ ∧ _ ∧ _ ∧ _ := fun W hW => row4 (mvQ gr hW)
      have zc : ∀ W, Below wr.heap.size wr W → ∀ o, W.cell? ⟨b2, o, none⟩ = wr.cell? ⟨b2, o, none⟩ := fun W hW o => hW.cell (p := ⟨b2, o, none⟩) l2
      have br : Below wr.heap.size wr wr := Below.refl _ _
      have ba : ∀ W o, Below wr.heap.size wr W → Below wr.heap.size wr (W.alloc o) := fun W o h => h.alloc h.size o
      have bc : ∀ W W', Below wr.heap.size wr W → Below W.heap.size W W' → Below wr.heap.size wr W' := fun W W' h k => h.trans (k.mono h.size)
      clear hx
      go_upto_region 4 with fail
      obtain ⟨y, hy⟩ : ∃ y, fldI r x.col = y := ⟨_, rfl⟩
      have HY := Lib.hid hy
      clear hy
      by_cases c2 : y < x.lo
      · have hf := Lib.hid (show matchB l r = false from List.all_eq_false.2 ⟨x, List.mem_of_getElem? Hx.out, by unfold matchT; rw [HY.out]; simp; omega⟩)
        refine wp_region_noPanic ?_
        refine wp_region_held_drew (S := fun X => Below wr.heap.size wr X) (by kernel_rfl) ?_ (fun hHeld => ?_)
        · (first | with_reducible assumption | (with_reducible refine Below.drew ?_; with_reducible assumption) | (with_reducible refine ba _ _ ?_; with_reducible assumption) | (with_reducible refine Below.drew ?_; with_reducible refine ba _ _ ?_; with_reducible assumption) | exact Below.refl _ _ | exact (Below.refl _ _).drew | exact (Below.refl _ _).alloc (Nat.le_refl _) _ | (refine bc _ _ (by assumption) (by assumption)))
        refine RegOk.begin_ (n := 8) (T := q21M) ⟨by kernel_rfl, by kernel_rfl, by kernel_rfl, by kernel_rfl⟩ fun hR => ?_
        refine hR.take (i := 0) (oi := ?ow611_0) (v := ?vw611_0) (m' := 1) ?hw611_0 (by kernel_rfl) (by kernel_rfl) (fun _ _ _ h => h) (Or.inl ⟨?sw611_0, ?yw611_0⟩) (by assumption) ?nw611_0
        case hw611_0 => simp only [List.getElem?_toArray, List.getElem?_cons_succ, List.getElem?_cons_zero]; rfl
        case sw611_0 => rfl
        case yw611_0 => (intro w hSw; (try dsimp only at hSw); go_simp <;> with_reducible rfl)
        try simp only [Act.put, List.setIfInBounds_toArray, List.set_cons_zero, List.set_cons_succ]
        refine hR.take (i := 1) (oi := ?ow612_1) (v := ?vw612_1) (m' := 3) ?hw612_1 (by kernel_rfl) (by kernel_rfl) (fun _ _ _ h => h) (Or.inl ⟨?sw612_1, ?yw612_1⟩) (by assumption) ?nw612_1
        case hw612_1 => simp only [List.getElem?_toArray, List.getElem?_cons_succ, List.getElem?_cons_zero]; rfl
        case sw612_1 => rfl
        case yw612_1 => (intro w hSw; (try dsimp only at hSw); go_simp <;> with_reducible rfl)
        try simp only [Act.put, List.setIfInBounds_toArray, List.set_cons_zero, List.set_cons_succ]
        refine hR.take (i := 2) (oi := ?ow613_2) (v := ?vw613_2) (m' := 7) ?hw613_2 (by kernel_rfl) (by kernel_rfl) (fun _ _ _ h => h) (Or.inl ⟨?sw613_2, ?yw613_2⟩) (by assumption) ?nw613_2
        case hw613_2 => simp only [List.getElem?_toArray, List.getElem?_cons_succ, List.getElem?_cons_zero]; rfl
        case sw613_2 => rfl
        case yw613_2 => (intro w hSw; (try dsimp only at hSw); go_simp <;> with_reducible rfl)
        try simp only [Act.put, List.setIfInBounds_toArray, List.set_cons_zero, List.set_cons_succ]
        refine hR.take (i := 3) (oi := ?ow614_3) (v := ?vw614_3) (m' := 15) ?hw614_3 (by kernel_rfl) (by kernel_rfl) (fun _ _ _ h => h) (Or.inl ⟨?sw614_3, ?yw614_3⟩) (by assumption) ?nw614_3
        case hw614_3 => simp only [List.getElem?_toArray, List.getElem?_cons_succ, List.getElem?_cons_zero]; rfl
        case sw614_3 => rfl
        case yw614_3 => (intro w hSw; (try dsimp only at hSw); go_simp <;> with_reducible rfl)
        try simp only [Act.put, List.setIfInBounds_toArray, List.set_cons_zero, List.set_cons_succ]
        refine hR.take (i := 4) (oi := ?ow615_4) (v := ?vw615_4) (m' := 31) ?hw615_4 (by kernel_rfl) (by kernel_rfl) (fun _ _ _ h => h) (Or.inl ⟨?sw615_4, ?yw615_4⟩) (by assumption) ?nw615_4
        case hw615_4 => simp only [List.getElem?_toArray, List.getElem?_cons_succ, List.getElem?_cons_zero]; rfl
        case sw615_4 => rfl
        case yw615_4 => (intro w hSw; (try dsimp only at hSw); go_simp <;> with_reducible rfl)
        try simp only [Act.put, List.setIfInBounds_toArray, List.set_cons_zero, List.set_cons_succ]
        refine hR.take (i := 5) (oi := ?ow616_5) (v := ?vw616_5) (m' := 63) ?hw616_5 (by kernel_rfl) (by kernel_rfl) (fun _ _ _ h => h) (Or.inl ⟨?sw616_5, ?yw616_5⟩) (by assumption) ?nw616_5
        case hw616_5 => simp only [List.getElem?_toArray, List.getElem?_cons_succ, List.getElem?_cons_zero]; rfl
        case sw616_5 => rfl
        case yw616_5 => (intro w hSw; (try dsimp only at hSw); go_simp <;> with_reducible rfl)
        try simp only [Act.put, List.setIfInBounds_toArray, List.set_cons_zero, List.set_cons_succ]
        refine hR.come (rs := [6]) (by kernel_rfl) (by simp) ?_
        refine AllReadyH.cons (o := ?o617_6) ?h617_6 (fun K hK => ?kw617_6) AllReadyH.nil
        case h617_6 => simp only [List.getElem?_toArray, List.getElem?_cons_succ, List.getElem?_cons_zero]; rfl
        go_simp
        go_at_call 39; refine (valueRef _ hc0 hc3).mono ?_; rw [HY.out]; rintro e w2 ⟨rfl, hb2⟩; have hk := bc _ _ (by (first | with_reducible assumption | (with_reducible refine Below.drew ?_; with_reducible assumption) | (with_reducible refine ba _ _ ?_; with_reducible assumption) | (with_reducible refine Below.drew ?_; with_reducible refine ba _ _ ?_; with_reducible assumption) | exact Below.refl _ _ | exact (Below.refl _ _).drew | exact (Below.refl _ _).alloc (Nat.le_refl _) _ | (refine bc _ _ (by assumption) (by assumption)))) hb2
        refine hK.out _ _ ?_ (fun hHeld => ?_)
        · (first | with_reducible assumption | (with_reducible refine Below.drew ?_; with_reducible assumption) | (with_reducible refine ba _ _ ?_; with_reducible assumption) | (with_reducible refine Below.drew ?_; with_reducible refine ba _ _ ?_; with_reducible assumption) | exact Below.refl _ _ | exact (Below.refl _ _).drew | exact (Below.refl _ _).alloc (Nat.le_refl _) _ | (refine bc _ _ (by assumption) (by assumption)))
        clear hK K
        refine RegOk.put_ (m' := 127) (by kernel_rfl) ?_
        try simp only [Act.put, List.setIfInBounds_toArray, List.set_cons_zero, List.set_cons_succ]
        refine hR.take (i := 7) (oi := ?ow618_7) (v := ?vw618_7) (m' := 255) ?hw618_7 (by kernel_rfl) (by kernel_rfl) (fun _ _ _ h => h) (Or.inl ⟨?sw618_7, ?yw618_7⟩) (by assumption) ?nw618_7
        case hw618_7 => simp only [List.getElem?_toArray, List.getElem?_cons_succ, List.getElem?_cons_zero]; rfl
        case sw618_7 => rfl
        case yw618_7 => (intro w hSw; (try dsimp only at hSw); go_simp <;> with_reducible rfl)
        try simp only [Act.put, List.setIfInBounds_toArray, List.set_cons_zero, List.set_cons_succ]
        refine hR.all (by kernel_rfl) ?_ _
        refine NoPanic.normal ?_
        go_wp2_with fail
        go_ret
        exact ⟨ret_b hf.out.symm, b1.out.trans (Below.mono (by assumption) b1.out.size)⟩
      · have d2 : decide (y < x.lo) = false := decide_eq_false c2
        by_cases c3 : x.hi < y
        · have hf := Lib.hid (show matchB l r = false from List.all_eq_false.2 ⟨x, List.mem_of_getElem? Hx.out, by unfold matchT; rw [HY.out]; simp; omega⟩)
          refine wp_region_noPanic ?_
          refine wp_region_held_drew (S := fun X => Below wr.heap.size wr X) (by kernel_rfl) ?_ (fun hHeld => ?_)
          · (first | with_reducible assumption | (with_reducible refine Below.drew ?_; with_reducible assumption) | (with_reducible refine ba _ _ ?_; with_reducible assumption) | (with_reducible refine Below.drew ?_; with_reducible refine ba _ _ ?_; with_reducible assumption) | exact Below.refl _ _ | exact (Below.refl _ _).drew | exact (Below.refl _ _).alloc (Nat.le_refl _) _ | (refine bc _ _ (by assumption) (by assumption)))
          refine RegOk.begin_ (n := 8) (T := q21M) ⟨by kernel_rfl, by kernel_rfl, by kernel_rfl, by kernel_rfl⟩ fun hR => ?_
          refine hR.take (i := 0) (oi := ?ow619_0) (v := ?vw619_0) (m' := 1) ?hw619_0 (by kernel_rfl) (by kernel_rfl) (fun _ _ _ h => h) (Or.inl ⟨?sw619_0, ?yw619_0⟩) (by assumption) ?nw619_0
          case hw619_0 => simp only [List.getElem?_toArray, List.getElem?_cons_succ, List.getElem?_cons_zero]; rfl
          case sw619_0 => rfl
          case yw619_0 => (intro w hSw; (try dsimp only at hSw); go_simp <;> with_reducible rfl)
          try simp only [Act.put, List.setIfInBounds_toArray, List.set_cons_zero, List.set_cons_succ]
          refine hR.take (i := 1) (oi := ?ow620_1) (v := ?vw620_1) (m' := 3) ?hw620_1 (by kernel_rfl) (by kernel_rfl) (fun _ _ _ h => h) (Or.inl ⟨?sw620_1, ?yw620_1⟩) (by assumption) ?nw620_1
          case hw620_1 => simp only [List.getElem?_toArray, List.getElem?_cons_succ, List.getElem?_cons_zero]; rfl
          case sw620_1 => rfl
          case yw620_1 => (intro w hSw; (try dsimp only at hSw); go_simp <;> with_reducible rfl)
          try simp only [Act.put, List.setIfInBounds_toArray, List.set_cons_zero, List.set_cons_succ]
          refine hR.take (i := 2) (oi := ?ow621_2) (v := ?vw621_2) (m' := 7) ?hw621_2 (by kernel_rfl) (by kernel_rfl) (fun _ _ _ h => h) (Or.inl ⟨?sw621_2, ?yw621_2⟩) (by assumption) ?nw621_2
          case hw621_2 => simp only [List.getElem?_toArray, List.getElem?_cons_succ, List.getElem?_cons_zero]; rfl
          case sw621_2 => rfl
          case yw621_2 => (intro w hSw; (try dsimp only at hSw); go_simp <;> with_reducible rfl)
          try simp only [Act.put, List.setIfInBounds_toArray, List.set_cons_zero, List.set_cons_succ]
          refine hR.take (i := 3) (oi := ?ow622_3) (v := ?vw622_3) (m' := 15) ?hw622_3 (by kernel_rfl) (by kernel_rfl) (fun _ _ _ h => h) (Or.inl ⟨?sw622_3, ?yw622_3⟩) (by assumption) ?nw622_3
          case hw622_3 => simp only [List.getElem?_toArray, List.getElem?_cons_succ, List.getElem?_cons_zero]; rfl
          case sw622_3 => rfl
          case yw622_3 => (intro w hSw; (try dsimp only at hSw); go_simp <;> with_reducible rfl)
          try simp only [Act.put, List.setIfInBounds_toArray, List.set_cons_zero, List.set_cons_succ]
          refine hR.take (i := 4) (oi := ?ow623_4) (v := ?vw623_4) (m' := 31) ?hw623_4 (by kernel_rfl) (by kernel_rfl) (fun _ _ _ h => h) (Or.inl ⟨?sw623_4, ?yw623_4⟩) (by assumption) ?nw623_4
          case hw623_4 => simp only [List.getElem?_toArray, List.getElem?_cons_succ, List.getElem?_cons_zero]; rfl
          case sw623_4 => rfl
          case yw623_4 => (intro w hSw; (try dsimp only at hSw); go_simp <;> with_reducible rfl)
          try simp only [Act.put, List.setIfInBounds_toArray, List.set_cons_zero, List.set_cons_succ]
          refine hR.take (i := 5) (oi := ?ow624_5) (v := ?vw624_5) (m' := 63) ?hw624_5 (by kernel_rfl) (by kernel_rfl) (fun _ _ _ h => h) (Or.inl ⟨?sw624_5, ?yw624_5⟩) (by assumption) ?nw624_5
          case hw624_5 => simp only [List.getElem?_toArray, List.getElem?_cons_succ, List.getElem?_cons_zero]; rfl
          case sw624_5 => rfl
          case yw624_5 => (intro w hSw; (try dsimp only at hSw); go_simp <;> with_reducible rfl)
          try simp only [Act.put, List.setIfInBounds_toArray, List.set_cons_zero, List.set_cons_succ]
          refine hR.come (rs := [6]) (by kernel_rfl) (by simp) ?_
          refine AllReadyH.cons (o := ?o625_6) ?h625_6 (fun K hK => ?kw625_6) AllReadyH.nil
          case h625_6 => simp only [List.getElem?_toArray, List.getElem?_cons_succ, List.getElem?_cons_zero]; rfl
          go_simp
          go_at_call 39; refine (valueRef _ hc0 hc3).mono ?_; rw [HY.out]; rintro e w2 ⟨rfl, hb2⟩; have hk := bc _ _ (by (first | with_reducible assumption | (with_reducible refine Below.drew ?_; with_reducible assumption) | (with_reducible refine ba _ _ ?_; with_reducible assumption) | (with_reducible refine Below.drew ?_; with_reducible refine ba _ _ ?_; with_reducible assumption) | exact Below.refl _ _ | exact (Below.refl _ _).drew | exact (Below.refl _ _).alloc (Nat.le_refl _) _ | (refine bc _ _ (by assumption) (by assumption)))) hb2
          refine hK.out _ _ ?_ (fun hHeld => ?_)
          · (first | with_reducible assumption | (with_reducible refine Below.drew ?_; with_reducible assumption) | (with_reducible refine ba _ _ ?_; with_reducible assumption) | (with_reducible refine Below.drew ?_; with_reducible refine ba _ _ ?_; with_reducible assumption) | exact Below.refl _ _ | exact (Below.refl _ _).drew | exact (Below.refl _ _).alloc (Nat.le_refl _) _ | (refine bc _ _ (by assumption) (by assumption)))
          clear hK K
          refine RegOk.put_ (m' := 127) (by kernel_rfl) ?_
          try simp only [Act.put, List.setIfInBounds_toArray, List.set_cons_zero, List.set_cons_succ]
          refine hR.take (i := 7) (oi := ?ow626_7) (v := ?vw626_7) (m' := 255) ?hw626_7 (by kernel_rfl) (by kernel_rfl) (fun _ _ _ h => h) (Or.inl ⟨?sw626_7, ?yw626_7⟩) (by assumption) ?nw626_7
          case hw626_7 => simp only [List.getElem?_toArray, List.getElem?_cons_succ, List.getElem?_cons_zero]; rfl
          case sw626_7 => rfl
          case yw626_7 => (intro w hSw; (try dsimp only at hSw); go_simp <;> with_reducible rfl)
          try simp only [Act.put, List.setIfInBounds_toArray, List.set_cons_zero, List.set_cons_succ]
          refine hR.all (by kernel_rfl) ?_ _
          refine NoPanic.normal ?_
          go_wp2_with fail
          go_ret
          exact ⟨ret_b hf.out.symm, b1.out.trans (Below.mono (by assumption) b1.out.size)⟩
        · have d3 : decide (x.hi < y) = false := decide_eq_false c3
          have hf := Lib.hid (show matchT r x = true from decide_eq_true (by rw [HY.out]; omega))
          refine wp_region_noPanic ?_
          refine wp_region_held_drew (S := fun X => Below wr.heap.size wr X) (by kernel_rfl) ?_ (fun hHeld => ?_)
          · (first | with_reducible assumption | (with_reducible refine Below.drew ?_; with_reducible assumption) | (with_reducible refine ba _ _ ?_; with_reducible assumption) | (with_reducible refine Below.drew ?_; with_reducible refine ba _ _ ?_; with_reducible assumption) | exact Below.refl _ _ | exact (Below.refl _ _).drew | exact (Below.refl _ _).alloc (Nat.le_refl _) _ | (refine bc _ _ (by assumption) (by assumption)))
          refine RegOk.begin_ (n := 8) (T := q21M) ⟨by kernel_rfl, by kernel_rfl, by kernel_rfl, by kernel_rfl⟩ fun hR => ?_
          refine hR.take (i := 0) (oi := ?ow627_0) (v := ?vw627_0) (m' := 1) ?hw627_0 (by kernel_rfl) (by kernel_rfl) (fun _ _ _ h => h) (Or.inl ⟨?sw627_0, ?yw627_0⟩) (by assumption) ?nw627_0
          case hw627_0 => simp only [List.getElem?_toArray, List.getElem?_cons_succ, List.getElem?_cons_zero]; rfl
          case sw627_0 => rfl
          case yw627_0 => (intro w hSw; (try dsimp only at hSw); go_simp <;> with_reducible rfl)
          try simp only [Act.put, List.setIfInBounds_toArray, List.set_cons_zero, List.set_cons_succ]
          refine hR.take (i := 1) (oi := ?ow628_1) (v := ?vw628_1) (m' := 3) ?hw628_1 (by kernel_rfl) (by kernel_rfl) (fun _ _ _ h => h) (Or.inl ⟨?sw628_1, ?yw628_1⟩) (by assumption) ?nw628_1
          case hw628_1 => simp only [List.getElem?_toArray, List.getElem?_cons_succ, List.getElem?_cons_zero]; rfl
          case sw628_1 => rfl
          case yw628_1 => (intro w hSw; (try dsimp only at hSw); go_simp <;> with_reducible rfl)
          try simp only [Act.put, List.setIfInBounds_toArray, List.set_cons_zero, List.set_cons_succ]
          refine hR.take (i := 2) (oi := ?ow629_2) (v := ?vw629_2) (m' := 7) ?hw629_2 (by kernel_rfl) (by kernel_rfl) (fun _ _ _ h => h) (Or.inl ⟨?sw629_2, ?yw629_2⟩) (by assumption) ?nw629_2
          case hw629_2 => simp only [List.getElem?_toArray, List.getElem?_cons_succ, List.getElem?_cons_zero]; rfl
          case sw629_2 => rfl
          case yw629_2 => (intro w hSw; (try dsimp only at hSw); go_simp <;> with_reducible rfl)
          try simp only [Act.put, List.setIfInBounds_toArray, List.set_cons_zero, List.set_cons_succ]
          refine hR.take (i := 3) (oi := ?ow630_3) (v := ?vw630_3) (m' := 15) ?hw630_3 (by kernel_rfl) (by kernel_rfl) (fun _ _ _ h => h) (Or.inl ⟨?sw630_3, ?yw630_3⟩) (by assumption) ?nw630_3
          case hw630_3 => simp only [List.getElem?_toArray, List.getElem?_cons_succ, List.getElem?_cons_zero]; rfl
          case sw630_3 => rfl
          case yw630_3 => (intro w hSw; (try dsimp only at hSw); go_simp <;> with_reducible rfl)
          try simp only [Act.put, List.setIfInBounds_toArray, List.set_cons_zero, List.set_cons_succ]
          refine hR.take (i := 4) (oi := ?ow631_4) (v := ?vw631_4) (m' := 31) ?hw631_4 (by kernel_rfl) (by kernel_rfl) (fun _ _ _ h => h) (Or.inl ⟨?sw631_4, ?yw631_4⟩) (by assumption) ?nw631_4
          case hw631_4 => simp only [List.getElem?_toArray, List.getElem?_cons_succ, List.getElem?_cons_zero]; rfl
          case sw631_4 => rfl
          case yw631_4 => (intro w hSw; (try dsimp only at hSw); go_simp <;> with_reducible rfl)
          try simp only [Act.put, List.setIfInBounds_toArray, List.set_cons_zero, List.set_cons_succ]
          refine hR.take (i := 5) (oi := ?ow632_5) (v := ?vw632_5) (m' := 63) ?hw632_5 (by kernel_rfl) (by kernel_rfl) (fun _ _ _ h => h) (Or.inl ⟨?sw632_5, ?yw632_5⟩) (by assumption) ?nw632_5
          case hw632_5 => simp only [List.getElem?_toArray, List.getElem?_cons_succ, List.getElem?_cons_zero]; rfl
          case sw632_5 => rfl
          case yw632_5 => (intro w hSw; (try dsimp only at hSw); go_simp <;> with_reducible rfl)
          try simp only [Act.put, List.setIfInBounds_toArray, List.set_cons_zero, List.set_cons_succ]
          refine hR.come (rs := [6]) (by kernel_rfl) (by simp) ?_
          refine AllReadyH.cons (o := ?o633_6) ?h633_6 (fun K hK => ?kw633_6) AllReadyH.nil
          case h633_6 => simp only [List.getElem?_toArray, List.getElem?_cons_succ, List.getElem?_cons_zero]; rfl
          go_simp
          go_at_call 39; refine (valueRef _ hc0 hc3).mono ?_; rw [HY.out]; rintro e w2 ⟨rfl, hb2⟩; have hk := bc _ _ (by (first | with_reducible assumption | (with_reducible refine Below.drew ?_; with_reducible assumption) | (with_reducible refine ba _ _ ?_; with_reducible assumption) | (with_reducible refine Below.drew ?_; with_reducible refine ba _ _ ?_; with_reducible assumption) | exact Below.refl _ _ | exact (Below.refl _ _).drew | exact (Below.refl _ _).alloc (Nat.le_refl _) _ | (refine bc _ _ (by assumption) (by assumption)))) hb2
          refine hK.out _ _ ?_ (fun hHeld => ?_)
          · (first | with_reducible assumption | (with_reducible refine Below.drew ?_; with_reducible assumption) | (with_reducible refine ba _ _ ?_; with_reducible assumption) | (with_reducible refine Below.drew ?_; with_reducible refine ba _ _ ?_; with_reducible assumption) | exact Below.refl _ _ | exact (Below.refl _ _).drew | exact (Below.refl _ _).alloc (Nat.le_refl _) _ | (refine bc _ _ (by assumption) (by assumption)))
          clear hK K
          refine RegOk.put_ (m' := 127) (by kernel_rfl) ?_
          try simp only [Act.put, List.setIfInBounds_toArray, List.set_cons_zero, List.set_cons_succ]
          refine hR.take (i := 7) (oi := ?ow634_7) (v := ?vw634_7) (m' := 255) ?hw634_7 (by kernel_rfl) (by kernel_rfl) (fun _ _ _ h => h) (Or.inl ⟨?sw634_7, ?yw634_7⟩) (by assumption) ?nw634_7
          case hw634_7 => simp only [List.getElem?_toArray, List.getElem?_cons_succ, List.getElem?_cons_zero]; rfl
          case sw634_7 => rfl
          case yw634_7 => (intro w hSw; (try dsimp only at hSw); go_simp <;> with_reducible rfl)
          try simp only [Act.put, List.setIfInBounds_toArray, List.set_cons_zero, List.set_cons_succ]
          refine hR.all (by kernel_rfl) ?_ _
          refine NoPanic.normal ?_
          go_wp2_with fail
          go_roundw
          case rel => exact ⟨j + 1, by omega, by go_num, Lib.hid (by rw [hn.out, ht.out, hf.out]; rfl), b1.out.trans (Below.mono (by assumption) b1.out.size), mvQ gr (by assumption)⟩
          case measure => simp [intOf]; omega
    · have hj1 : ¬ (j : Int) < (l.length : Int) := by omega
      have hf := Lib.hid (show matchB l r = true from by have h1 := ht.out; rwa [List.take_of_length_le (by omega)] at h1)
      go_wp2_with fail
      go_ret
      exact ⟨ret_b hf.out.symm, b1.out⟩
theorem firstL14 {l : List Int} {A : Option Addr} {c : Nat} {S : Nat → Prop} (w : World) (h : Sl .i64 S w A c l) : Calls Tryd.prog 29 #[.agg #[.slice A l.length c]] w fun e w' => e = .returned (.int .i64 (l.headD (-1))) ∧ Below w.heap.size w w' := by
  have hm := h.max
  rcases l with _ | ⟨x, l⟩
  · clear h
    go_enter Tryd.func29, Tryd.ntmps29
    go_wp2_with fail
    go_ret
    exact ⟨rfl, (by repeat' (first | with_reducible exact Below.refl _ _ | with_reducible assumption | with_reducible refine Below.setCell ?_ ?_ _ | with_reducible refine Below.drew ?_ | with_reducible refine below_drewN ?_ _ | with_reducible refine Below.alloc ?_ ?_ _ | (rintro _ ⟨⟩; simp <;> omega) | omega | (simp <;> omega)))⟩
  · obtain ⟨b1, o1, rfl, -, hb1, x0⟩ := i64_at h (i := 0) rfl
    simp only [Nat.add_zero] at x0
    have hne : (((l.length : Int) + 1) == 0) = false := beqF (by omega)
    have hp : (0 : Int) < (l.length : Int) + 1 := by omega
    simp only [List.length_cons, Int.natCast_add, Int.natCast_one] at hm ⊢
    clear h
    go_enter Tryd.func29, Tryd.ntmps29
    go_wp2_with fail
    go_ret
    exact ⟨rfl, (by repeat' (first | with_reducible exact Below.refl _ _ | with_reducible assumption | with_reducible refine Below.setCell ?_ ?_ _ | with_reducible refine Below.drew ?_ | with_reducible refine below_drewN ?_ _ | with_reducible refine Below.alloc ?_ ?_ _ | (rintro _ ⟨⟩; simp <;> omega) | omega | (simp <;> omega)))⟩
theorem simpleL14 (kd cl k : Int) (w : World) : Calls Tryd.prog 28 #[.int .i64 kd, .int .i64 cl, .int .i64 k] w fun e w' => ∃ g b, w.heap.size ≤ g ∧ e = .returned (.agg #[.int .i64 kd, .int .i64 cl, .int .i64 k, .slice (some ⟨g, 0, none⟩) 1 1]) ∧
    w'.heap[g]? = some (.cells #[.slice (some ⟨b, 0, none⟩) 0 0] 44 (0, 0)) ∧ Below w.heap.size w w' := by
  go_enter Tryd.func28, Tryd.ntmps28
  go_wp2_with fail
  exact bodyPost_ret (v := .agg #[.int .i64 kd, .int .i64 cl, .int .i64 k, .slice (some ⟨w.heap.size + 1 + 1, 0, none⟩) 1 1]) (by simp [results, Tryd.results28, go_sem, *]) rfl
    ⟨w.heap.size + 1 + 1, w.heap.size + 1, by omega, rfl, by first | (repeat' (first | (with_reducible refine heap_alloc_at ?_; (simp; done)) | (with_reducible refine (Below.heap_setCell _ _ _ _ ?_).trans ?_; (simp; done)) | (simp; done))), (by repeat' (first | with_reducible exact Below.refl _ _ | with_reducible assumption | with_reducible refine Below.setCell ?_ ?_ _ | with_reducible refine Below.drew ?_ | with_reducible refine below_drewN ?_ _ | with_reducible refine Below.alloc ?_ ?_ _ | (rintro _ ⟨⟩; simp <;> omega) | omega | (simp <;> omega)))⟩
/-- A row of one block. -/
theorem Sl.ofRow {α : Type} {E : Enc α} {S : Nat → Prop} {w : World} {g : Nat} {cs : List Value} {t : TypeId} {xs : List α} (h : w.heap[g]? = some (.cells cs.toArray t (0, 0))) (he : Elems E S w cs xs) (hS : S g) (hm : xs.length ≤ maxLen) :
    Sl E S w (some ⟨g, 0, none⟩) xs.length xs :=
  ⟨Nat.le_refl _, hm, cs, fun _ => ⟨_, rfl, hS, heap_lt h, fun j u hu => by rw [Addr.add_lit, cell_of_row _ _ _ _ _ _ h]; simpa using hu⟩, he⟩
theorem sl_fs1 {S : Nat → Prop} {w : World} {g : Nat} {t : TypeId} {B : Option Addr} {d : Nat} {l : List Cd} (h : w.heap[g]? = some (.cells #[.slice B l.length d] t (0, 0))) (hs : Sl cdE S w B d l) (hS : S g) : Sl cdE.slice S w (some ⟨g, 0, none⟩) 1 [l] :=
  Sl.ofRow (cs := [.slice B l.length d]) h (.single ⟨B, d, rfl, hs⟩) hS (by unfold maxLen; simp)
theorem sl_cd1 {S : Nat → Prop} {w : World} {g : Nat} {t : TypeId} {x : Cd} (h : w.heap[g]? = some (.cells #[.int .i64 x.col, .int .i64 x.lo, .int .i64 x.hi] t (0, 0))) (hS : S g) : Sl cdE S w (some ⟨g, 0, none⟩) 1 [x] :=
  Sl.ofRow (cs := [.int .i64 x.col, .int .i64 x.lo, .int .i64 x.hi]) h (.single cdE_shut) hS (by unfold maxLen; simp)
end Go.Proofs.YtihcaoipemcddaaDoor
