/-
  Texts of this claim, merged: Q21, QP2, EvF. Conditions: as each theorem says.
-/
import Derived.Lib.Mul64
import Derived.Laws.Bits64b
import Derived.Shelf.Bits.Mul64
import Derived.Test.YtmkpaolbejlodaaDoorD1
import Derived.Test.YtmkpaolbejlodaaDoorD2
import Derived.Test.YtmkpaolbejlodaaDoorD3
set_option linter.unusedSimpArgs false
set_option linter.unusedVariables false
namespace Go.Proofs.YtmkpaolbejlodaaDoor
open Go.RowKit

theorem valueRef {r : Rd} {col : Int} (w : World) (h0 : 0 ≤ col) (h3 : col ≤ 3) : Calls Tryd.prog 39 #[(.agg #[.int .i64 r.who, .int .i64 r.whn, .int .i64 r.knd, .int .i64 r.val]), .int .i64 col] w fun e w' => e = .returned (.int .i64 (fldI r col)) ∧ Below w.heap.size w w' := by
  rcases (by omega : col = 0 ∨ col = 1 ∨ col = 2 ∨ col = 3) with rfl | rfl | rfl | rfl
  all_goals
    clear h0 h3
    go_enter Tryd.func39, Tryd.ntmps39
    go_wp2_with fail
    go_ret
    exact ⟨rfl, (by repeat' (first | with_reducible exact Below.refl _ _ | with_reducible assumption | with_reducible refine Below.setCell ?_ ?_ _ | with_reducible refine Below.drew ?_ | with_reducible refine below_drewN ?_ _ | with_reducible refine Below.alloc ?_ ?_ _ | (rintro _ ⟨⟩; simp <;> omega) | omega | (simp <;> omega)))⟩
def q21M : List FRow := [(0, ([], (14, [3]))), (1, ([], (15, [0]))), (2, ([], (16, [5]))), (3, ([1, 2], (17, [14, 15]))), (4, ([3], (18, [16]))), (5, ([4], (19, [17]))), (6, ([0, 5], (20, [13, 18]))), (7, ([6, 6, 0, 1, 2, 3, 4, 5, 6], (7, [19])))]
set_option maxRecDepth 100000 in
set_option maxHeartbeats 2000000 in
theorem matchRef {l : List Cd} {r : Rd} {A : Option Addr} {c : Nat} {S : Nat → Prop} (w : World) (h : Sl cdE S w A c l) (hv : ∀ x ∈ l, ValidCd x) :
    Calls Tryd.prog 23 #[.slice A l.length c, (.agg #[.int .i64 r.who, .int .i64 r.whn, .int .i64 r.knd, .int .i64 r.val])] w fun e w' => e = .returned (.bool (matchB l r)) ∧ Below w.heap.size w w' := by
  have hm := h.max
  have H := Lib.hid h
  have HV := Lib.hid hv
  clear h hv
  go_enter Tryd.func23, Tryd.ntmps23
  go_wp2_with fail
  go_loopw [5] (fun i wr => ∃ j : Nat, j ≤ l.length ∧ i = .int .i64 j ∧ Hid ((l.take j).all (matchT r) = true) ∧ Below w.heap.size w wr ∧ Hid (wr.heap[w.heap.size]? = some (.cells #[.int .i64 r.who, .int .i64 r.whn, .int .i64 r.knd, .int .i64 r.val] 47 (0, 0)))) (fun i _ => l.length - (intOf i).toNat)
  case atStart => exact ⟨0, Nat.zero_le _, rfl, Lib.hid rfl, (Below.refl _ _).alloc (Nat.le_refl _) _, Lib.hid (heap_alloc_at rfl)⟩
  case round =>
    obtain ⟨j, hj, rfl, ht, hb, gr⟩ := hrel
    have b1 := Lib.hid hb
    have H1 := Lib.hid (H.out.keep (Below.agree hb))
    clear hb
    have hj0 : (0 : Int) ≤ (j : Int) := by omega
    by_cases hlt : j < l.length
    · obtain ⟨x, hx⟩ : ∃ x, l[j]? = some x := ⟨_, List.getElem?_eq_getElem hlt⟩
      obtain ⟨b2, o2, rfl, -, l2, x0, x1, x2⟩ := cd_at H1.out hx
      have hj1 : (j : Int) < (l.length : Int) := by omega
      obtain ⟨⟨hc0, hc3⟩, -, -, -⟩ := HV.out x (List.mem_of_getElem? hx)
      have hn := Lib.hid (show (l.take (j + 1)).all (matchT r) = ((l.take j).all (matchT r) && matchT r x) by rw [take_snocR hx]; simp)
      have Hx := Lib.hid hx
      have lg := heap_lt gr.out
      have zr : ∀ W, Below wr.heap.size wr W → _ ∧ _ ∧ _ ∧ _ := fun W hW => row4 (mvQ gr hW)
      have zc : ∀ W, Below wr.heap.size wr W → ∀ o, W.cell? ⟨b2, o, none⟩ = wr.cell? ⟨b2, o, none⟩ := fun W hW o => hW.cell (p := ⟨b2, o, none⟩) l2
      have br : Below wr.heap.size wr wr := Below.refl _ _
      have ba : ∀ W o, Below wr.heap.size wr W → Below wr.heap.size wr (W.alloc o) := fun W o h => h.alloc h.size o
      have bc : ∀ W W', Below wr.heap.size wr W → Below W.heap.size W W' → Below wr.heap.size wr W' := fun W W' h k => h.trans (k.mono h.size)
      clear hx
      go_upto_region 4 with fail
      obtain ⟨y, hy⟩ : ∃ y, fldI r x.col = y := ⟨_, rfl⟩
      have HY := Lib.hid hy
      clear hy
      by_cases c2 : y < x.lo
      · have hf := Lib.hid (show matchB l r = false from List.all_eq_false.2 ⟨x, List.mem_of_getElem? Hx.out, by unfold matchT; rw [HY.out]; simp; omega⟩)
        refine wp_region_noPanic ?_
        refine wp_region_held_drew (S := fun X => Below wr.heap.size wr X) (by kernel_rfl) ?_ (fun hHeld => ?_)
        · (first | with_reducible assumption | (with_reducible refine Below.drew ?_; with_reducible assumption) | (with_reducible refine ba _ _ ?_; with_reducible assumption) | (with_reducible refine Below.drew ?_; with_reducible refine ba _ _ ?_; with_reducible assumption) | exact Below.refl _ _ | exact (Below.refl _ _).drew | exact (Below.refl _ _).alloc (Nat.le_refl _) _ | (refine bc _ _ (by assumption) (by assumption)))
        refine RegOk.begin_ (n := 8) (T := q21M) ⟨by kernel_rfl, by kernel_rfl, by kernel_rfl, by kernel_rfl⟩ fun hR => ?_
        refine hR.take (i := 0) (oi := ?ow481_0) (v := ?vw481_0) (m' := 1) ?hw481_0 (by kernel_rfl) (by kernel_rfl) (fun _ _ _ h => h) (Or.inl ⟨?sw481_0, ?yw481_0⟩) (by assumption) ?nw481_0
        case hw481_0 => simp only [List.getElem?_toArray, List.getElem?_cons_succ, List.getElem?_cons_zero]; rfl
        case sw481_0 => rfl
        case yw481_0 => (intro w hSw; (try dsimp only at hSw); go_simp <;> with_reducible rfl)
        try simp only [Act.put, List.setIfInBounds_toArray, List.set_cons_zero, List.set_cons_succ]
        refine hR.take (i := 1) (oi := ?ow482_1) (v := ?vw482_1) (m' := 3) ?hw482_1 (by kernel_rfl) (by kernel_rfl) (fun _ _ _ h => h) (Or.inl ⟨?sw482_1, ?yw482_1⟩) (by assumption) ?nw482_1
        case hw482_1 => simp only [List.getElem?_toArray, List.getElem?_cons_succ, List.getElem?_cons_zero]; rfl
        case sw482_1 => rfl
        case yw482_1 => (intro w hSw; (try dsimp only at hSw); go_simp <;> with_reducible rfl)
        try simp only [Act.put, List.setIfInBounds_toArray, List.set_cons_zero, List.set_cons_succ]
        refine hR.take (i := 2) (oi := ?ow483_2) (v := ?vw483_2) (m' := 7) ?hw483_2 (by kernel_rfl) (by kernel_rfl) (fun _ _ _ h => h) (Or.inl ⟨?sw483_2, ?yw483_2⟩) (by assumption) ?nw483_2
        case hw483_2 => simp only [List.getElem?_toArray, List.getElem?_cons_succ, List.getElem?_cons_zero]; rfl
        case sw483_2 => rfl
        case yw483_2 => (intro w hSw; (try dsimp only at hSw); go_simp <;> with_reducible rfl)
        try simp only [Act.put, List.setIfInBounds_toArray, List.set_cons_zero, List.set_cons_succ]
        refine hR.take (i := 3) (oi := ?ow484_3) (v := ?vw484_3) (m' := 15) ?hw484_3 (by kernel_rfl) (by kernel_rfl) (fun _ _ _ h => h) (Or.inl ⟨?sw484_3, ?yw484_3⟩) (by assumption) ?nw484_3
        case hw484_3 => simp only [List.getElem?_toArray, List.getElem?_cons_succ, List.getElem?_cons_zero]; rfl
        case sw484_3 => rfl
        case yw484_3 => (intro w hSw; (try dsimp only at hSw); go_simp <;> with_reducible rfl)
        try simp only [Act.put, List.setIfInBounds_toArray, List.set_cons_zero, List.set_cons_succ]
        refine hR.take (i := 4) (oi := ?ow485_4) (v := ?vw485_4) (m' := 31) ?hw485_4 (by kernel_rfl) (by kernel_rfl) (fun _ _ _ h => h) (Or.inl ⟨?sw485_4, ?yw485_4⟩) (by assumption) ?nw485_4
        case hw485_4 => simp only [List.getElem?_toArray, List.getElem?_cons_succ, List.getElem?_cons_zero]; rfl
        case sw485_4 => rfl
        case yw485_4 => (intro w hSw; (try dsimp only at hSw); go_simp <;> with_reducible rfl)
        try simp only [Act.put, List.setIfInBounds_toArray, List.set_cons_zero, List.set_cons_succ]
        refine hR.take (i := 5) (oi := ?ow486_5) (v := ?vw486_5) (m' := 63) ?hw486_5 (by kernel_rfl) (by kernel_rfl) (fun _ _ _ h => h) (Or.inl ⟨?sw486_5, ?yw486_5⟩) (by assumption) ?nw486_5
        case hw486_5 => simp only [List.getElem?_toArray, List.getElem?_cons_succ, List.getElem?_cons_zero]; rfl
        case sw486_5 => rfl
        case yw486_5 => (intro w hSw; (try dsimp only at hSw); go_simp <;> with_reducible rfl)
        try simp only [Act.put, List.setIfInBounds_toArray, List.set_cons_zero, List.set_cons_succ]
        refine hR.come (rs := [6]) (by kernel_rfl) (by simp) ?_
        refine AllReadyH.cons (o := ?o487_6) ?h487_6 (fun K hK => ?kw487_6) AllReadyH.nil
        case h487_6 => simp only [List.getElem?_toArray, List.getElem?_cons_succ, List.getElem?_cons_zero]; rfl
        go_simp
        go_at_call 39; refine (valueRef _ hc0 hc3).mono ?_; rw [HY.out]; rintro e w2 ⟨rfl, hb2⟩; have hk := bc _ _ (by (first | with_reducible assumption | (with_reducible refine Below.drew ?_; with_reducible assumption) | (with_reducible refine ba _ _ ?_; with_reducible assumption) | (with_reducible refine Below.drew ?_; with_reducible refine ba _ _ ?_; with_reducible assumption) | exact Below.refl _ _ | exact (Below.refl _ _).drew | exact (Below.refl _ _).alloc (Nat.le_refl _) _ | (refine bc _ _ (by assumption) (by assumption)))) hb2
        refine hK.out _ _ ?_ (fun hHeld => ?_)
        · (first | with_reducible assumption | (with_reducible refine Below.drew ?_; with_reducible assumption) | (with_reducible refine ba _ _ ?_; with_reducible assumption) | (with_reducible refine Below.drew ?_; with_reducible refine ba _ _ ?_; with_reducible assumption) | exact Below.refl _ _ | exact (Below.refl _ _).drew | exact (Below.refl _ _).alloc (Nat.le_refl _) _ | (refine bc _ _ (by assumption) (by assumption)))
        clear hK K
        refine RegOk.put_ (m' := 127) (by kernel_rfl) ?_
        try simp only [Act.put, List.setIfInBounds_toArray, List.set_cons_zero, List.set_cons_succ]
        refine hR.take (i := 7) (oi := ?ow488_7) (v := ?vw488_7) (m' := 255) ?hw488_7 (by kernel_rfl) (by kernel_rfl) (fun _ _ _ h => h) (Or.inl ⟨?sw488_7, ?yw488_7⟩) (by assumption) ?nw488_7
        case hw488_7 => simp only [List.getElem?_toArray, List.getElem?_cons_succ, List.getElem?_cons_zero]; rfl
        case sw488_7 => rfl
        case yw488_7 => (intro w hSw; (try dsimp only at hSw); go_simp <;> with_reducible rfl)
        try simp only [Act.put, List.setIfInBounds_toArray, List.set_cons_zero, List.set_cons_succ]
        refine hR.all (by kernel_rfl) ?_ _
        refine NoPanic.normal ?_
        go_wp2_with fail
        go_ret
        exact ⟨ret_b hf.out.symm, b1.out.trans (Below.mono (by assumption) b1.out.size)⟩
      · have d2 : decide (y < x.lo) = false := decide_eq_false c2
        by_cases c3 : x.hi < y
        · have hf := Lib.hid (show matchB l r = false from List.all_eq_false.2 ⟨x, List.mem_of_getElem? Hx.out, by unfold matchT; rw [HY.out]; simp; omega⟩)
          refine wp_region_noPanic ?_
          refine wp_region_held_drew (S := fun X => Below wr.heap.size wr X) (by kernel_rfl) ?_ (fun hHeld => ?_)
          · (first | with_reducible assumption | (with_reducible refine Below.drew ?_; with_reducible assumption) | (with_reducible refine ba _ _ ?_; with_reducible assumption) | (with_reducible refine Below.drew ?_; with_reducible refine ba _ _ ?_; with_reducible assumption) | exact Below.refl _ _ | exact (Below.refl _ _).drew | exact (Below.refl _ _).alloc (Nat.le_refl _) _ | (refine bc _ _ (by assumption) (by assumption)))
          refine RegOk.begin_ (n := 8) (T := q21M) ⟨by kernel_rfl, by kernel_rfl, by kernel_rfl, by kernel_rfl⟩ fun hR => ?_
          refine hR.take (i := 0) (oi := ?ow489_0) (v := ?vw489_0) (m' := 1) ?hw489_0 (by kernel_rfl) (by kernel_rfl) (fun _ _ _ h => h) (Or.inl ⟨?sw489_0, ?yw489_0⟩) (by assumption) ?nw489_0
          case hw489_0 => simp only [List.getElem?_toArray, List.getElem?_cons_succ, List.getElem?_cons_zero]; rfl
          case sw489_0 => rfl
          case yw489_0 => (intro w hSw; (try dsimp only at hSw); go_simp <;> with_reducible rfl)
          try simp only [Act.put, List.setIfInBounds_toArray, List.set_cons_zero, List.set_cons_succ]
          refine hR.take (i := 1) (oi := ?ow490_1) (v := ?vw490_1) (m' := 3) ?hw490_1 (by kernel_rfl) (by kernel_rfl) (fun _ _ _ h => h) (Or.inl ⟨?sw490_1, ?yw490_1⟩) (by assumption) ?nw490_1
          case hw490_1 => simp only [List.getElem?_toArray, List.getElem?_cons_succ, List.getElem?_cons_zero]; rfl
          case sw490_1 => rfl
          case yw490_1 => (intro w hSw; (try dsimp only at hSw); go_simp <;> with_reducible rfl)
          try simp only [Act.put, List.setIfInBounds_toArray, List.set_cons_zero, List.set_cons_succ]
          refine hR.take (i := 2) (oi := ?ow491_2) (v := ?vw491_2) (m' := 7) ?hw491_2 (by kernel_rfl) (by kernel_rfl) (fun _ _ _ h => h) (Or.inl ⟨?sw491_2, ?yw491_2⟩) (by assumption) ?nw491_2
          case hw491_2 => simp only [List.getElem?_toArray, List.getElem?_cons_succ, List.getElem?_cons_zero]; rfl
          case sw491_2 => rfl
          case yw491_2 => (intro w hSw; (try dsimp only at hSw); go_simp <;> with_reducible rfl)
          try simp only [Act.put, List.setIfInBounds_toArray, List.set_cons_zero, List.set_cons_succ]
          refine hR.take (i := 3) (oi := ?ow492_3) (v := ?vw492_3) (m' := 15) ?hw492_3 (by kernel_rfl) (by kernel_rfl) (fun _ _ _ h => h) (Or.inl ⟨?sw492_3, ?yw492_3⟩) (by assumption) ?nw492_3
          case hw492_3 => simp only [List.getElem?_toArray, List.getElem?_cons_succ, List.getElem?_cons_zero]; rfl
          case sw492_3 => rfl
          case yw492_3 => (intro w hSw; (try dsimp only at hSw); go_simp <;> with_reducible rfl)
          try simp only [Act.put, List.setIfInBounds_toArray, List.set_cons_zero, List.set_cons_succ]
          refine hR.take (i := 4) (oi := ?ow493_4) (v := ?vw493_4) (m' := 31) ?hw493_4 (by kernel_rfl) (by kernel_rfl) (fun _ _ _ h => h) (Or.inl ⟨?sw493_4, ?yw493_4⟩) (by assumption) ?nw493_4
          case hw493_4 => simp only [List.getElem?_toArray, List.getElem?_cons_succ, List.getElem?_cons_zero]; rfl
          case sw493_4 => rfl
          case yw493_4 => (intro w hSw; (try dsimp only at hSw); go_simp <;> with_reducible rfl)
          try simp only [Act.put, List.setIfInBounds_toArray, List.set_cons_zero, List.set_cons_succ]
          refine hR.take (i := 5) (oi := ?ow494_5) (v := ?vw494_5) (m' := 63) ?hw494_5 (by kernel_rfl) (by kernel_rfl) (fun _ _ _ h => h) (Or.inl ⟨?sw494_5, ?yw494_5⟩) (by assumption) ?nw494_5
          case hw494_5 => simp only [List.getElem?_toArray, List.getElem?_cons_succ, List.getElem?_cons_zero]; rfl
          case sw494_5 => rfl
          case yw494_5 => (intro w hSw; (try dsimp only at hSw); go_simp <;> with_reducible rfl)
          try simp only [Act.put, List.setIfInBounds_toArray, List.set_cons_zero, List.set_cons_succ]
          refine hR.come (rs := [6]) (by kernel_rfl) (by simp) ?_
          refine AllReadyH.cons (o := ?o495_6) ?h495_6 (fun K hK => ?kw495_6) AllReadyH.nil
          case h495_6 => simp only [List.getElem?_toArray, List.getElem?_cons_succ, List.getElem?_cons_zero]; rfl
          go_simp
          go_at_call 39; refine (valueRef _ hc0 hc3).mono ?_; rw [HY.out]; rintro e w2 ⟨rfl, hb2⟩; have hk := bc _ _ (by (first | with_reducible assumption | (with_reducible refine Below.drew ?_; with_reducible assumption) | (with_reducible refine ba _ _ ?_; with_reducible assumption) | (with_reducible refine Below.drew ?_; with_reducible refine ba _ _ ?_; with_reducible assumption) | exact Below.refl _ _ | exact (Below.refl _ _).drew | exact (Below.refl _ _).alloc (Nat.le_refl _) _ | (refine bc _ _ (by assumption) (by assumption)))) hb2
          refine hK.out _ _ ?_ (fun hHeld => ?_)
          · (first | with_reducible assumption | (with_reducible refine Below.drew ?_; with_reducible assumption) | (with_reducible refine ba _ _ ?_; with_reducible assumption) | (with_reducible refine Below.drew ?_; with_reducible refine ba _ _ ?_; with_reducible assumption) | exact Below.refl _ _ | exact (Below.refl _ _).drew | exact (Below.refl _ _).alloc (Nat.le_refl _) _ | (refine bc _ _ (by assumption) (by assumption)))
          clear hK K
          refine RegOk.put_ (m' := 127) (by kernel_rfl) ?_
          try simp only [Act.put, List.setIfInBounds_toArray, List.set_cons_zero, List.set_cons_succ]
          refine hR.take (i := 7) (oi := ?ow496_7) (v := ?vw496_7) (m' := 255) ?hw496_7 (by kernel_rfl) (by kernel_rfl) (fun _ _ _ h => h) (Or.inl ⟨?sw496_7, ?yw496_7⟩) (by assumption) ?nw496_7
          case hw496_7 => simp only [List.getElem?_toArray, List.getElem?_cons_succ, List.getElem?_cons_zero]; rfl
          case sw496_7 => rfl
          case yw496_7 => (intro w hSw; (try dsimp only at hSw); go_simp <;> with_reducible rfl)
          try simp only [Act.put, List.setIfInBounds_toArray, List.set_cons_zero, List.set_cons_succ]
          refine hR.all (by kernel_rfl) ?_ _
          refine NoPanic.normal ?_
          go_wp2_with fail
          go_ret
          exact ⟨ret_b hf.out.symm, b1.out.trans (Below.mono (by assumption) b1.out.size)⟩
        · have d3 : decide (x.hi < y) = false := decide_eq_false c3
          have hf := Lib.hid (show matchT r x = true from decide_eq_true (by rw [HY.out]; omega))
          refine wp_region_noPanic ?_
          refine wp_region_held_drew (S := fun X => Below wr.heap.size wr X) (by kernel_rfl) ?_ (fun hHeld => ?_)
          · (first | with_reducible assumption | (with_reducible refine Below.drew ?_; with_reducible assumption) | (with_reducible refine ba _ _ ?_; with_reducible assumption) | (with_reducible refine Below.drew ?_; with_reducible refine ba _ _ ?_; with_reducible assumption) | exact Below.refl _ _ | exact (Below.refl _ _).drew | exact (Below.refl _ _).alloc (Nat.le_refl _) _ | (refine bc _ _ (by assumption) (by assumption)))
          refine RegOk.begin_ (n := 8) (T := q21M) ⟨by kernel_rfl, by kernel_rfl, by kernel_rfl, by kernel_rfl⟩ fun hR => ?_
          refine hR.take (i := 0) (oi := ?ow497_0) (v := ?vw497_0) (m' := 1) ?hw497_0 (by kernel_rfl) (by kernel_rfl) (fun _ _ _ h => h) (Or.inl ⟨?sw497_0, ?yw497_0⟩) (by assumption) ?nw497_0
          case hw497_0 => simp only [List.getElem?_toArray, List.getElem?_cons_succ, List.getElem?_cons_zero]; rfl
          case sw497_0 => rfl
          case yw497_0 => (intro w hSw; (try dsimp only at hSw); go_simp <;> with_reducible rfl)
          try simp only [Act.put, List.setIfInBounds_toArray, List.set_cons_zero, List.set_cons_succ]
          refine hR.take (i := 1) (oi := ?ow498_1) (v := ?vw498_1) (m' := 3) ?hw498_1 (by kernel_rfl) (by kernel_rfl) (fun _ _ _ h => h) (Or.inl ⟨?sw498_1, ?yw498_1⟩) (by assumption) ?nw498_1
          case hw498_1 => simp only [List.getElem?_toArray, List.getElem?_cons_succ, List.getElem?_cons_zero]; rfl
          case sw498_1 => rfl
          case yw498_1 => (intro w hSw; (try dsimp only at hSw); go_simp <;> with_reducible rfl)
          try simp only [Act.put, List.setIfInBounds_toArray, List.set_cons_zero, List.set_cons_succ]
          refine hR.take (i := 2) (oi := ?ow499_2) (v := ?vw499_2) (m' := 7) ?hw499_2 (by kernel_rfl) (by kernel_rfl) (fun _ _ _ h => h) (Or.inl ⟨?sw499_2, ?yw499_2⟩) (by assumption) ?nw499_2
          case hw499_2 => simp only [List.getElem?_toArray, List.getElem?_cons_succ, List.getElem?_cons_zero]; rfl
          case sw499_2 => rfl
          case yw499_2 => (intro w hSw; (try dsimp only at hSw); go_simp <;> with_reducible rfl)
          try simp only [Act.put, List.setIfInBounds_toArray, List.set_cons_zero, List.set_cons_succ]
          refine hR.take (i := 3) (oi := ?ow500_3) (v := ?vw500_3) (m' := 15) ?hw500_3 (by kernel_rfl) (by kernel_rfl) (fun _ _ _ h => h) (Or.inl ⟨?sw500_3, ?yw500_3⟩) (by assumption) ?nw500_3
          case hw500_3 => simp only [List.getElem?_toArray, List.getElem?_cons_succ, List.getElem?_cons_zero]; rfl
          case sw500_3 => rfl
          case yw500_3 => (intro w hSw; (try dsimp only at hSw); go_simp <;> with_reducible rfl)
          try simp only [Act.put, List.setIfInBounds_toArray, List.set_cons_zero, List.set_cons_succ]
          refine hR.take (i := 4) (oi := ?ow501_4) (v := ?vw501_4) (m' := 31) ?hw501_4 (by kernel_rfl) (by kernel_rfl) (fun _ _ _ h => h) (Or.inl ⟨?sw501_4, ?yw501_4⟩) (by assumption) ?nw501_4
          case hw501_4 => simp only [List.getElem?_toArray, List.getElem?_cons_succ, List.getElem?_cons_zero]; rfl
          case sw501_4 => rfl
          case yw501_4 => (intro w hSw; (try dsimp only at hSw); go_simp <;> with_reducible rfl)
          try simp only [Act.put, List.setIfInBounds_toArray, List.set_cons_zero, List.set_cons_succ]
          refine hR.take (i := 5) (oi := ?ow502_5) (v := ?vw502_5) (m' := 63) ?hw502_5 (by kernel_rfl) (by kernel_rfl) (fun _ _ _ h => h) (Or.inl ⟨?sw502_5, ?yw502_5⟩) (by assumption) ?nw502_5
          case hw502_5 => simp only [List.getElem?_toArray, List.getElem?_cons_succ, List.getElem?_cons_zero]; rfl
          case sw502_5 => rfl
          case yw502_5 => (intro w hSw; (try dsimp only at hSw); go_simp <;> with_reducible rfl)
          try simp only [Act.put, List.setIfInBounds_toArray, List.set_cons_zero, List.set_cons_succ]
          refine hR.come (rs := [6]) (by kernel_rfl) (by simp) ?_
          refine AllReadyH.cons (o := ?o503_6) ?h503_6 (fun K hK => ?kw503_6) AllReadyH.nil
          case h503_6 => simp only [List.getElem?_toArray, List.getElem?_cons_succ, List.getElem?_cons_zero]; rfl
          go_simp
          go_at_call 39; refine (valueRef _ hc0 hc3).mono ?_; rw [HY.out]; rintro e w2 ⟨rfl, hb2⟩; have hk := bc _ _ (by (first | with_reducible assumption | (with_reducible refine Below.drew ?_; with_reducible assumption) | (with_reducible refine ba _ _ ?_; with_reducible assumption) | (with_reducible refine Below.drew ?_; with_reducible refine ba _ _ ?_; with_reducible assumption) | exact Below.refl _ _ | exact (Below.refl _ _).drew | exact (Below.refl _ _).alloc (Nat.le_refl _) _ | (refine bc _ _ (by assumption) (by assumption)))) hb2
          refine hK.out _ _ ?_ (fun hHeld => ?_)
          · (first | with_reducible assumption | (with_reducible refine Below.drew ?_; with_reducible assumption) | (with_reducible refine ba _ _ ?_; with_reducible assumption) | (with_reducible refine Below.drew ?_; with_reducible refine ba _ _ ?_; with_reducible assumption) | exact Below.refl _ _ | exact (Below.refl _ _).drew | exact (Below.refl _ _).alloc (Nat.le_refl _) _ | (refine bc _ _ (by assumption) (by assumption)))
          clear hK K
          refine RegOk.put_ (m' := 127) (by kernel_rfl) ?_
          try simp only [Act.put, List.setIfInBounds_toArray, List.set_cons_zero, List.set_cons_succ]
          refine hR.take (i := 7) (oi := ?ow504_7) (v := ?vw504_7) (m' := 255) ?hw504_7 (by kernel_rfl) (by kernel_rfl) (fun _ _ _ h => h) (Or.inl ⟨?sw504_7, ?yw504_7⟩) (by assumption) ?nw504_7
          case hw504_7 => simp only [List.getElem?_toArray, List.getElem?_cons_succ, List.getElem?_cons_zero]; rfl
          case sw504_7 => rfl
          case yw504_7 => (intro w hSw; (try dsimp only at hSw); go_simp <;> with_reducible rfl)
          try simp only [Act.put, List.setIfInBounds_toArray, List.set_cons_zero, List.set_cons_succ]
          refine hR.all (by kernel_rfl) ?_ _
          refine NoPanic.normal ?_
          go_wp2_with fail
          go_roundw
          case rel => exact ⟨j + 1, by omega, by go_num, Lib.hid (by rw [hn.out, ht.out, hf.out]; rfl), b1.out.trans (Below.mono (by assumption) b1.out.size), mvQ gr (by assumption)⟩
          case measure => simp [intOf]; omega
    · have hj1 : ¬ (j : Int) < (l.length : Int) := by omega
      have hf := Lib.hid (show matchB l r = true from by have h1 := ht.out; rwa [List.take_of_length_le (by omega)] at h1)
      go_wp2_with fail
      go_ret
      exact ⟨ret_b hf.out.symm, b1.out⟩
/-- A row of one block. -/
theorem Sl.ofRow {α : Type} {E : Enc α} {S : Nat → Prop} {w : World} {g : Nat} {cs : List Value} {t : TypeId} {xs : List α} (h : w.heap[g]? = some (.cells cs.toArray t (0, 0))) (he : Elems E S w cs xs) (hS : S g) (hm : xs.length ≤ maxLen) :
    Sl E S w (some ⟨g, 0, none⟩) xs.length xs :=
  ⟨Nat.le_refl _, hm, cs, fun _ => ⟨_, rfl, hS, heap_lt h, fun j u hu => by rw [Addr.add_lit, cell_of_row _ _ _ _ _ _ h]; simpa using hu⟩, he⟩
theorem sl_fs1 {S : Nat → Prop} {w : World} {g : Nat} {t : TypeId} {B : Option Addr} {d : Nat} {l : List Cd} (h : w.heap[g]? = some (.cells #[.slice B l.length d] t (0, 0))) (hs : Sl cdE S w B d l) (hS : S g) : Sl cdE.slice S w (some ⟨g, 0, none⟩) 1 [l] :=
  Sl.ofRow (cs := [.slice B l.length d]) h (.single ⟨B, d, rfl, hs⟩) hS (by unfold maxLen; simp)
theorem sl_cd1 {S : Nat → Prop} {w : World} {g : Nat} {t : TypeId} {x : Cd} (h : w.heap[g]? = some (.cells #[.int .i64 x.col, .int .i64 x.lo, .int .i64 x.hi] t (0, 0))) (hS : S g) : Sl cdE S w (some ⟨g, 0, none⟩) 1 [x] :=
  Sl.ofRow (cs := [.int .i64 x.col, .int .i64 x.lo, .int .i64 x.hi]) h (.single cdE_shut) hS (by unfold maxLen; simp)
end Go.Proofs.YtmkpaolbejlodaaDoor
namespace Go.Proofs.YtmkpaolbejlodaaDoor
open Go.RowKit

theorem sums_1 {k : Int} (h1 : 1 ≤ k) (h : k ≤ 3) : sumsC k = 1 := by unfold sumsC; rw [if_pos ⟨h1, h⟩]
theorem sums_16 {k : Int} (h : ¬ k ≤ 3) (h6 : k ≤ 6) : sumsC k = 16 := by unfold sumsC; rw [if_neg (show ¬ (1 ≤ k ∧ k ≤ 3) by omega), if_pos (show 4 ≤ k ∧ k ≤ 6 by omega)]
theorem sums_32 {k : Int} (h : k = 7) : sumsC k = 32 := by subst h; rfl
theorem k6_of {q : Qy} (hq : ValidQ q) : q.k ≤ 6 ∨ q.kind ≠ 3 := by
  by_cases h3 : q.kind = 3
  · left; have := hq.head.2.2.2.2.1; rw [h3] at this; exact this
  · exact .inr h3
theorem sums_le {k : Int} (h1 : 1 ≤ k) (h7 : k ≤ 7) : 0 ≤ sumsC k ∧ sumsC k ≤ 32 ∧ (k ≠ 7 → sumsC k ≤ 16) := by
  unfold sumsC
  rcases (by omega : k = 1 ∨ k = 2 ∨ k = 3 ∨ k = 4 ∨ k = 5 ∨ k = 6 ∨ k = 7) with e | e | e | e | e | e | e <;> subst e <;> decide
end Go.Proofs.YtmkpaolbejlodaaDoor
namespace Go.Proofs.YtmkpaolbejlodaaDoor
open Go.RowKit

def nSums (q : Qy) : Nat := (sumsC q.kind).toNat
/-- The sums of a query over readings. -/
def sumsF (q : Qy) (l : List Rd) : List Int := (List.range (nSums q)).map (totalF q l)
def idxE (q : Qy) (i : Nat) (r : Rd) : Nat := if q.kind ≤ 3 then 0 else if q.kind = 7 then 16 * i + r.who.toNat else (fldI r q.col).toNat
def incE (q : Qy) (r : Rd) : Int := if q.kind = 1 then 1 else if q.kind = 2 then fldI r q.col else if q.kind = 3 then fldI r q.col ^ q.k.toNat else 1
def addE (q : Qy) (i : Nat) (xs : List Int) (r : Rd) : List Int := xs.set (idxE q i r) (xs.getD (idxE q i r) 0 + incE q r)
def partE (q : Qy) (l : List Rd) (i j v : Nat) : Int :=
  if q.kind = 7 then (if v / 16 < i then totalF q l v else if v / 16 = i then totalF q (l.take j) v else 0) else (if i = 0 then totalF q (l.take j) v else totalF q l v)
def accE (q : Qy) (l : List Rd) (i j : Nat) : List Int := (List.range (nSums q)).map (partE q l i j)

theorem sumsF_len (q : Qy) (l : List Rd) : (sumsF q l).length = nSums q := by simp [sumsF]
theorem accE_len (q : Qy) (l : List Rd) (i j : Nat) : (accE q l i j).length = nSums q := by simp [accE]
theorem accE_get {q : Qy} {l : List Rd} {i j v : Nat} (h : v < nSums q) : (accE q l i j)[v]? = some (partE q l i j v) := by unfold accE; rw [List.getElem?_map, List.getElem?_range h]; rfl
theorem nSums_le {q : Qy} (hq : ValidQ q) : nSums q ≤ 32 ∧ (nSums q : Int) = sumsC q.kind := by
  have := sums_le hq.head.1.1 hq.head.1.2
  unfold nSums; omega
theorem nSums_1 {q : Qy} (hq : ValidQ q) (h : q.kind ≤ 3) : nSums q = 1 := by have := sums_1 hq.head.1.1 h; have := nSums_le hq; omega
theorem nSums_16 {q : Qy} (hq : ValidQ q) (h : ¬ q.kind ≤ 3) (h6 : q.kind ≤ 6) : nSums q = 16 := by have := sums_16 h h6; have := nSums_le hq; omega
theorem nSums_32 {q : Qy} (hq : ValidQ q) (h : q.kind = 7) : nSums q = 32 := by have := sums_32 h; have := nSums_le hq; omega
theorem totalF_nil (q : Qy) (v : Nat) : totalF q [] v = 0 := by simp [totalF]
theorem acc_zero (q : Qy) (l : List Rd) : accE q l 0 0 = List.replicate (nSums q) 0 := by
  rw [List.eq_replicate_iff]
  refine ⟨accE_len _ _ _ _, fun b hb => ?_⟩
  unfold accE at hb
  obtain ⟨v, -, rfl⟩ := List.mem_map.1 hb
  unfold partE
  rw [List.take_zero, totalF_nil, if_neg (Nat.not_lt_zero _)]
  split
  · split <;> rfl
  · rfl
theorem narrow_fld {q : Qy} (hq : ValidQ q) (hw : wideB q = false) (h4 : 4 ≤ q.kind) (h6 : q.kind ≤ 6) {r : Rd} (hr : ValidR r) : (q.col = 0 ∨ q.col = 2) ∧ 0 ≤ fldI r q.col ∧ fldI r q.col < 16 := by
  have hc := hq.head.2.1
  have hb : ¬ 4 < bitsC q.col := fun h => by unfold wideB at hw; exact of_decide_eq_false hw ⟨h4, h6, h⟩
  have h02 : q.col = 0 ∨ q.col = 2 := by
    rcases (by omega : q.col = 0 ∨ q.col = 1 ∨ q.col = 2 ∨ q.col = 3) with e | e | e | e
    · exact .inl e
    · rw [e] at hb; exact absurd (by decide) hb
    · exact .inr e
    · rw [e] at hb; exact absurd (by decide) hb
  have hf := fldI_bd hr q.col
  refine ⟨h02, hf.1, ?_⟩
  have : maxC q.col = 15 := by unfold maxC; rw [if_pos h02]
  omega
/-- Where a reading is counted, and how. -/
theorem term_idx {q : Qy} (hq : ValidQ q) (hw : wideB q = false) {r : Rd} (hr : ValidR r) {i v : Nat} (hi : i < nFilF q.kind) (hv : v < nSums q) :
    (if q.kind = 7 → v / 16 = i then termF q v r else 0) = if matchB (fl q i) r = true ∧ idxE q i r = v then incE q r else 0 := by
  obtain ⟨⟨hk1, hk7⟩, -⟩ := hq.head
  have hwho : 0 ≤ r.who ∧ r.who < 16 := hr.1
  by_cases h7 : q.kind = 7
  · rw [nSums_32 hq h7] at hv
    have hi2 : i < 2 := by rw [h7] at hi; exact hi
    have e2 : idxE q i r = 16 * i + r.who.toNat := by unfold idxE; rw [if_neg (by omega), if_pos h7]
    have e3 : incE q r = 1 := by unfold incE; rw [if_neg (by omega), if_neg (by omega), if_neg (by omega)]
    by_cases hvi : v / 16 = i
    · rw [if_pos (fun _ => hvi)]
      unfold termF
      have e1 : filtF q v = fl q i := by unfold filtF; rw [if_pos h7, hvi]
      rw [e1, e2, e3]
      by_cases hm : matchB (fl q i) r = true
      · rw [if_pos hm]
        unfold unitF
        rw [if_neg (by omega), if_neg (by omega), if_neg (by omega)]
        have e4 : fldI r (colQ q) = r.who := by unfold colQ; rw [if_pos h7]; rfl
        rw [e4]
        by_cases he : 16 * i + r.who.toNat = v
        · rw [if_pos (show matchB (fl q i) r = true ∧ 16 * i + r.who.toNat = v from ⟨hm, he⟩), if_pos (show r.who = ((v % 16 : Nat) : Int) by omega)]
        · rw [if_neg (show ¬ (matchB (fl q i) r = true ∧ 16 * i + r.who.toNat = v) by rintro ⟨-, h⟩; exact he h), if_neg (show ¬ r.who = ((v % 16 : Nat) : Int) by omega)]
      · rw [if_neg hm, if_neg (show ¬ (matchB (fl q i) r = true ∧ 16 * i + r.who.toNat = v) by rintro ⟨h, -⟩; exact hm h)]
    · rw [if_neg (fun h => hvi (h h7)), if_neg]
      rintro ⟨-, h⟩
      rw [e2] at h
      omega
  · rw [if_pos (fun h => absurd h h7)]
    have hi0 : i = 0 := by unfold nFilF at hi; rw [if_neg h7] at hi; omega
    subst hi0
    unfold termF
    have e1 : filtF q v = fl q 0 := by unfold filtF; rw [if_neg h7]
    rw [e1]
    by_cases hm : matchB (fl q 0) r = true
    · rw [if_pos hm]
      by_cases h3 : q.kind ≤ 3
      · rw [nSums_1 hq h3] at hv
        have e2 : idxE q 0 r = v := by unfold idxE; rw [if_pos h3]; omega
        rw [if_pos (show matchB (fl q 0) r = true ∧ idxE q 0 r = v from ⟨hm, e2⟩)]
        unfold unitF incE
        rcases (by omega : q.kind = 1 ∨ q.kind = 2 ∨ q.kind = 3) with e | e | e
        · simp [e]
        · simp [e]
        · simp [e]
      · rw [nSums_16 hq h3 (by omega)] at hv
        obtain ⟨-, hf0, hf1⟩ := narrow_fld hq hw (by omega) (by omega) hr
        have e2 : idxE q 0 r = (fldI r q.col).toNat := by unfold idxE; rw [if_neg h3, if_neg h7]
        have e3 : incE q r = 1 := by unfold incE; rw [if_neg (by omega), if_neg (by omega), if_neg (by omega)]
        have e4 : colQ q = q.col := by unfold colQ; rw [if_neg h7]
        rw [e2, e3]
        unfold unitF
        rw [if_neg (by omega), if_neg (by omega), if_neg (by omega), e4]
        by_cases he : (fldI r q.col).toNat = v
        · rw [if_pos (show matchB (fl q 0) r = true ∧ (fldI r q.col).toNat = v from ⟨hm, he⟩), if_pos (show fldI r q.col = ((v % 16 : Nat) : Int) by omega)]
        · rw [if_neg (show ¬ (matchB (fl q 0) r = true ∧ (fldI r q.col).toNat = v) by rintro ⟨-, h⟩; exact he h), if_neg (show ¬ fldI r q.col = ((v % 16 : Nat) : Int) by omega)]
    · rw [if_neg hm, if_neg (show ¬ (matchB (fl q 0) r = true ∧ idxE q 0 r = v) by rintro ⟨h, -⟩; exact hm h)]
theorem part_step {q : Qy} {l : List Rd} {j : Nat} {r : Rd} (hj : l[j]? = some r) {i : Nat} (hi : i < nFilF q.kind) (v : Nat) :
    partE q l i (j + 1) v = partE q l i j v + if q.kind = 7 → v / 16 = i then termF q v r else 0 := by
  unfold partE
  rw [take_snocR hj, totalF_snoc]
  by_cases h7 : q.kind = 7
  · rw [if_pos h7, if_pos h7]
    by_cases h1 : v / 16 < i
    · rw [if_pos h1, if_pos h1, if_neg (fun h => by have := h h7; omega)]; omega
    · rw [if_neg h1, if_neg h1]
      by_cases h2 : v / 16 = i
      · rw [if_pos h2, if_pos h2, if_pos (fun _ => h2)]
      · rw [if_neg h2, if_neg h2, if_neg (fun h => h2 (h h7))]; omega
  · have hi0 : i = 0 := by unfold nFilF at hi; rw [if_neg h7] at hi; omega
    rw [if_neg h7, if_neg h7, if_pos hi0, if_pos hi0, if_pos (fun h => absurd h h7)]
theorem idx_lt {q : Qy} (hq : ValidQ q) (hw : wideB q = false) {r : Rd} (hr : ValidR r) {i : Nat} (hi : i < nFilF q.kind) : idxE q i r < nSums q := by
  obtain ⟨⟨hk1, hk7⟩, -⟩ := hq.head
  have hwho : 0 ≤ r.who ∧ r.who < 16 := hr.1
  unfold idxE
  by_cases h3 : q.kind ≤ 3
  · rw [if_pos h3, nSums_1 hq h3]; omega
  · by_cases h7 : q.kind = 7
    · have hi2 : i < 2 := by rw [h7] at hi; exact hi
      rw [if_neg h3, if_pos h7, nSums_32 hq h7]; omega
    · have hf := narrow_fld hq hw (by omega) (by omega) hr
      rw [if_neg h3, if_neg h7, nSums_16 hq h3 (by omega)]; omega
theorem acc_step {q : Qy} (hq : ValidQ q) (hw : wideB q = false) {l : List Rd} {j : Nat} {r : Rd} (hj : l[j]? = some r) (hr : ValidR r) {i : Nat} (hi : i < nFilF q.kind) :
    accE q l i (j + 1) = if matchB (fl q i) r = true then addE q i (accE q l i j) r else accE q l i j := by
  have hx := idx_lt hq hw hr hi
  refine List.ext_getElem? fun v => ?_
  by_cases hv : v < nSums q
  · rw [accE_get hv, part_step hj hi, term_idx hq hw hr hi hv]
    by_cases hm : matchB (fl q i) r = true
    · rw [if_pos hm]
      unfold addE
      rw [List.getElem?_set]
      by_cases he : idxE q i r = v
      · subst he
        rw [if_pos ⟨hm, rfl⟩, if_pos rfl, if_pos (by rw [accE_len]; exact hv), List.getD_eq_getElem?_getD, accE_get hv]; rfl
      · rw [if_neg (by rintro ⟨-, h⟩; exact he h), if_neg he, accE_get hv, Int.add_zero]
    · rw [if_neg (by rintro ⟨h, -⟩; exact hm h), if_neg hm, accE_get hv, Int.add_zero]
  · rw [List.getElem?_eq_none (by rw [accE_len]; omega)]
    split
    · rw [List.getElem?_eq_none (by unfold addE; rw [List.length_set, accE_len]; omega)]
    · rw [List.getElem?_eq_none (by rw [accE_len]; omega)]
theorem acc_next {q : Qy} {l : List Rd} {i : Nat} (hi : i < nFilF q.kind) : accE q l i l.length = accE q l (i + 1) 0 := by
  unfold accE
  refine List.map_congr_left fun v _ => ?_
  unfold partE
  rw [List.take_length, List.take_zero, totalF_nil]
  by_cases h7 : q.kind = 7
  · rw [if_pos h7, if_pos h7]
    by_cases h1 : v / 16 < i
    · rw [if_pos h1, if_pos (by omega)]
    · by_cases h2 : v / 16 = i
      · rw [if_neg h1, if_pos h2, if_pos (by omega)]
      · rw [if_neg h1, if_neg h2, if_neg (by omega)]; split <;> rfl
  · have hi0 : i = 0 := by unfold nFilF at hi; rw [if_neg h7] at hi; omega
    rw [if_neg h7, if_neg h7, if_pos hi0, if_neg (by omega)]
theorem acc_done {q : Qy} (hq : ValidQ q) (l : List Rd) : accE q l (nFilF q.kind) 0 = sumsF q l := by
  unfold accE sumsF
  refine List.map_congr_left fun v hv => ?_
  have hv' : v < nSums q := List.mem_range.1 hv
  unfold partE
  by_cases h7 : q.kind = 7
  · rw [nSums_32 hq h7] at hv'
    have h2 : nFilF q.kind = 2 := by unfold nFilF; rw [if_pos h7]
    rw [if_pos h7, h2, if_pos (by omega)]
  · have h2 : nFilF q.kind = 1 := by unfold nFilF; rw [if_neg h7]
    rw [if_neg h7, h2, if_neg (by omega)]
theorem take_valid {l : List Rd} (h : ∀ r ∈ l, ValidR r) (j : Nat) : ∀ r ∈ l.take j, ValidR r := fun r hr => h r (List.mem_of_mem_take hr)
theorem acc_bd {q : Qy} (hq : ValidQ q) {l : List Rd} (h : ∀ r ∈ l, ValidR r) (hl : l.length ≤ 1000) (i j : Nat) : ∀ x ∈ accE q l i j, 0 ≤ x ∧ x ≤ 274941996890625000 := by
  intro x hx
  unfold accE at hx
  obtain ⟨v, -, rfl⟩ := List.mem_map.1 hx
  have h1 := totalF_bd (q := q) v (k6_of hq) h
  have h2 := totalF_bd (q := q) v (k6_of hq) (take_valid h j)
  have h3 : (l.take j).length ≤ l.length := List.length_take_le' _ _
  unfold partE
  split
  · split
    · omega
    · split <;> omega
  · split <;> omega
theorem getD_bd {xs : List Int} {M : Int} (h : ∀ x ∈ xs, 0 ≤ x ∧ x ≤ M) (hM : 0 ≤ M) (k : Nat) : 0 ≤ xs.getD k 0 ∧ xs.getD k 0 ≤ M := by
  rw [List.getD_eq_getElem?_getD]
  cases hx : xs[k]? with
  | none => exact ⟨Int.le_refl _, hM⟩
  | some x => exact h x (List.mem_of_getElem? hx)
/-- What is counted is at most the number of readings. -/
theorem total_cnt {q : Qy} (h4 : 4 ≤ q.kind) (v : Nat) : ∀ (l : List Rd), 0 ≤ totalF q l v ∧ totalF q l v ≤ l.length
  | [] => by simp [totalF]
  | r :: l => by
    have h2 := total_cnt h4 v l
    have h3 : totalF q (r :: l) v = termF q v r + totalF q l v := by simp [totalF]
    have h1 : 0 ≤ termF q v r ∧ termF q v r ≤ 1 := by
      unfold termF
      have hu : unitF q v r = if fldI r (colQ q) = ((v % 16 : Nat) : Int) then 1 else 0 := by
        unfold unitF
        rw [if_neg (show ¬ q.kind = 1 by omega), if_neg (show ¬ q.kind = 2 by omega), if_neg (show ¬ q.kind = 3 by omega)]
      rw [hu]
      split
      · split <;> omega
      · omega
    rw [h3, List.length_cons, Int.natCast_add, Int.natCast_one]
    omega
theorem sums_cnt {q : Qy} (h4 : 4 ≤ q.kind) (l : List Rd) : ∀ x ∈ sumsF q l, 0 ≤ x ∧ x ≤ l.length := by
  intro x hx
  unfold sumsF at hx
  obtain ⟨v, -, rfl⟩ := List.mem_map.1 hx
  exact total_cnt h4 v l

/-! Results. -/
def nzF (xs : List Int) : Int := ((xs.filter fun x => x != 0).length : Nat)
def smallF (xs : List Int) (k : Int) : List Int := match (List.range xs.length).find? (fun v => decide (k ≤ (xs.take (v + 1)).sum)) with | some v => [(v : Int)] | none => []
def pairK (xs : List Int) (n : Nat) : Int := ((List.range n).map fun w => xs.getD w 0 * xs.getD (16 + w) 0).sum
def resF (q : Qy) (xs : List Int) : List Int := if q.kind = 5 then [nzF xs] else if q.kind = 6 then smallF xs q.k else if q.kind = 7 then [pairK xs 16] else xs
theorem nz_step {xs : List Int} {j : Nat} {x : Int} (h : xs[j]? = some x) : nzF (xs.take (j + 1)) = nzF (xs.take j) + if x = 0 then 0 else 1 := by
  unfold nzF
  rw [take_snocR h, List.filter_append, List.length_append]
  by_cases hx : x = 0
  · rw [if_pos hx]; simp [hx]
  · rw [if_neg hx]; simp [hx]
theorem nz_le (xs : List Int) : 0 ≤ nzF xs ∧ nzF xs ≤ xs.length := by
  unfold nzF
  have := List.length_filter_le (fun x : Int => x != 0) xs
  omega
theorem sum_snoc (xs : List Int) (x : Int) : (xs ++ [x]).sum = xs.sum + x := by simp
theorem sum_step {xs : List Int} {j : Nat} {x : Int} (h : xs[j]? = some x) : (xs.take (j + 1)).sum = (xs.take j).sum + x := by rw [take_snocR h, sum_snoc]
theorem sum_bd {M : Int} : ∀ {xs : List Int}, (∀ x ∈ xs, 0 ≤ x ∧ x ≤ M) → 0 ≤ xs.sum ∧ xs.sum ≤ xs.length * M
  | [], _ => by simp
  | x :: xs, h => by
    have h1 := h x (by simp)
    have h2 := sum_bd (xs := xs) fun y hy => h y (by simp [hy])
    rw [List.sum_cons, List.length_cons, Int.natCast_add, Int.natCast_one, Int.add_mul, Int.one_mul]
    omega
theorem small_none {xs : List Int} {k : Int} (h : ∀ v, v < xs.length → ¬ k ≤ (xs.take (v + 1)).sum) : smallF xs k = [] := by
  unfold smallF
  rw [List.find?_eq_none.2 (fun v hv => by simpa using h v (List.mem_range.1 hv))]
theorem find_range {p : Nat → Bool} : ∀ {n v : Nat}, v < n → p v = true → (∀ u, u < v → p u = false) → (List.range n).find? p = some v := by
  intro n v hv hp hlt
  rw [List.find?_range_eq_some]
  exact ⟨hp, List.mem_range.2 hv, fun u hu => by rw [hlt u hu]; rfl⟩
theorem small_some {xs : List Int} {k : Int} {v : Nat} (hv : v < xs.length) (hk : k ≤ (xs.take (v + 1)).sum) (h : ∀ u, u < v → ¬ k ≤ (xs.take (u + 1)).sum) : smallF xs k = [(v : Int)] := by
  unfold smallF
  rw [find_range (v := v) hv (by simpa using hk) (fun u hu => by simpa using h u hu)]
theorem pairK_step (xs : List Int) (n : Nat) : pairK xs (n + 1) = pairK xs n + xs.getD n 0 * xs.getD (16 + n) 0 := by
  unfold pairK
  rw [List.range_succ, List.map_append, List.map_singleton, sum_snoc]
theorem mul_bd {a b M : Int} (ha : 0 ≤ a ∧ a ≤ M) (hb : 0 ≤ b ∧ b ≤ M) : 0 ≤ a * b ∧ a * b ≤ M * M :=
  ⟨Int.mul_nonneg ha.1 hb.1, Int.mul_le_mul ha.2 hb.2 hb.1 (Int.le_trans ha.1 ha.2)⟩
theorem pairK_bd {xs : List Int} {M : Int} (h : ∀ x ∈ xs, 0 ≤ x ∧ x ≤ M) (hM : 0 ≤ M) : ∀ n : Nat, 0 ≤ pairK xs n ∧ pairK xs n ≤ n * (M * M)
  | 0 => by simp [pairK]
  | n + 1 => by
    have h1 := pairK_bd h hM n
    have h2 := mul_bd (getD_bd h hM n) (getD_bd h hM (16 + n))
    rw [pairK_step, Int.natCast_add, Int.natCast_one, Int.add_mul, Int.one_mul]
    omega
end Go.Proofs.YtmkpaolbejlodaaDoor
