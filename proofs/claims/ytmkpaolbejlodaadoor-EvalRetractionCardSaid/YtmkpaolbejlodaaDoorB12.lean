/-
  Texts of this claim, merged: Ev4, Ev5, QP4. Conditions: as each theorem says.
-/
import Derived.Lib.Mul64
import Derived.Laws.Bits64b
import Derived.Shelf.Bits.Mul64
import Derived.Test.YtmkpaolbejlodaaDoorB1
import Derived.Test.YtmkpaolbejlodaaDoorB2
import Derived.Test.YtmkpaolbejlodaaDoorB3
import Derived.Test.YtmkpaolbejlodaaDoorB4
import Derived.Test.YtmkpaolbejlodaaDoorB5
import Derived.Test.YtmkpaolbejlodaaDoorB6
import Derived.Test.YtmkpaolbejlodaaDoorB7
import Derived.Test.YtmkpaolbejlodaaDoorB8
import Derived.Test.YtmkpaolbejlodaaDoorB9
import Derived.Test.YtmkpaolbejlodaaDoorB10
import Derived.Test.YtmkpaolbejlodaaDoorB11
set_option linter.unusedSimpArgs false
set_option linter.unusedVariables false
namespace Go.Proofs.YtmkpaolbejlodaaDoor
open Go.RowKit

def IntsSl (S : Nat → Prop) (w : World) (xs : List Int) (e : Ending) (w' : World) : Prop :=
  ∃ A c, e = .returned (.slice A xs.length c) ∧ Sl .i64 (Fresh S w) w' A c xs ∧ Below w.heap.size w w'
theorem IntsSl.lit1 {S : Nat → Prop} {w wr : World} {x : Int} (hb : Below w.heap.size w wr) : IntsSl S w [x] (.returned (.slice (some ⟨wr.heap.size, 0, none⟩) 1 1)) (wr.alloc (.cells #[.int .i64 x] 2)) :=
  ⟨_, 1, rfl, Sl.ofRow (cs := [.int .i64 x]) (heap_alloc_at rfl) (.single rfl) (.inr hb.size) (by unfold maxLen; simp), hb.alloc hb.size _⟩
/-- Sums from which results are derived: how many, and how great. -/
structure ResOk (q : Qy) (xs : List Int) : Prop where
  l5 : q.kind = 5 ∨ q.kind = 6 → xs.length = 16
  l7 : q.kind = 7 → xs.length = 32
  bd : 5 ≤ q.kind → q.kind ≤ 7 → ∀ x ∈ xs, 0 ≤ x ∧ x ≤ 1000
theorem resOk_sums {q : Qy} (hq : ValidQ q) {l : List Rd} (hl : l.length ≤ 1000) : ResOk q (sumsF q l) := by
  refine ⟨fun h => ?_, fun h => ?_, fun h1 _ x hx => ?_⟩
  · rw [sumsF_len, nSums_16 hq (by omega) (by omega)]
  · rw [sumsF_len, nSums_32 hq h]
  · have := sums_cnt (q := q) (by omega) l x hx; omega
set_option maxRecDepth 100000 in
set_option maxHeartbeats 4000000 in
theorem resultE {q : Qy} {xs : List Int} {A B : Option Addr} {cc d : Nat} {S : Nat → Prop} (w : World) (hr : ResOk q xs) (hxl : xs.length ≤ 1000) (h : Sl .i64 S w B d xs) :
    Calls Tryd.prog 18 #[(.agg #[.int .i64 q.kind, .int .i64 q.col, .int .i64 q.k, .slice A q.fs.length cc]), .slice B xs.length d] w (IntsSl S w (resF q xs)) := by
  have H := Lib.hid h
  have hm := h.max
  have HR := Lib.hid hr
  clear h hr
  by_cases k5 : q.kind = 5
  · have hl := HR.out.l5 (.inl k5)
    have HBD := Lib.hid (HR.out.bd (by omega) (by omega))
    have hres := Lib.hid (show resF q xs = [nzF xs] by unfold resF; rw [if_pos k5])
    rw [hres.out]
    have e5 : (q.kind == 5) = true := by rw [k5]; rfl
    have HL := Lib.hid hl
    clear k5 hl
    go_enter Tryd.func18, Tryd.ntmps18
    go_upto_region 1 with fail
    refine wp_world (F := fun wx => Below w.heap.size w wx ∧ Hid (wx.heap[w.heap.size]? = some (.cells #[.int .i64 q.kind, .int .i64 q.col, .int .i64 q.k, .slice A q.fs.length cc] 24 (0, 0)))) ⟨(by repeat' (first | with_reducible exact Below.refl _ _ | with_reducible assumption | with_reducible refine Below.setCell ?_ ?_ _ | with_reducible refine Below.drew ?_ | with_reducible refine below_drewN ?_ _ | with_reducible refine Below.alloc ?_ ?_ _ | (rintro _ ⟨⟩; simp <;> omega) | omega | (simp <;> omega))), Lib.hid (heap_alloc_at rfl)⟩ ?_
    rintro wr ⟨bb, gq⟩
    obtain ⟨q0, q1, q2, q3⟩ := row4 gq
    have B0 := Lib.hid bb
    have H1 := Lib.hid (H.out.call_ bb)
    clear bb gq
    go_wp2_with fail
    go_loop [5, 17] (fun n i => ∃ j : Nat, j ≤ 16 ∧ i = .int .i64 j ∧ n = .int .i64 (nzF (xs.take j))) (fun _ i => 16 - (intOf i).toNat)
    case atStart => exact ⟨0, Nat.zero_le _, rfl, rfl⟩
    case round =>
      obtain ⟨j, hj, rfl, rfl⟩ := hrel
      have hj0 : (0 : Int) ≤ (j : Int) := by omega
      by_cases hlt : j < 16
      · have hj1 : (j : Int) < (xs.length : Int) := by have := HL.out; omega
        have hj2 : (j : Int) < 16 := by omega
        obtain ⟨x, hx⟩ : ∃ x, xs[j]? = some x := ⟨_, List.getElem?_eq_getElem (by omega)⟩
        obtain ⟨b1, o1, rfl, -, l1, v1⟩ := i64_at H1.out hx
        have HS := Lib.hid (nz_step hx)
        have hn := nz_le (xs.take j)
        have hn2 : (xs.take j).length ≤ j := List.length_take_le _ _
        obtain ⟨z, hz⟩ : ∃ z, nzF (xs.take j) = z := ⟨_, rfl⟩
        rw [hz] at hn ⊢
        have HZ := Lib.hid hz
        clear hx hz
        by_cases h0 : x = 0
        · have hx0 : (x != 0) = false := by simp [h0]
          have HX := Lib.hid h0
          clear h0
          go_wp2_with fail
          go_round
          case rel => exact ⟨j + 1, by omega, by go_num, by rw [HS.out, HZ.out, HX.out]; simp⟩
          case measure => simp [intOf]; omega
        · have hx0 : (x != 0) = true := by simpa using h0
          have HX := Lib.hid h0
          have hw : IntKind.i64.wrap (z + 1) = z + 1 := IntWalk.i64_in _ (by omega)
          clear h0
          go_wp2_with fail
          go_round
          case rel => exact ⟨j + 1, by omega, by go_num, by rw [HS.out, HZ.out, if_neg HX.out]⟩
          case measure => simp [intOf]; omega
      · have hj1 : ¬ (j : Int) < (xs.length : Int) := by have := HL.out; omega
        have hj2 : ¬ (j : Int) < 16 := by omega
        have he := Lib.hid (show xs.take j = xs from List.take_of_length_le (by have := HL.out; omega))
        rw [he.out]
        go_wp2_with fail
        go_ret
        exact IntsSl.lit1 B0.out
  have e5 : (q.kind == 5) = false := beqF k5
  by_cases k6 : q.kind = 6
  · have hl := HR.out.l5 (.inr k6)
    have HBD := Lib.hid (HR.out.bd (by omega) (by omega))
    have hres := Lib.hid (show resF q xs = smallF xs q.k by unfold resF; rw [if_neg k5, if_pos k6])
    rw [hres.out]
    have e6 : (q.kind == 6) = true := by rw [k6]; rfl
    have HL := Lib.hid hl
    clear k5 k6 hl
    go_enter Tryd.func18, Tryd.ntmps18
    go_upto_region 1 with fail
    refine wp_world (F := fun wx => Below w.heap.size w wx ∧ Hid (wx.heap[w.heap.size]? = some (.cells #[.int .i64 q.kind, .int .i64 q.col, .int .i64 q.k, .slice A q.fs.length cc] 24 (0, 0)))) ⟨(by repeat' (first | with_reducible exact Below.refl _ _ | with_reducible assumption | with_reducible refine Below.setCell ?_ ?_ _ | with_reducible refine Below.drew ?_ | with_reducible refine below_drewN ?_ _ | with_reducible refine Below.alloc ?_ ?_ _ | (rintro _ ⟨⟩; simp <;> omega) | omega | (simp <;> omega))), Lib.hid (heap_alloc_at rfl)⟩ ?_
    rintro wr ⟨bb, gq⟩
    obtain ⟨q0, q1, q2, q3⟩ := row4 gq
    have B0 := Lib.hid bb
    have H1 := Lib.hid (H.out.call_ bb)
    clear bb gq
    go_wp2_with fail
    go_loop [5, 32] (fun n i => ∃ j : Nat, j ≤ 16 ∧ i = .int .i64 j ∧ n = .int .i64 ((xs.take j).sum) ∧ Hid (∀ u, u < j → ¬ q.k ≤ (xs.take (u + 1)).sum)) (fun _ i => 16 - (intOf i).toNat)
    case atStart => exact ⟨0, Nat.zero_le _, rfl, rfl, Lib.hid fun u hu => absurd hu (Nat.not_lt_zero _)⟩
    case round =>
      obtain ⟨j, hj, rfl, rfl, HU⟩ := hrel
      have hj0 : (0 : Int) ≤ (j : Int) := by omega
      by_cases hlt : j < 16
      · have hj1 : (j : Int) < (xs.length : Int) := by have := HL.out; omega
        have hj2 : (j : Int) < 16 := by omega
        obtain ⟨x, hx⟩ : ∃ x, xs[j]? = some x := ⟨_, List.getElem?_eq_getElem (by omega)⟩
        obtain ⟨b1, o1, rfl, -, l1, v1⟩ := i64_at H1.out hx
        have HS := Lib.hid (sum_step hx)
        have hx1 := HBD.out x (List.mem_of_getElem? hx)
        have hn := sum_bd (xs := xs.take j) (M := 1000) (fun y hy => HBD.out y (List.mem_of_mem_take hy))
        have hn2 : (xs.take j).length ≤ j := List.length_take_le _ _
        obtain ⟨z, hz⟩ : ∃ z, (xs.take j).sum = z := ⟨_, rfl⟩
        rw [hz] at hn ⊢
        have HZ := Lib.hid hz
        have hw : IntKind.i64.wrap (z + x) = z + x := IntWalk.i64_in _ (by omega)
        clear hx hz hn hx1
        by_cases hk : q.k ≤ z + x
        · have HK := Lib.hid (show smallF xs q.k = [(j : Int)] from small_some (by have := HL.out; omega) (by rw [HS.out, HZ.out]; exact hk) HU.out)
          go_wp2_with fail
          go_ret
          rw [HK.out]
          exact IntsSl.lit1 B0.out
        · have HK := Lib.hid hk
          go_wp2_with fail
          go_round
          case rel => exact ⟨j + 1, by omega, by go_num, by rw [HS.out, HZ.out], Lib.hid fun u hu => by
            rcases Nat.lt_or_eq_of_le (Nat.le_of_lt_succ hu) with h1 | h1
            · exact HU.out u h1
            · rw [h1, HS.out, HZ.out]; exact HK.out⟩
          case measure => simp [intOf]; omega
      · have hj1 : ¬ (j : Int) < (xs.length : Int) := by have := HL.out; omega
        have hj2 : ¬ (j : Int) < 16 := by omega
        have HK := Lib.hid (show smallF xs q.k = [] from small_none fun v hv => HU.out v (by have := HL.out; omega))
        go_wp2_with fail
        go_ret
        rw [HK.out]
        exact ⟨_, 0, rfl, Sl.nil_ _ _ _ _ (Nat.zero_le _), by first | exact B0.out | exact B0.out.alloc B0.out.size _⟩
  have e6 : (q.kind == 6) = false := beqF k6
  by_cases k7 : q.kind = 7
  · have hl := HR.out.l7 k7
    have HBD := Lib.hid (HR.out.bd (by omega) (by omega))
    have hres := Lib.hid (show resF q xs = [pairK xs 16] by unfold resF; rw [if_neg k5, if_neg k6, if_pos k7])
    rw [hres.out]
    have e7 : (q.kind == 7) = true := by rw [k7]; rfl
    have HL := Lib.hid hl
    clear k5 k6 k7 hl
    go_enter Tryd.func18, Tryd.ntmps18
    go_upto_region 1 with fail
    refine wp_world (F := fun wx => Below w.heap.size w wx ∧ Hid (wx.heap[w.heap.size]? = some (.cells #[.int .i64 q.kind, .int .i64 q.col, .int .i64 q.k, .slice A q.fs.length cc] 24 (0, 0)))) ⟨(by repeat' (first | with_reducible exact Below.refl _ _ | with_reducible assumption | with_reducible refine Below.setCell ?_ ?_ _ | with_reducible refine Below.drew ?_ | with_reducible refine below_drewN ?_ _ | with_reducible refine Below.alloc ?_ ?_ _ | (rintro _ ⟨⟩; simp <;> omega) | omega | (simp <;> omega))), Lib.hid (heap_alloc_at rfl)⟩ ?_
    rintro wr ⟨bb, gq⟩
    obtain ⟨q0, q1, q2, q3⟩ := row4 gq
    have B0 := Lib.hid bb
    have H1 := Lib.hid (H.out.call_ bb)
    clear bb gq
    go_wp2_with fail
    go_loopw [5, 49] (fun n i wx => ∃ j : Nat, j ≤ 16 ∧ i = .int .i64 j ∧ n = .int .i64 (pairK xs j) ∧ Hid (Below wr.heap.size wr wx)) (fun _ i _ => 16 - (intOf i).toNat)
    case atStart => exact ⟨0, Nat.zero_le _, rfl, rfl, Lib.hid (Below.refl _ _)⟩
    case round =>
      obtain ⟨j, hj, rfl, rfl, HB⟩ := hrel
      have hj0 : (0 : Int) ≤ (j : Int) := by omega
      by_cases hlt : j < 16
      · have hj1 : (j : Int) < (xs.length : Int) := by have := HL.out; omega
        have hj2 : (j : Int) < 16 := by omega
        obtain ⟨m, hm16⟩ : ∃ m : Nat, 16 + j = m := ⟨_, rfl⟩
        have hmw : wrap64 (16 + (j : Int)) = (m : Int) := by rw [show (16 : Int) + (j : Int) = (m : Int) by omega]; exact IntWalk.wrap64_in _ (by omega)
        have hmw2 : IntKind.i64.wrap (16 + (j : Int)) = (m : Int) := by rw [show (16 : Int) + (j : Int) = (m : Int) by omega]; exact IntWalk.i64_in _ (by omega)
        have hm0 : (0 : Int) ≤ (m : Int) := by omega
        have hm1 : (m : Int) < (xs.length : Int) := by have := HL.out; omega
        obtain ⟨x, hx⟩ : ∃ x, xs[j]? = some x := ⟨_, List.getElem?_eq_getElem (by omega)⟩
        obtain ⟨y, hy⟩ : ∃ y, xs[m]? = some y := ⟨_, List.getElem?_eq_getElem (by omega)⟩
        have H2 := Lib.hid (H1.out.call_ HB.out)
        obtain ⟨b1, o1, rfl, -, l1, v1⟩ := i64_at H2.out hx
        obtain ⟨b1', o1', e1, -, l1', v2⟩ := i64_at H2.out hy
        injection e1 with e1
        injection e1 with e2 e3
        subst e2; subst e3
        have HS := Lib.hid (show pairK xs (j + 1) = pairK xs j + x * y by
          rw [pairK_step, hm16, List.getD_eq_getElem?_getD, List.getD_eq_getElem?_getD, hx, hy]; rfl)
        have hxy := mul_bd (HBD.out x (List.mem_of_getElem? hx)) (HBD.out y (List.mem_of_getElem? hy))
        have hp := pairK_bd HBD.out (by omega) j
        obtain ⟨z, hz⟩ : ∃ z, pairK xs j = z := ⟨_, rfl⟩
        rw [hz] at hp ⊢
        have HZ := Lib.hid hz
        have hw1 : IntKind.i64.wrap (x * y) = x * y := IntWalk.i64_in _ (by omega)
        have hw2 : IntKind.i64.wrap (z + x * y) = z + x * y := IntWalk.i64_in _ (by omega)
        clear hx hy hz hxy hp hm16
        go_wp2_with fail
        go_quiet (fail)
        go_wp2_with fail
        go_roundw
        case rel => exact ⟨j + 1, by omega, by go_num, by rw [HS.out, HZ.out], Lib.hid (below_drewN HB.out _)⟩
        case measure => simp [intOf]; omega
      · have hj2 : ¬ (j : Int) < 16 := by omega
        obtain rfl : j = 16 := by omega
        have B1 := Lib.hid (B0.out.trans (HB.out.mono B0.out.size))
        go_wp2_with fail
        go_ret
        exact IntsSl.lit1 B1.out
  have e7 : (q.kind == 7) = false := beqF k7
  have hres := Lib.hid (show resF q xs = xs by unfold resF; rw [if_neg k5, if_neg k6, if_neg k7])
  rw [hres.out]
  have h63 : xs.length ≤ maxLen := by have h1 := H.out.1; have h2 := H.out.2.1; omega
  clear k5 k6 k7
  go_enter Tryd.func18, Tryd.ntmps18
  go_upto_region 1 with fail
  refine wp_world (F := fun wx => Below w.heap.size w wx ∧ Hid (wx.heap[w.heap.size]? = some (.cells #[.int .i64 q.kind, .int .i64 q.col, .int .i64 q.k, .slice A q.fs.length cc] 24 (0, 0)))) ⟨(by repeat' (first | with_reducible exact Below.refl _ _ | with_reducible assumption | with_reducible refine Below.setCell ?_ ?_ _ | with_reducible refine Below.drew ?_ | with_reducible refine below_drewN ?_ _ | with_reducible refine Below.alloc ?_ ?_ _ | (rintro _ ⟨⟩; simp <;> omega) | omega | (simp <;> omega))), Lib.hid (heap_alloc_at rfl)⟩ ?_
  rintro wr ⟨bb, gq⟩
  obtain ⟨q0, q1, q2, q3⟩ := row4 gq
  have B0 := Lib.hid bb
  have H1 := Lib.hid (H.out.call_ bb)
  clear bb gq
  go_wp2_with (at_builtin; go_must ((refine wpList_append_copy rfl (.tmp 68) (.tmp 69) rfl i64sT i64_flat (ys := xs) (by rfl) (by rfl) rfl (H1.out.alloc_ _) h63 (by omega) ?_; intro A2 c2 w2 hs2 hb2)))
  go_ret
  first
    | exact ⟨A2, c2, rfl, hs2.sub (fun b hb _ => .inr (by have h1 := B0.out.size; simp at hb; omega)), (B0.out.alloc B0.out.size _).trans (hb2.mono (by have h1 := B0.out.size; simp; omega))⟩
    | exact ⟨_, _, rfl, H1.out.sub (fun b hb _ => .inl hb), B0.out⟩
set_option maxRecDepth 100000 in
set_option maxHeartbeats 4000000 in
theorem resultR {q : Qy} {xs : List Int} {A B : Option Addr} {cc d : Nat} {S : Nat → Prop} (w : World) (hr : ResOk q xs) (hxl : xs.length ≤ 1000) (h : Sl .i64 S w B d xs) :
    Calls Tryd.prog 19 #[(.agg #[.int .i64 q.kind, .int .i64 q.col, .int .i64 q.k, .slice A q.fs.length cc]), .slice B xs.length d] w (IntsSl S w (resF q xs)) := by
  have H := Lib.hid h
  have hm := h.max
  have HR := Lib.hid hr
  clear h hr
  by_cases k5 : q.kind = 5
  · have hl := HR.out.l5 (.inl k5)
    have HBD := Lib.hid (HR.out.bd (by omega) (by omega))
    have hres := Lib.hid (show resF q xs = [nzF xs] by unfold resF; rw [if_pos k5])
    rw [hres.out]
    have e5 : (q.kind == 5) = true := by rw [k5]; rfl
    have HL := Lib.hid hl
    clear k5 hl
    go_enter Tryd.func19, Tryd.ntmps19
    go_upto_region 1 with fail
    refine wp_world (F := fun wx => Below w.heap.size w wx ∧ Hid (wx.heap[w.heap.size]? = some (.cells #[.int .i64 q.kind, .int .i64 q.col, .int .i64 q.k, .slice A q.fs.length cc] 24 (0, 0)))) ⟨(by repeat' (first | with_reducible exact Below.refl _ _ | with_reducible assumption | with_reducible refine Below.setCell ?_ ?_ _ | with_reducible refine Below.drew ?_ | with_reducible refine below_drewN ?_ _ | with_reducible refine Below.alloc ?_ ?_ _ | (rintro _ ⟨⟩; simp <;> omega) | omega | (simp <;> omega))), Lib.hid (heap_alloc_at rfl)⟩ ?_
    rintro wr ⟨bb, gq⟩
    obtain ⟨q0, q1, q2, q3⟩ := row4 gq
    have B0 := Lib.hid bb
    have H1 := Lib.hid (H.out.call_ bb)
    clear bb gq
    go_wp2_with fail
    go_loop [5, 6] (fun n i => ∃ j : Nat, j ≤ 16 ∧ i = .int .i64 j ∧ n = .int .i64 (nzF (xs.take j))) (fun _ i => 16 - (intOf i).toNat)
    case atStart => exact ⟨0, Nat.zero_le _, rfl, rfl⟩
    case round =>
      obtain ⟨j, hj, rfl, rfl⟩ := hrel
      have hj0 : (0 : Int) ≤ (j : Int) := by omega
      by_cases hlt : j < 16
      · have hj1 : (j : Int) < (xs.length : Int) := by have := HL.out; omega
        have hj2 : (j : Int) < 16 := by omega
        obtain ⟨x, hx⟩ : ∃ x, xs[j]? = some x := ⟨_, List.getElem?_eq_getElem (by omega)⟩
        obtain ⟨b1, o1, rfl, -, l1, v1⟩ := i64_at H1.out hx
        have HS := Lib.hid (nz_step hx)
        have hn := nz_le (xs.take j)
        have hn2 : (xs.take j).length ≤ j := List.length_take_le _ _
        obtain ⟨z, hz⟩ : ∃ z, nzF (xs.take j) = z := ⟨_, rfl⟩
        rw [hz] at hn ⊢
        have HZ := Lib.hid hz
        clear hx hz
        by_cases h0 : x = 0
        · have hx0 : (x != 0) = false := by simp [h0]
          have HX := Lib.hid h0
          clear h0
          go_wp2_with fail
          go_round
          case rel => exact ⟨j + 1, by omega, by go_num, by rw [HS.out, HZ.out, HX.out]; simp⟩
          case measure => simp [intOf]; omega
        · have hx0 : (x != 0) = true := by simpa using h0
          have HX := Lib.hid h0
          have hw : IntKind.i64.wrap (z + 1) = z + 1 := IntWalk.i64_in _ (by omega)
          clear h0
          go_wp2_with fail
          go_round
          case rel => exact ⟨j + 1, by omega, by go_num, by rw [HS.out, HZ.out, if_neg HX.out]⟩
          case measure => simp [intOf]; omega
      · have hj1 : ¬ (j : Int) < (xs.length : Int) := by have := HL.out; omega
        have hj2 : ¬ (j : Int) < 16 := by omega
        have he := Lib.hid (show xs.take j = xs from List.take_of_length_le (by have := HL.out; omega))
        rw [he.out]
        go_wp2_with fail
        go_ret
        exact IntsSl.lit1 B0.out
  have e5 : (q.kind == 5) = false := beqF k5
  by_cases k6 : q.kind = 6
  · have hl := HR.out.l5 (.inr k6)
    have HBD := Lib.hid (HR.out.bd (by omega) (by omega))
    have hres := Lib.hid (show resF q xs = smallF xs q.k by unfold resF; rw [if_neg k5, if_pos k6])
    rw [hres.out]
    have e6 : (q.kind == 6) = true := by rw [k6]; rfl
    have HL := Lib.hid hl
    clear k5 k6 hl
    go_enter Tryd.func19, Tryd.ntmps19
    go_upto_region 1 with fail
    refine wp_world (F := fun wx => Below w.heap.size w wx ∧ Hid (wx.heap[w.heap.size]? = some (.cells #[.int .i64 q.kind, .int .i64 q.col, .int .i64 q.k, .slice A q.fs.length cc] 24 (0, 0)))) ⟨(by repeat' (first | with_reducible exact Below.refl _ _ | with_reducible assumption | with_reducible refine Below.setCell ?_ ?_ _ | with_reducible refine Below.drew ?_ | with_reducible refine below_drewN ?_ _ | with_reducible refine Below.alloc ?_ ?_ _ | (rintro _ ⟨⟩; simp <;> omega) | omega | (simp <;> omega))), Lib.hid (heap_alloc_at rfl)⟩ ?_
    rintro wr ⟨bb, gq⟩
    obtain ⟨q0, q1, q2, q3⟩ := row4 gq
    have B0 := Lib.hid bb
    have H1 := Lib.hid (H.out.call_ bb)
    clear bb gq
    go_wp2_with fail
    go_loop [7, 8] (fun n i => ∃ j : Nat, j ≤ 16 ∧ i = .int .i64 j ∧ n = .int .i64 ((xs.take j).sum) ∧ Hid (∀ u, u < j → ¬ q.k ≤ (xs.take (u + 1)).sum)) (fun _ i => 16 - (intOf i).toNat)
    case atStart => exact ⟨0, Nat.zero_le _, rfl, rfl, Lib.hid fun u hu => absurd hu (Nat.not_lt_zero _)⟩
    case round =>
      obtain ⟨j, hj, rfl, rfl, HU⟩ := hrel
      have hj0 : (0 : Int) ≤ (j : Int) := by omega
      by_cases hlt : j < 16
      · have hj1 : (j : Int) < (xs.length : Int) := by have := HL.out; omega
        have hj2 : (j : Int) < 16 := by omega
        obtain ⟨x, hx⟩ : ∃ x, xs[j]? = some x := ⟨_, List.getElem?_eq_getElem (by omega)⟩
        obtain ⟨b1, o1, rfl, -, l1, v1⟩ := i64_at H1.out hx
        have HS := Lib.hid (sum_step hx)
        have hx1 := HBD.out x (List.mem_of_getElem? hx)
        have hn := sum_bd (xs := xs.take j) (M := 1000) (fun y hy => HBD.out y (List.mem_of_mem_take hy))
        have hn2 : (xs.take j).length ≤ j := List.length_take_le _ _
        obtain ⟨z, hz⟩ : ∃ z, (xs.take j).sum = z := ⟨_, rfl⟩
        rw [hz] at hn ⊢
        have HZ := Lib.hid hz
        have hw : IntKind.i64.wrap (z + x) = z + x := IntWalk.i64_in _ (by omega)
        clear hx hz hn hx1
        by_cases hk : q.k ≤ z + x
        · have HK := Lib.hid (show smallF xs q.k = [(j : Int)] from small_some (by have := HL.out; omega) (by rw [HS.out, HZ.out]; exact hk) HU.out)
          go_wp2_with fail
          go_ret
          rw [HK.out]
          exact IntsSl.lit1 B0.out
        · have HK := Lib.hid hk
          go_wp2_with fail
          go_round
          case rel => exact ⟨j + 1, by omega, by go_num, by rw [HS.out, HZ.out], Lib.hid fun u hu => by
            rcases Nat.lt_or_eq_of_le (Nat.le_of_lt_succ hu) with h1 | h1
            · exact HU.out u h1
            · rw [h1, HS.out, HZ.out]; exact HK.out⟩
          case measure => simp [intOf]; omega
      · have hj1 : ¬ (j : Int) < (xs.length : Int) := by have := HL.out; omega
        have hj2 : ¬ (j : Int) < 16 := by omega
        have HK := Lib.hid (show smallF xs q.k = [] from small_none fun v hv => HU.out v (by have := HL.out; omega))
        go_wp2_with fail
        go_ret
        rw [HK.out]
        exact ⟨_, 0, rfl, Sl.nil_ _ _ _ _ (Nat.zero_le _), by first | exact B0.out | exact B0.out.alloc B0.out.size _⟩
  have e6 : (q.kind == 6) = false := beqF k6
  by_cases k7 : q.kind = 7
  · have hl := HR.out.l7 k7
    have HBD := Lib.hid (HR.out.bd (by omega) (by omega))
    have hres := Lib.hid (show resF q xs = [pairK xs 16] by unfold resF; rw [if_neg k5, if_neg k6, if_pos k7])
    rw [hres.out]
    have e7 : (q.kind == 7) = true := by rw [k7]; rfl
    have HL := Lib.hid hl
    clear k5 k6 k7 hl
    go_enter Tryd.func19, Tryd.ntmps19
    go_upto_region 1 with fail
    refine wp_world (F := fun wx => Below w.heap.size w wx ∧ Hid (wx.heap[w.heap.size]? = some (.cells #[.int .i64 q.kind, .int .i64 q.col, .int .i64 q.k, .slice A q.fs.length cc] 24 (0, 0)))) ⟨(by repeat' (first | with_reducible exact Below.refl _ _ | with_reducible assumption | with_reducible refine Below.setCell ?_ ?_ _ | with_reducible refine Below.drew ?_ | with_reducible refine below_drewN ?_ _ | with_reducible refine Below.alloc ?_ ?_ _ | (rintro _ ⟨⟩; simp <;> omega) | omega | (simp <;> omega))), Lib.hid (heap_alloc_at rfl)⟩ ?_
    rintro wr ⟨bb, gq⟩
    obtain ⟨q0, q1, q2, q3⟩ := row4 gq
    have B0 := Lib.hid bb
    have H1 := Lib.hid (H.out.call_ bb)
    clear bb gq
    go_wp2_with fail
    go_loopw [9, 10] (fun n i wx => ∃ j : Nat, j ≤ 16 ∧ i = .int .i64 j ∧ n = .int .i64 (pairK xs j) ∧ Hid (Below wr.heap.size wr wx)) (fun _ i _ => 16 - (intOf i).toNat)
    case atStart => exact ⟨0, Nat.zero_le _, rfl, rfl, Lib.hid (Below.refl _ _)⟩
    case round =>
      obtain ⟨j, hj, rfl, rfl, HB⟩ := hrel
      have hj0 : (0 : Int) ≤ (j : Int) := by omega
      by_cases hlt : j < 16
      · have hj1 : (j : Int) < (xs.length : Int) := by have := HL.out; omega
        have hj2 : (j : Int) < 16 := by omega
        obtain ⟨m, hm16⟩ : ∃ m : Nat, 16 + j = m := ⟨_, rfl⟩
        have hmw : wrap64 (16 + (j : Int)) = (m : Int) := by rw [show (16 : Int) + (j : Int) = (m : Int) by omega]; exact IntWalk.wrap64_in _ (by omega)
        have hmw2 : IntKind.i64.wrap (16 + (j : Int)) = (m : Int) := by rw [show (16 : Int) + (j : Int) = (m : Int) by omega]; exact IntWalk.i64_in _ (by omega)
        have hm0 : (0 : Int) ≤ (m : Int) := by omega
        have hm1 : (m : Int) < (xs.length : Int) := by have := HL.out; omega
        obtain ⟨x, hx⟩ : ∃ x, xs[j]? = some x := ⟨_, List.getElem?_eq_getElem (by omega)⟩
        obtain ⟨y, hy⟩ : ∃ y, xs[m]? = some y := ⟨_, List.getElem?_eq_getElem (by omega)⟩
        have H2 := Lib.hid (H1.out.call_ HB.out)
        obtain ⟨b1, o1, rfl, -, l1, v1⟩ := i64_at H2.out hx
        obtain ⟨b1', o1', e1, -, l1', v2⟩ := i64_at H2.out hy
        injection e1 with e1
        injection e1 with e2 e3
        subst e2; subst e3
        have HS := Lib.hid (show pairK xs (j + 1) = pairK xs j + x * y by
          rw [pairK_step, hm16, List.getD_eq_getElem?_getD, List.getD_eq_getElem?_getD, hx, hy]; rfl)
        have hxy := mul_bd (HBD.out x (List.mem_of_getElem? hx)) (HBD.out y (List.mem_of_getElem? hy))
        have hp := pairK_bd HBD.out (by omega) j
        obtain ⟨z, hz⟩ : ∃ z, pairK xs j = z := ⟨_, rfl⟩
        rw [hz] at hp ⊢
        have HZ := Lib.hid hz
        have hw1 : IntKind.i64.wrap (x * y) = x * y := IntWalk.i64_in _ (by omega)
        have hw2 : IntKind.i64.wrap (z + x * y) = z + x * y := IntWalk.i64_in _ (by omega)
        clear hx hy hz hxy hp hm16
        go_wp2_with fail
        go_quiet (fail)
        go_wp2_with fail
        go_roundw
        case rel => exact ⟨j + 1, by omega, by go_num, by rw [HS.out, HZ.out], Lib.hid (below_drewN HB.out _)⟩
        case measure => simp [intOf]; omega
      · have hj2 : ¬ (j : Int) < 16 := by omega
        obtain rfl : j = 16 := by omega
        have B1 := Lib.hid (B0.out.trans (HB.out.mono B0.out.size))
        go_wp2_with fail
        go_ret
        exact IntsSl.lit1 B1.out
  have e7 : (q.kind == 7) = false := beqF k7
  have hres := Lib.hid (show resF q xs = xs by unfold resF; rw [if_neg k5, if_neg k6, if_neg k7])
  rw [hres.out]
  have h63 : xs.length ≤ maxLen := by have h1 := H.out.1; have h2 := H.out.2.1; omega
  clear k5 k6 k7
  go_enter Tryd.func19, Tryd.ntmps19
  go_upto_region 1 with fail
  refine wp_world (F := fun wx => Below w.heap.size w wx ∧ Hid (wx.heap[w.heap.size]? = some (.cells #[.int .i64 q.kind, .int .i64 q.col, .int .i64 q.k, .slice A q.fs.length cc] 24 (0, 0)))) ⟨(by repeat' (first | with_reducible exact Below.refl _ _ | with_reducible assumption | with_reducible refine Below.setCell ?_ ?_ _ | with_reducible refine Below.drew ?_ | with_reducible refine below_drewN ?_ _ | with_reducible refine Below.alloc ?_ ?_ _ | (rintro _ ⟨⟩; simp <;> omega) | omega | (simp <;> omega))), Lib.hid (heap_alloc_at rfl)⟩ ?_
  rintro wr ⟨bb, gq⟩
  obtain ⟨q0, q1, q2, q3⟩ := row4 gq
  have B0 := Lib.hid bb
  have H1 := Lib.hid (H.out.call_ bb)
  clear bb gq
  go_wp2_with (at_builtin; go_must ((refine wpList_append_copy rfl (.tmp 68) (.tmp 69) rfl i64sT i64_flat (ys := xs) (by rfl) (by rfl) rfl (H1.out.alloc_ _) h63 (by omega) ?_; intro A2 c2 w2 hs2 hb2)))
  go_ret
  first
    | exact ⟨A2, c2, rfl, hs2.sub (fun b hb _ => .inr (by have h1 := B0.out.size; simp at hb; omega)), (B0.out.alloc B0.out.size _).trans (hb2.mono (by have h1 := B0.out.size; simp; omega))⟩
    | exact ⟨_, _, rfl, H1.out.sub (fun b hb _ => .inl hb), B0.out⟩
end Go.Proofs.YtmkpaolbejlodaaDoor
namespace Go.Proofs.YtmkpaolbejlodaaDoor
open Go.RowKit

theorem fld_field (r : Rd) (c : Nat) : fldI r (c : Int) = fieldF r c := by
  unfold fldI fieldF
  by_cases h0 : c = 0
  · rw [if_pos h0, if_pos (by omega)]
  · rw [if_neg h0, if_neg (by omega)]
    by_cases h1 : c = 1
    · rw [if_pos h1, if_pos (by omega)]
    · rw [if_neg h1, if_neg (by omega)]
      by_cases h2 : c = 2
      · rw [if_pos h2, if_pos (by omega)]
      · rw [if_neg h2, if_neg (by omega)]
theorem fieldI {r : Rd} {col : Int} (w : World) (h0 : 0 ≤ col) : Calls Tryd.prog 24 #[(.agg #[.int .i64 r.who, .int .i64 r.whn, .int .i64 r.knd, .int .i64 r.val]), .int .i64 col] w fun e w' => e = .returned (.int .i64 (fldI r col)) ∧ Below w.heap.size w w' := by
  obtain ⟨c, rfl⟩ : ∃ c : Nat, col = c := ⟨col.toNat, by omega⟩
  rw [fld_field]
  exact fieldRef r c w
def q4F (col : Int) (f : List Cd) : Qy := ⟨4, col, 0, [f]⟩
theorem q4_valid {col : Int} {f : List Cd} (hc : 0 ≤ col ∧ col ≤ 3) (hf : ValidFlt f) : ValidQ (q4F col f) :=
  ⟨⟨⟨(by decide : (1 : Int) ≤ 4), (by decide : (4 : Int) ≤ 7)⟩, hc, .inr ⟨(by decide : (2 : Int) ≤ 4), (by decide : (4 : Int) ≤ 6)⟩, Int.le_refl _, Int.le_refl _, fun h => by
      have h1 : (4 : Int) = 3 ∨ (4 : Int) = 6 := h
      omega, rfl⟩, fun l hl => by
    have h1 : l ∈ [f] := hl
    simp at h1; subst h1; exact hf⟩
theorem q4_narrow {col : Int} {f : List Cd} (h : col = 0 ∨ col = 2) : wideB (q4F col f) = false := by
  refine decide_eq_false fun hh => ?_
  have h2 : 4 < bitsC col := hh.2.2
  rcases h with h | h <;> rw [h] at h2 <;> exact absurd h2 (by decide)
/-- The sums of a query that counts. -/
theorem sums_cnt4 {q : Qy} (hq : ValidQ q) (h4 : 4 ≤ q.kind) (h6 : q.kind ≤ 6) (l : List Rd) : sumsF q l = sumsF (q4F q.col (fl q 0)) l := by
  have hn : nSums q = nSums (q4F q.col (fl q 0)) := by rw [nSums_16 hq (by omega) h6]; rfl
  unfold sumsF
  rw [hn]
  refine List.map_congr_left fun v _ => ?_
  unfold totalF
  congr 1
  refine List.map_congr_left fun r _ => ?_
  have e1 : filtF q v = fl q 0 := by unfold filtF; rw [if_neg (by omega)]
  have e2 : unitF q v r = if fldI r q.col = ((v % 16 : Nat) : Int) then 1 else 0 := by
    unfold unitF colQ
    rw [if_neg (show ¬ q.kind = 1 by omega), if_neg (show ¬ q.kind = 2 by omega), if_neg (show ¬ q.kind = 3 by omega), if_neg (show ¬ q.kind = 7 by omega)]
  show termF q v r = if matchB (fl q 0) r then (if fldI r q.col = ((v % 16 : Nat) : Int) then 1 else 0) else 0
  unfold termF
  rw [e1, e2]
theorem sums_pair {q : Qy} (hq : ValidQ q) (h7 : q.kind = 7) (l : List Rd) : sumsF q l = sumsF (q4F 0 (fl q 0)) l ++ sumsF (q4F 0 (fl q 1)) l := by
  have hn : nSums q = 32 := nSums_32 hq h7
  have h16 : ∀ f, nSums (q4F 0 f) = 16 := fun _ => rfl
  have key : ∀ v r, termF q v r = if matchB (fl q (v / 16)) r then (if fldI r 0 = ((v % 16 : Nat) : Int) then 1 else 0) else 0 := fun v r => by
    have e1 : filtF q v = fl q (v / 16) := by unfold filtF; rw [if_pos h7]
    have e2 : unitF q v r = if fldI r 0 = ((v % 16 : Nat) : Int) then 1 else 0 := by
      unfold unitF colQ
      rw [if_neg (show ¬ q.kind = 1 by omega), if_neg (show ¬ q.kind = 2 by omega), if_neg (show ¬ q.kind = 3 by omega), if_pos h7]
    unfold termF
    rw [e1, e2]
  refine List.ext_getElem? fun v => ?_
  by_cases h1 : v < 16
  · rw [sumsF_get (by omega), List.getElem?_append_left (by rw [sumsF_len, h16]; exact h1), sumsF_get (by rw [h16]; exact h1)]
    congr 1
    unfold totalF
    congr 1
    refine List.map_congr_left fun r _ => ?_
    rw [key, show v / 16 = 0 from by omega]
    rfl
  · by_cases h2 : v < 32
    · rw [sumsF_get (by omega), List.getElem?_append_right (by rw [sumsF_len, h16]; omega), sumsF_len, h16, sumsF_get (by rw [h16]; omega)]
      congr 1
      unfold totalF
      congr 1
      refine List.map_congr_left fun r _ => ?_
      rw [key, show v / 16 = 1 from by omega, show v % 16 = (v - 16) % 16 from by omega]
      rfl
    · rw [List.getElem?_eq_none (by rw [sumsF_len]; omega), List.getElem?_eq_none (by rw [List.length_append, sumsF_len, sumsF_len, h16, h16]; omega)]
set_option maxRecDepth 100000 in
set_option maxHeartbeats 4000000 in
theorem countsR {l : List Rd} {f : List Cd} {col : Int} {A B : Option Addr} {c d : Nat} {S T : Nat → Prop} (w : World) (hl : Sl rdE S w A c l) (hf : Sl cdE T w B d f) (hv : ∀ r ∈ l, ValidR r) (hfl : ValidFlt f) (hcol : col = 0 ∨ col = 2) (h1000 : l.length ≤ 1000) :
    Calls Tryd.prog 38 #[.slice A l.length c, .slice B f.length d, .int .i64 col] w (IntsRes w (sumsF (q4F col f) l)) := by
  have HQ := Lib.hid (q4_valid (f := f) (show 0 ≤ col ∧ col ≤ 3 by omega) hfl)
  have HN := Lib.hid (q4_narrow (f := f) hcol)
  have HL := Lib.hid hl
  have HF := Lib.hid hf
  have HV := Lib.hid hv
  have HX := Lib.hid hfl.2
  have HK := Lib.hid (show nSums (q4F col f) = 16 from rfl)
  have hc0 : 0 ≤ col := by omega
  have HC := Lib.hid hcol
  clear hl hf hv hfl hcol
  go_enter Tryd.func38, Tryd.ntmps38
  go_wp2_with (at_make; go_must ((refine wpList_make_i64 _ rfl (.const (.int .i64 16)) (.const (.int .i64 16)) rfl (n := 16) (by rfl) (by rfl) (by omega) ?_; intro w1 hown1 hg1)))
  have O1 := Lib.hid (show Own .i64 (fun _ => False) w1 w.heap.size 2 (.slice (some ⟨w.heap.size, 0, none⟩) 16 16) (accE (q4F col f) l 0 0) by rw [acc_zero, HK.out]; exact hown1)
  have B1 := Lib.hid ((Below.refl w.heap.size w).grown hg1 (Nat.le_refl _) (by rintro k ⟨⟩))
  clear hown1 hg1
  go_loopw [8] (fun i wr => ∃ j : Nat, j ≤ l.length ∧ i = .int .i64 j ∧ Hid (Own .i64 (fun _ => False) wr w.heap.size 2 (.slice (some ⟨w.heap.size, 0, none⟩) 16 16) (accE (q4F col f) l 0 j)) ∧ Hid (Below w.heap.size w wr)) (fun i _ => l.length - (intOf i).toNat)
  case atStart => exact ⟨0, Nat.zero_le _, rfl, O1, B1⟩
  case round =>
    obtain ⟨j, hj, rfl, HO, HB⟩ := hrel
    have hj0 : (0 : Int) ≤ (j : Int) := by omega
    by_cases hlt : j < l.length
    · have hj1 : (j : Int) < (l.length : Int) := by omega
      obtain ⟨r, hr⟩ : ∃ r, l[j]? = some r := ⟨_, List.getElem?_eq_getElem hlt⟩
      obtain ⟨b2, o2, rfl, -, hb2, x0, x1, x2, x3⟩ := rd_at (HL.out.keep (Below.agree HB.out)) hr
      have hv := HV.out r (List.mem_of_getElem? hr)
      have HS := Lib.hid (acc_step (i := 0) HQ.out HN.out hr hv (show 0 < nFilF 4 by decide))
      have HAB := Lib.hid (fun m => getD_bd (acc_bd HQ.out HV.out h1000 0 j) (by decide) m)
      have hm := fldI_bd hv col
      have hm15 : maxC col = 15 := by unfold maxC; rw [if_pos HC.out]
      obtain ⟨m, hmm⟩ : ∃ m : Nat, fldI r col = m := ⟨(fldI r col).toNat, by omega⟩
      have hm16 : m < 16 := by omega
      have hm0 : (0 : Int) ≤ (m : Int) := by omega
      have hm1 : (m : Int) < 16 := by omega
      have HM := Lib.hid hmm
      have HF0 := Lib.hid (show fl (q4F col f) 0 = f from rfl)
      clear hr hv hm hm15 hmm
      cases hmb : matchB f r with
      | false =>
        have HMB := Lib.hid hmb
        clear hmb
        go_wp2_with (go_at_call 23; refine (matchRef (l := f) (r := r) _ (HF.out.keep (Below.agree HB.out)) HX.out).mono ?_; rw [HMB.out]; rintro e wM ⟨rfl, hM⟩; obtain ⟨hcM, hfM⟩ := bcell hM; have HM2 := Lib.hid hM; clear hM)
        go_roundw
        case rel => exact ⟨j + 1, by omega, by go_num, by rw [HS.out, HF0.out, HMB.out]; exact Lib.hid (HO.out.call HM2.out), Lib.hid (HB.out.trans (HM2.out.mono HB.out.size))⟩
        case measure => simp [intOf]; omega
      | true =>
        have HMB := Lib.hid hmb
        clear hmb
        obtain ⟨x, hx⟩ : ∃ x, (accE (q4F col f) l 0 j).getD m 0 = x := ⟨_, rfl⟩
        have hxb := HAB.out m
        rw [hx] at hxb
        have hw : IntKind.i64.wrap (x + 1) = x + 1 := IntWalk.i64_in _ (by omega)
        have HA := Lib.hid (addE_5 (q := q4F col f) (i := 0) (xs := accE (q4F col f) l 0 j) (r := r) (show (4 : Int) ≤ 4 by decide) (show (4 : Int) ≤ 6 by decide) HM.out)
        have HXX := Lib.hid hx
        clear hx
        go_wp2_with (first
          | (go_at_call 23; refine (matchRef (l := f) (r := r) _ (HF.out.keep (Below.agree HB.out)) HX.out).mono ?_; rw [HMB.out]; rintro e wM ⟨rfl, hM⟩; obtain ⟨hcM, hfM⟩ := bcell hM; have HM2 := Lib.hid hM; clear hM)
          | (go_at_call 24; refine (fieldI (r := r) _ hc0).mono ?_; rw [HM.out]; rintro e wF ⟨rfl, hF⟩; have OF := Lib.hid ((HO.out.call HM2.out).call hF); have v0 := i64_cell (k := m) OF.out (by rw [accE_len, HK.out]; exact hm16); rw [HXX.out] at v0; have fk := OF.out.frozen m; have lk := (OF.out.lt w.heap.size rfl).2; have HF2 := Lib.hid (HB.out.trans ((HM2.out.trans (hF.mono HM2.out.size)).mono HB.out.size)); clear hF))
        go_roundw
        case rel => exact ⟨j + 1, by omega, by go_num, by rw [HS.out, HF0.out, if_pos HMB.out, HA.out, HXX.out]; exact Lib.hid (i64_store OF.out _), Lib.hid (HF2.out.setCell (by simp) _)⟩
        case measure => simp [intOf]; omega
    · have hj1 : ¬ (j : Int) < (l.length : Int) := by omega
      obtain rfl : j = l.length := by omega
      have HA := Lib.hid (show accE (q4F col f) l 0 l.length = sumsF (q4F col f) l from (acc_next (q := q4F col f) (l := l) (i := 0) (show 0 < nFilF 4 by decide)).trans (acc_done HQ.out l))
      go_wp2_with fail
      go_ret
      have hd := HO.out
      rw [HA.out] at hd
      have e := (sumsF_len (q4F col f) l).trans HK.out
      refine ⟨some ⟨w.heap.size, 0, none⟩, 16, ?_, ?_, HB.out⟩
      · exact (show Ending.returned (Value.slice (some ⟨w.heap.size, 0, none⟩) 16 16) = Ending.returned (Value.slice (some ⟨w.heap.size, 0, none⟩) (sumsF (q4F col f) l).length 16) by rw [e])
      · rw [e]; exact hd
end Go.Proofs.YtmkpaolbejlodaaDoor
namespace Go.Proofs.YtmkpaolbejlodaaDoor
open Go.RowKit

theorem fs_pos {x : Qy} (h : ValidQ x) : 0 < x.fs.length := by rw [h.head.2.2.2.2.2.2]; unfold nFilF; split <;> omega
end Go.Proofs.YtmkpaolbejlodaaDoor
