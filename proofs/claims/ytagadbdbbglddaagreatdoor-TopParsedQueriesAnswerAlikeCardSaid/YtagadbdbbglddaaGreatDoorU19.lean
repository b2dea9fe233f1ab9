/-
  Texts of this claim, merged: Ev4, Ev6, Q18. Conditions: as each theorem says.
-/
import Derived.Test.YtagadbdbbglddaaGreatDoorU1
import Derived.Test.YtagadbdbbglddaaGreatDoorU2
import Derived.Test.YtagadbdbbglddaaGreatDoorU3
import Derived.Test.YtagadbdbbglddaaGreatDoorU4
import Derived.Test.YtagadbdbbglddaaGreatDoorU5
import Derived.Test.YtagadbdbbglddaaGreatDoorU6
import Derived.Test.YtagadbdbbglddaaGreatDoorU7
import Derived.Test.YtagadbdbbglddaaGreatDoorU8
import Derived.Test.YtagadbdbbglddaaGreatDoorU9
import Derived.Test.YtagadbdbbglddaaGreatDoorU10
import Derived.Test.YtagadbdbbglddaaGreatDoorU11
import Derived.Test.YtagadbdbbglddaaGreatDoorU12
import Derived.Test.YtagadbdbbglddaaGreatDoorU13
import Derived.Test.YtagadbdbbglddaaGreatDoorU14
import Derived.Test.YtagadbdbbglddaaGreatDoorU15
import Derived.Test.YtagadbdbbglddaaGreatDoorU16
import Derived.Test.YtagadbdbbglddaaGreatDoorU17
import Derived.Test.YtagadbdbbglddaaGreatDoorU18
set_option linter.unusedSimpArgs false
set_option linter.unusedVariables false
namespace Go.Proofs.YtagadbdbbglddaaGreatDoor
open Go.RowKit

def IntsSl (S : Nat → Prop) (w : World) (xs : List Int) (e : Ending) (w' : World) : Prop :=
  ∃ A c, e = .returned (.slice A xs.length c) ∧ Sl .i64 (Fresh S w) w' A c xs ∧ Below w.heap.size w w'
theorem IntsSl.lit1 {S : Nat → Prop} {w wr : World} {x : Int} (hb : Below w.heap.size w wr) : IntsSl S w [x] (.returned (.slice (some ⟨wr.heap.size, 0, none⟩) 1 1)) (wr.alloc (.cells #[.int .i64 x] 2)) :=
  ⟨_, 1, rfl, Sl.ofRow (cs := [.int .i64 x]) (heap_alloc_at rfl) (.single rfl) (.inr hb.size) (by unfold maxLen; simp), hb.alloc hb.size _⟩
/-- Sums from which results are derived: how many, and how great. -/
structure ResOk (q : Qy) (xs : List Int) : Prop where
  l5 : q.kind = 5 ∨ q.kind = 6 → xs.length = 16
  l7 : q.kind = 7 → xs.length = 32
  bd : 5 ≤ q.kind → q.kind ≤ 7 → ∀ x ∈ xs, 0 ≤ x ∧ x ≤ 1000
theorem resOk_sums {q : Qy} (hq : ValidQ q) {l : List Rd} (hl : l.length ≤ 1000) : ResOk q (sumsF q l) := by
  refine ⟨fun h => ?_, fun h => ?_, fun h1 _ x hx => ?_⟩
  · rw [sumsF_len, nSums_16 hq (by omega) (by omega)]
  · rw [sumsF_len, nSums_32 hq h]
  · have := sums_cnt (q := q) (by omega) l x hx; omega
set_option maxRecDepth 100000 in
set_option maxHeartbeats 4000000 in
theorem resultE {q : Qy} {xs : List Int} {A B : Option Addr} {cc d : Nat} {S : Nat → Prop} (w : World) (hr : ResOk q xs) (hxl : xs.length ≤ 1000) (h : Sl .i64 S w B d xs) :
    Calls Tryz.prog 35 #[(.agg #[.int .i64 q.kind, .int .i64 q.col, .int .i64 q.k, .slice A q.fs.length cc]), .slice B xs.length d] w (IntsSl S w (resF q xs)) := by
  have H := Lib.hid h
  have hm := h.max
  have HR := Lib.hid hr
  clear h hr
  by_cases k5 : q.kind = 5
  · have hl := HR.out.l5 (.inl k5)
    have HBD := Lib.hid (HR.out.bd (by omega) (by omega))
    have hres := Lib.hid (show resF q xs = [nzF xs] by unfold resF; rw [if_pos k5])
    rw [hres.out]
    have e5 : (q.kind == 5) = true := by rw [k5]; rfl
    have HL := Lib.hid hl
    clear k5 hl
    go_enter Tryz.func35, Tryz.ntmps35
    go_upto_region 1 with fail
    refine wp_world (F := fun wx => Below w.heap.size w wx ∧ Hid (wx.heap[w.heap.size]? = some (.cells #[.int .i64 q.kind, .int .i64 q.col, .int .i64 q.k, .slice A q.fs.length cc] 24 (0, 0)))) ⟨(by repeat' (first | with_reducible exact Below.refl _ _ | with_reducible assumption | with_reducible refine Below.setCell ?_ ?_ _ | with_reducible refine Below.drew ?_ | with_reducible refine below_drewN ?_ _ | with_reducible refine Below.alloc ?_ ?_ _ | (rintro _ ⟨⟩; simp <;> omega) | omega | (simp <;> omega))), Lib.hid (heap_alloc_at rfl)⟩ ?_
    rintro wr ⟨bb, gq⟩
    obtain ⟨q0, q1, q2, q3⟩ := row4 gq
    have B0 := Lib.hid bb
    have H1 := Lib.hid (H.out.call_ bb)
    clear bb gq
    go_wp2_with fail
    go_loop [5, 17] (fun n i => ∃ j : Nat, j ≤ 16 ∧ i = .int .i64 j ∧ n = .int .i64 (nzF (xs.take j))) (fun _ i => 16 - (intOf i).toNat)
    case atStart => exact ⟨0, Nat.zero_le _, rfl, rfl⟩
    case round =>
      obtain ⟨j, hj, rfl, rfl⟩ := hrel
      have hj0 : (0 : Int) ≤ (j : Int) := by omega
      by_cases hlt : j < 16
      · have hj1 : (j : Int) < (xs.length : Int) := by have := HL.out; omega
        have hj2 : (j : Int) < 16 := by omega
        obtain ⟨x, hx⟩ : ∃ x, xs[j]? = some x := ⟨_, List.getElem?_eq_getElem (by omega)⟩
        obtain ⟨b1, o1, rfl, -, l1, v1⟩ := i64_at H1.out hx
        have HS := Lib.hid (nz_step hx)
        have hn := nz_le (xs.take j)
        have hn2 : (xs.take j).length ≤ j := List.length_take_le _ _
        obtain ⟨z, hz⟩ : ∃ z, nzF (xs.take j) = z := ⟨_, rfl⟩
        rw [hz] at hn ⊢
        have HZ := Lib.hid hz
        clear hx hz
        by_cases h0 : x = 0
        · have hx0 : (x != 0) = false := by simp [h0]
          have HX := Lib.hid h0
          clear h0
          go_wp2_with fail
          go_round
          case rel => exact ⟨j + 1, by omega, by go_num, by rw [HS.out, HZ.out, HX.out]; simp⟩
          case measure => simp [intOf]; omega
        · have hx0 : (x != 0) = true := by simpa using h0
          have HX := Lib.hid h0
          have hw : IntKind.i64.wrap (z + 1) = z + 1 := IntWalk.i64_in _ (by omega)
          clear h0
          go_wp2_with fail
          go_round
          case rel => exact ⟨j + 1, by omega, by go_num, by rw [HS.out, HZ.out, if_neg HX.out]⟩
          case measure => simp [intOf]; omega
      · have hj1 : ¬ (j : Int) < (xs.length : Int) := by have := HL.out; omega
        have hj2 : ¬ (j : Int) < 16 := by omega
        have he := Lib.hid (show xs.take j = xs from List.take_of_length_le (by have := HL.out; omega))
        rw [he.out]
        go_wp2_with fail
        go_ret
        exact IntsSl.lit1 B0.out
  have e5 : (q.kind == 5) = false := beqF k5
  by_cases k6 : q.kind = 6
  · have hl := HR.out.l5 (.inr k6)
    have HBD := Lib.hid (HR.out.bd (by omega) (by omega))
    have hres := Lib.hid (show resF q xs = smallF xs q.k by unfold resF; rw [if_neg k5, if_pos k6])
    rw [hres.out]
    have e6 : (q.kind == 6) = true := by rw [k6]; rfl
    have HL := Lib.hid hl
    clear k5 k6 hl
    go_enter Tryz.func35, Tryz.ntmps35
    go_upto_region 1 with fail
    refine wp_world (F := fun wx => Below w.heap.size w wx ∧ Hid (wx.heap[w.heap.size]? = some (.cells #[.int .i64 q.kind, .int .i64 q.col, .int .i64 q.k, .slice A q.fs.length cc] 24 (0, 0)))) ⟨(by repeat' (first | with_reducible exact Below.refl _ _ | with_reducible assumption | with_reducible refine Below.setCell ?_ ?_ _ | with_reducible refine Below.drew ?_ | with_reducible refine below_drewN ?_ _ | with_reducible refine Below.alloc ?_ ?_ _ | (rintro _ ⟨⟩; simp <;> omega) | omega | (simp <;> omega))), Lib.hid (heap_alloc_at rfl)⟩ ?_
    rintro wr ⟨bb, gq⟩
    obtain ⟨q0, q1, q2, q3⟩ := row4 gq
    have B0 := Lib.hid bb
    have H1 := Lib.hid (H.out.call_ bb)
    clear bb gq
    go_wp2_with fail
    go_loop [5, 32] (fun n i => ∃ j : Nat, j ≤ 16 ∧ i = .int .i64 j ∧ n = .int .i64 ((xs.take j).sum) ∧ Hid (∀ u, u < j → ¬ q.k ≤ (xs.take (u + 1)).sum)) (fun _ i => 16 - (intOf i).toNat)
    case atStart => exact ⟨0, Nat.zero_le _, rfl, rfl, Lib.hid fun u hu => absurd hu (Nat.not_lt_zero _)⟩
    case round =>
      obtain ⟨j, hj, rfl, rfl, HU⟩ := hrel
      have hj0 : (0 : Int) ≤ (j : Int) := by omega
      by_cases hlt : j < 16
      · have hj1 : (j : Int) < (xs.length : Int) := by have := HL.out; omega
        have hj2 : (j : Int) < 16 := by omega
        obtain ⟨x, hx⟩ : ∃ x, xs[j]? = some x := ⟨_, List.getElem?_eq_getElem (by omega)⟩
        obtain ⟨b1, o1, rfl, -, l1, v1⟩ := i64_at H1.out hx
        have HS := Lib.hid (sum_step hx)
        have hx1 := HBD.out x (List.mem_of_getElem? hx)
        have hn := sum_bd (xs := xs.take j) (M := 1000) (fun y hy => HBD.out y (List.mem_of_mem_take hy))
        have hn2 : (xs.take j).length ≤ j := List.length_take_le _ _
        obtain ⟨z, hz⟩ : ∃ z, (xs.take j).sum = z := ⟨_, rfl⟩
        rw [hz] at hn ⊢
        have HZ := Lib.hid hz
        have hw : IntKind.i64.wrap (z + x) = z + x := IntWalk.i64_in _ (by omega)
        clear hx hz hn hx1
        by_cases hk : q.k ≤ z + x
        · have HK := Lib.hid (show smallF xs q.k = [(j : Int)] from small_some (by have := HL.out; omega) (by rw [HS.out, HZ.out]; exact hk) HU.out)
          go_wp2_with fail
          go_ret
          rw [HK.out]
          exact IntsSl.lit1 B0.out
        · have HK := Lib.hid hk
          go_wp2_with fail
          go_round
          case rel => exact ⟨j + 1, by omega, by go_num, by rw [HS.out, HZ.out], Lib.hid fun u hu => by
            rcases Nat.lt_or_eq_of_le (Nat.le_of_lt_succ hu) with h1 | h1
            · exact HU.out u h1
            · rw [h1, HS.out, HZ.out]; exact HK.out⟩
          case measure => simp [intOf]; omega
      · have hj1 : ¬ (j : Int) < (xs.length : Int) := by have := HL.out; omega
        have hj2 : ¬ (j : Int) < 16 := by omega
        have HK := Lib.hid (show smallF xs q.k = [] from small_none fun v hv => HU.out v (by have := HL.out; omega))
        go_wp2_with fail
        go_ret
        rw [HK.out]
        exact ⟨_, 0, rfl, Sl.nil_ _ _ _ _ (Nat.zero_le _), by first | exact B0.out | exact B0.out.alloc B0.out.size _⟩
  have e6 : (q.kind == 6) = false := beqF k6
  by_cases k7 : q.kind = 7
  · have hl := HR.out.l7 k7
    have HBD := Lib.hid (HR.out.bd (by omega) (by omega))
    have hres := Lib.hid (show resF q xs = [pairK xs 16] by unfold resF; rw [if_neg k5, if_neg k6, if_pos k7])
    rw [hres.out]
    have e7 : (q.kind == 7) = true := by rw [k7]; rfl
    have HL := Lib.hid hl
    clear k5 k6 k7 hl
    go_enter Tryz.func35, Tryz.ntmps35
    go_upto_region 1 with fail
    refine wp_world (F := fun wx => Below w.heap.size w wx ∧ Hid (wx.heap[w.heap.size]? = some (.cells #[.int .i64 q.kind, .int .i64 q.col, .int .i64 q.k, .slice A q.fs.length cc] 24 (0, 0)))) ⟨(by repeat' (first | with_reducible exact Below.refl _ _ | with_reducible assumption | with_reducible refine Below.setCell ?_ ?_ _ | with_reducible refine Below.drew ?_ | with_reducible refine below_drewN ?_ _ | with_reducible refine Below.alloc ?_ ?_ _ | (rintro _ ⟨⟩; simp <;> omega) | omega | (simp <;> omega))), Lib.hid (heap_alloc_at rfl)⟩ ?_
    rintro wr ⟨bb, gq⟩
    obtain ⟨q0, q1, q2, q3⟩ := row4 gq
    have B0 := Lib.hid bb
    have H1 := Lib.hid (H.out.call_ bb)
    clear bb gq
    go_wp2_with fail
    go_loopw [5, 49] (fun n i wx => ∃ j : Nat, j ≤ 16 ∧ i = .int .i64 j ∧ n = .int .i64 (pairK xs j) ∧ Hid (Below wr.heap.size wr wx)) (fun _ i _ => 16 - (intOf i).toNat)
    case atStart => exact ⟨0, Nat.zero_le _, rfl, rfl, Lib.hid (Below.refl _ _)⟩
    case round =>
      obtain ⟨j, hj, rfl, rfl, HB⟩ := hrel
      have hj0 : (0 : Int) ≤ (j : Int) := by omega
      by_cases hlt : j < 16
      · have hj1 : (j : Int) < (xs.length : Int) := by have := HL.out; omega
        have hj2 : (j : Int) < 16 := by omega
        obtain ⟨m, hm16⟩ : ∃ m : Nat, 16 + j = m := ⟨_, rfl⟩
        have hmw : wrap64 (16 + (j : Int)) = (m : Int) := by rw [show (16 : Int) + (j : Int) = (m : Int) by omega]; exact IntWalk.wrap64_in _ (by omega)
        have hmw2 : IntKind.i64.wrap (16 + (j : Int)) = (m : Int) := by rw [show (16 : Int) + (j : Int) = (m : Int) by omega]; exact IntWalk.i64_in _ (by omega)
        have hm0 : (0 : Int) ≤ (m : Int) := by omega
        have hm1 : (m : Int) < (xs.length : Int) := by have := HL.out; omega
        obtain ⟨x, hx⟩ : ∃ x, xs[j]? = some x := ⟨_, List.getElem?_eq_getElem (by omega)⟩
        obtain ⟨y, hy⟩ : ∃ y, xs[m]? = some y := ⟨_, List.getElem?_eq_getElem (by omega)⟩
        have H2 := Lib.hid (H1.out.call_ HB.out)
        obtain ⟨b1, o1, rfl, -, l1, v1⟩ := i64_at H2.out hx
        obtain ⟨b1', o1', e1, -, l1', v2⟩ := i64_at H2.out hy
        injection e1 with e1
        injection e1 with e2 e3
        subst e2; subst e3
        have HS := Lib.hid (show pairK xs (j + 1) = pairK xs j + x * y by
          rw [pairK_step, hm16, List.getD_eq_getElem?_getD, List.getD_eq_getElem?_getD, hx, hy]; rfl)
        have hxy := mul_bd (HBD.out x (List.mem_of_getElem? hx)) (HBD.out y (List.mem_of_getElem? hy))
        have hp := pairK_bd HBD.out (by omega) j
        obtain ⟨z, hz⟩ : ∃ z, pairK xs j = z := ⟨_, rfl⟩
        rw [hz] at hp ⊢
        have HZ := Lib.hid hz
        have hw1 : IntKind.i64.wrap (x * y) = x * y := IntWalk.i64_in _ (by omega)
        have hw2 : IntKind.i64.wrap (z + x * y) = z + x * y := IntWalk.i64_in _ (by omega)
        clear hx hy hz hxy hp hm16
        go_wp2_with fail
        go_quiet (fail)
        go_wp2_with fail
        go_roundw
        case rel => exact ⟨j + 1, by omega, by go_num, by rw [HS.out, HZ.out], Lib.hid (below_drewN HB.out _)⟩
        case measure => simp [intOf]; omega
      · have hj2 : ¬ (j : Int) < 16 := by omega
        obtain rfl : j = 16 := by omega
        have B1 := Lib.hid (B0.out.trans (HB.out.mono B0.out.size))
        go_wp2_with fail
        go_ret
        exact IntsSl.lit1 B1.out
  have e7 : (q.kind == 7) = false := beqF k7
  have hres := Lib.hid (show resF q xs = xs by unfold resF; rw [if_neg k5, if_neg k6, if_neg k7])
  rw [hres.out]
  have h63 : xs.length ≤ maxLen := by have h1 := H.out.1; have h2 := H.out.2.1; omega
  clear k5 k6 k7
  go_enter Tryz.func35, Tryz.ntmps35
  go_upto_region 1 with fail
  refine wp_world (F := fun wx => Below w.heap.size w wx ∧ Hid (wx.heap[w.heap.size]? = some (.cells #[.int .i64 q.kind, .int .i64 q.col, .int .i64 q.k, .slice A q.fs.length cc] 24 (0, 0)))) ⟨(by repeat' (first | with_reducible exact Below.refl _ _ | with_reducible assumption | with_reducible refine Below.setCell ?_ ?_ _ | with_reducible refine Below.drew ?_ | with_reducible refine below_drewN ?_ _ | with_reducible refine Below.alloc ?_ ?_ _ | (rintro _ ⟨⟩; simp <;> omega) | omega | (simp <;> omega))), Lib.hid (heap_alloc_at rfl)⟩ ?_
  rintro wr ⟨bb, gq⟩
  obtain ⟨q0, q1, q2, q3⟩ := row4 gq
  have B0 := Lib.hid bb
  have H1 := Lib.hid (H.out.call_ bb)
  clear bb gq
  go_wp2_with (at_builtin; go_must ((refine wpList_append_copy rfl (.tmp 68) (.tmp 69) rfl i64sT i64_flat (ys := xs) (by rfl) (by rfl) rfl (H1.out.alloc_ _) h63 (by omega) ?_; intro A2 c2 w2 hs2 hb2)))
  go_ret
  first
    | exact ⟨A2, c2, rfl, hs2.sub (fun b hb _ => .inr (by have h1 := B0.out.size; simp at hb; omega)), (B0.out.alloc B0.out.size _).trans (hb2.mono (by have h1 := B0.out.size; simp; omega))⟩
    | exact ⟨_, _, rfl, H1.out.sub (fun b hb _ => .inl hb), B0.out⟩
end Go.Proofs.YtagadbdbbglddaaGreatDoor
namespace Go.Proofs.YtagadbdbbglddaaGreatDoor
open Go.RowKit

def IntsNew (w : World) (xs : List Int) (e : Ending) (w' : World) : Prop :=
  ∃ A c, e = .returned (.slice A xs.length c) ∧ Sl .i64 (fun b => w.heap.size ≤ b) w' A c xs ∧ Below w.heap.size w w'
theorem IntsRes.new {w w' : World} {xs : List Int} {e : Ending} (h : IntsRes w xs e w') : IntsNew w xs e w' := by
  obtain ⟨A, c, h1, h2, h3⟩ := h
  exact ⟨A, c, h1, h2.flatSl i64_flat (fun b hb => hb), h3⟩
end Go.Proofs.YtagadbdbbglddaaGreatDoor
namespace Go.Proofs.YtagadbdbbglddaaGreatDoor
open Go.RowKit

theorem powerRI {kk : Int} {n m k P : Nat} (w : World) (hkk : kk = k) (hn : n ≤ 65536) (hm : m ≤ 255) (hk : k ≤ 6) (hP : n * m ^ k = P) :
    Calls Tryz.prog 44 #[.int .i64 n, .int .i64 m, .int .i64 kk] w fun e w' => (∃ z : Nat, e = .returned (.tuple #[.int .i64 z, .bool (under62 P)]) ∧ (under62 P = true → z = P)) ∧ w = w' := by
  subst hkk; exact powerRef w hn hm hk hP
theorem bound_pair2 {q : Qy} {rows : Int} (h : q.kind = 7) : boundF q rows = (bucketsF (fl q 0) 0 rows ++ bucketsF (fl q 1) 0 rows, true) := by unfold boundF; rw [if_neg (by omega), if_neg (by omega)]
set_option maxRecDepth 100000 in
set_option maxHeartbeats 8000000 in
theorem checkRef {q : Qy} {A : Option Addr} {c : Nat} {S : Nat → Prop} {p : List Int × Int} (rows : Int) (w : World) (h : Sl cdE.slice S w A c q.fs) (hp : checkTF q rows = p) :
    Calls Tryz.prog 18 #[(.agg #[.int .i64 q.kind, .int .i64 q.col, .int .i64 q.k, .slice A q.fs.length c]), .int .i64 rows] w (CheckRes w p) := by
  have H := Lib.hid h
  have HP := Lib.hid hp
  clear h hp
  go_enter Tryz.func18, Tryz.ntmps18
  go_upto_region 1 with fail
  refine wp_world (F := fun wx => Below w.heap.size w wx ∧ Hid (wx.heap[w.heap.size]? = some (.cells #[.int .i64 q.kind, .int .i64 q.col, .int .i64 q.k, .slice A q.fs.length c] 24 (0, 0))) ∧ Hid (wx.heap[w.heap.size + 1]? = some (.cells #[.slice none 0 0] 35 (0, 0)))) ⟨(by repeat' (first | with_reducible exact Below.refl _ _ | with_reducible assumption | with_reducible refine Below.setCell ?_ ?_ _ | with_reducible refine Below.drew ?_ | with_reducible refine below_drewN ?_ _ | with_reducible refine Below.alloc ?_ ?_ _ | (rintro _ ⟨⟩; simp <;> omega) | omega | (simp <;> omega))), Lib.hid ((Below.heap_alloc _ _ _ (by simp)).trans (heap_alloc_at rfl)), Lib.hid (heap_alloc_at (by simp))⟩ ?_
  rintro w1 ⟨bb, gq, gr⟩
  have b0 := Lib.hid bb
  have H1 := Lib.hid (H.out.keep (Below.agree bb))
  obtain ⟨x0, x1, x2, x3⟩ := row4 gq
  clear bb H
  cases hv : validQB q with
  | false =>
    have hno := Lib.hid (show checkTF q rows = ([], 1) by unfold checkTF; rw [if_neg (by rw [hv]; simp)])
    go_wp2_with (go_at_call 40; refine (validRef (q := q) _ H1.out).mono ?_; rw [hv]; rintro e w2 ⟨rfl, hb2⟩; have b2 := Lib.hid (b0.out.trans (hb2.mono b0.out.size)); have gr2 := mvQ gr hb2; have gq2 := mvQ gq hb2; have H2 := Lib.hid (H1.out.keep (Below.agree hb2)); obtain ⟨r0, rf, lr⟩ := one gr2)
    exact bodyPost_ret (v := .tuple #[.agg #[.slice none 0 0], .int .i64 1]) (by simp [results, Tryz.results18, go_sem, *]) rfl ⟨none, 0, by rw [← HP.out, hno.out]; rfl, by rw [← HP.out, hno.out]; exact Sl.nil_ _ _ _ _ (Nat.zero_le _), b2.out.setCell (by simp) _⟩
  | true =>
    by_cases hr0 : rows < 0
    · have hno := Lib.hid (show checkTF q rows = ([], 1) by unfold checkTF; rw [if_neg (fun h => by omega)])
      go_wp2_with (go_at_call 40; refine (validRef (q := q) _ H1.out).mono ?_; rw [hv]; rintro e w2 ⟨rfl, hb2⟩; have b2 := Lib.hid (b0.out.trans (hb2.mono b0.out.size)); have gr2 := mvQ gr hb2; have gq2 := mvQ gq hb2; have H2 := Lib.hid (H1.out.keep (Below.agree hb2)); obtain ⟨r0, rf, lr⟩ := one gr2)
      exact bodyPost_ret (v := .tuple #[.agg #[.slice none 0 0], .int .i64 1]) (by simp [results, Tryz.results18, go_sem, *]) rfl ⟨none, 0, by rw [← HP.out, hno.out]; rfl, by rw [← HP.out, hno.out]; exact Sl.nil_ _ _ _ _ (Nat.zero_le _), b2.out.setCell (by simp) _⟩
    have fr0 : decide (rows < 0) = false := decide_eq_false hr0
    by_cases hr1 : 65536 < rows
    · have hno := Lib.hid (show checkTF q rows = ([], 1) by unfold checkTF; rw [if_neg (fun h => by omega)])
      go_wp2_with (go_at_call 40; refine (validRef (q := q) _ H1.out).mono ?_; rw [hv]; rintro e w2 ⟨rfl, hb2⟩; have b2 := Lib.hid (b0.out.trans (hb2.mono b0.out.size)); have gr2 := mvQ gr hb2; have gq2 := mvQ gq hb2; have H2 := Lib.hid (H1.out.keep (Below.agree hb2)); obtain ⟨r0, rf, lr⟩ := one gr2)
      exact bodyPost_ret (v := .tuple #[.agg #[.slice none 0 0], .int .i64 1]) (by simp [results, Tryz.results18, go_sem, *]) rfl ⟨none, 0, by rw [← HP.out, hno.out]; rfl, by rw [← HP.out, hno.out]; exact Sl.nil_ _ _ _ _ (Nat.zero_le _), b2.out.setCell (by simp) _⟩
    have fr1 : decide (65536 < rows) = false := decide_eq_false hr1
    have hch : checkTF q rows = (if wideB q then ([], 140) else if (boundF q rows).2 then ((boundF q rows).1, 0) else ([], 141)) := by unfold checkTF; rw [if_pos ⟨hv, by omega, by omega⟩]
    have HCH := Lib.hid hch
    have HV := Lib.hid ((validQB_iff q).1 hv)
    obtain ⟨n, hn⟩ : ∃ n : Nat, rows = n := ⟨rows.toNat, by omega⟩
    have hn6 : n ≤ 65536 := by omega
    subst hn
    clear hch
    go_upto_region 3 with (go_at_call 40; refine (validRef (q := q) _ H1.out).mono ?_; rw [hv]; rintro e w2 ⟨rfl, hb2⟩; have b2 := Lib.hid (b0.out.trans (hb2.mono b0.out.size)); have gr2 := mvQ gr hb2; have gq2 := mvQ gq hb2; have H2 := Lib.hid (H1.out.keep (Below.agree hb2)); obtain ⟨r0, rf, lr⟩ := one gr2)
    clear hb2 gr gq H1 b0 x0 x1 x2 x3 r0 rf lr hr0 hr1 fr0 fr1
    have hfl := HV.out.head.2.2.2.2.2.2
    have hfs0 : 0 < q.fs.length := by rw [hfl]; unfold nFilF; split <;> omega
    have hl : q.fs[0]? = some (fl q 0) := by unfold fl; rw [List.getD_eq_getElem?_getD, List.getElem?_eq_getElem hfs0]; rfl
    have hvf := Lib.hid (show ∀ x ∈ fl q 0, ValidCd x from (HV.out.flt _ (List.mem_of_getElem? hl)).2)
    obtain ⟨b1, o1, B1, d1, rfl, -, l1, z1, hs1⟩ := flt_at H2.out hl
    simp only [Nat.add_zero] at z1
    have HS1 := Lib.hid hs1
    have hi0 : (0 : Int) < (q.fs.length : Int) := by omega
    have HFL := Lib.hid hfl
    clear hl hs1 hfl
    obtain ⟨x0, x1, x2, x3⟩ := row4 gq2
    obtain ⟨r0, rf, lr⟩ := one gr2
    obtain ⟨⟨hk1, hk7⟩, ⟨hc0, hc3⟩, -, hk0, hkm, hk36, -⟩ := HV.out.head
    have hb8 : bitsC q.col = 4 ∨ bitsC q.col = 8 := by
      rcases (by omega : q.col = 0 ∨ q.col = 1 ∨ q.col = 2 ∨ q.col = 3) with e | e | e | e <;> rw [e] <;> simp [bitsC]
    by_cases hnw : 4 ≤ q.kind ∧ q.kind ≤ 6
    · obtain ⟨hnw1, hnw2⟩ := hnw
      rcases hb8 with hb8 | hb8
      · have hno := Lib.hid (show checkTF q n = ((bucketsF (fl q 0) q.col n), 0) by rw [HCH.out, show wideB q = false from decide_eq_false (fun h => by omega), bound_cnt hnw1 hnw2]; rfl)
        have hb8' : (bitsC q.col == 8) = false := by rw [hb8]; rfl
        rcases (by omega : q.kind = 4 ∨ q.kind = 5 ∨ q.kind = 6) with hk | hk | hk
        · have e4 : (q.kind == 4) = true := by rw [hk]; rfl
          have e5 : (q.kind == 5) = false := by rw [hk]; rfl
          have e6 : (q.kind == 6) = false := by rw [hk]; rfl
          clear hb8 hk36 hk hkm
          go_wp2_with (first
            | (go_at_call 41; refine (bitsRef _ _).mono ?_; rintro e w5 ⟨rfl, rfl⟩)
            | (go_at_call 42; refine (bucketsRef (l := fl q 0) (n : Int) _ HS1.out hvf.out hc0 hc3).mono ?_; rintro e w6 ⟨B6, d6, rfl, ho6, hb6⟩; have b6 := Lib.hid (b2.out.trans (hb6.mono b2.out.size)); have gr6 := mvQ gr2 hb6; obtain ⟨s0, sf, ls⟩ := one gr6; have HO6 := Lib.hid ho6; clear ho6 hb6))
          exact bodyPost_ret (v := .tuple #[.agg #[.slice B6 (bucketsF (fl q 0) q.col n).length d6], .int .i64 0]) (by simp [results, Tryz.results18, go_sem, *]) rfl ⟨B6, d6, by rw [← HP.out, hno.out], by rw [← HP.out, hno.out]; exact (HO6.out.toSl (fun _ h _ => h.elim) (fun b hb _ _ => hb) |>.keep ((Agree.refl (fun b => w2.heap.size ≤ b) _).set (p := ⟨w.heap.size + 1, 0, none⟩) (fun h => by simp only at h; omega) _)).sub (fun b hb _ => by have := b2.out.size; omega), b6.out.setCell (by simp) _⟩
        · have e4 : (q.kind == 4) = false := by rw [hk]; rfl
          have e5 : (q.kind == 5) = true := by rw [hk]; rfl
          have e6 : (q.kind == 6) = false := by rw [hk]; rfl
          clear hb8 hk36 hk hkm
          go_wp2_with (first
            | (go_at_call 41; refine (bitsRef _ _).mono ?_; rintro e w5 ⟨rfl, rfl⟩)
            | (go_at_call 42; refine (bucketsRef (l := fl q 0) (n : Int) _ HS1.out hvf.out hc0 hc3).mono ?_; rintro e w6 ⟨B6, d6, rfl, ho6, hb6⟩; have b6 := Lib.hid (b2.out.trans (hb6.mono b2.out.size)); have gr6 := mvQ gr2 hb6; obtain ⟨s0, sf, ls⟩ := one gr6; have HO6 := Lib.hid ho6; clear ho6 hb6))
          exact bodyPost_ret (v := .tuple #[.agg #[.slice B6 (bucketsF (fl q 0) q.col n).length d6], .int .i64 0]) (by simp [results, Tryz.results18, go_sem, *]) rfl ⟨B6, d6, by rw [← HP.out, hno.out], by rw [← HP.out, hno.out]; exact (HO6.out.toSl (fun _ h _ => h.elim) (fun b hb _ _ => hb) |>.keep ((Agree.refl (fun b => w2.heap.size ≤ b) _).set (p := ⟨w.heap.size + 1, 0, none⟩) (fun h => by simp only at h; omega) _)).sub (fun b hb _ => by have := b2.out.size; omega), b6.out.setCell (by simp) _⟩
        · have e4 : (q.kind == 4) = false := by rw [hk]; rfl
          have e5 : (q.kind == 5) = false := by rw [hk]; rfl
          have e6 : (q.kind == 6) = true := by rw [hk]; rfl
          clear hb8 hk36 hk hkm
          go_wp2_with (first
            | (go_at_call 41; refine (bitsRef _ _).mono ?_; rintro e w5 ⟨rfl, rfl⟩)
            | (go_at_call 42; refine (bucketsRef (l := fl q 0) (n : Int) _ HS1.out hvf.out hc0 hc3).mono ?_; rintro e w6 ⟨B6, d6, rfl, ho6, hb6⟩; have b6 := Lib.hid (b2.out.trans (hb6.mono b2.out.size)); have gr6 := mvQ gr2 hb6; obtain ⟨s0, sf, ls⟩ := one gr6; have HO6 := Lib.hid ho6; clear ho6 hb6))
          exact bodyPost_ret (v := .tuple #[.agg #[.slice B6 (bucketsF (fl q 0) q.col n).length d6], .int .i64 0]) (by simp [results, Tryz.results18, go_sem, *]) rfl ⟨B6, d6, by rw [← HP.out, hno.out], by rw [← HP.out, hno.out]; exact (HO6.out.toSl (fun _ h _ => h.elim) (fun b hb _ _ => hb) |>.keep ((Agree.refl (fun b => w2.heap.size ≤ b) _).set (p := ⟨w.heap.size + 1, 0, none⟩) (fun h => by simp only at h; omega) _)).sub (fun b hb _ => by have := b2.out.size; omega), b6.out.setCell (by simp) _⟩
      · have hno := Lib.hid (show checkTF q n = ([], 140) by rw [HCH.out, show wideB q = true from decide_eq_true ⟨hnw1, hnw2, by omega⟩]; rfl)
        have hb8' : (bitsC q.col == 8) = true := by rw [hb8]; rfl
        clear hb8 hk36
        go_wp2_with (go_at_call 41; refine (bitsRef _ _).mono ?_; rintro e w5 ⟨rfl, rfl⟩)
        exact bodyPost_ret (v := .tuple #[.agg #[.slice none 0 0], .int .i64 140]) (by simp [results, Tryz.results18, go_sem, *]) rfl ⟨none, 0, by rw [← HP.out, hno.out]; rfl, by rw [← HP.out, hno.out]; exact Sl.nil_ _ _ _ _ (Nat.zero_le _), b2.out.setCell (by simp) _⟩
    · have hnwf : decide (4 ≤ q.kind) = false ∨ (decide (4 ≤ q.kind) = true ∧ decide (q.kind ≤ 6) = false) := by simp; omega
      have hwd : wideB q = false := decide_eq_false (fun h => hnw ⟨h.1, h.2.1⟩)
      by_cases hk7' : q.kind = 7
      · have e4 : (q.kind == 4) = false := by rw [hk7']; rfl
        have e5 : (q.kind == 5) = false := by rw [hk7']; rfl
        have e6 : (q.kind == 6) = false := by rw [hk7']; rfl
        have e7 : (q.kind == 7) = true := by rw [hk7']; rfl
        have e8 : decide (q.kind ≤ 6) = false := decide_eq_false (by omega)
        have hfs2 : q.fs.length = 2 := by rw [HFL.out]; unfold nFilF; rw [if_pos hk7']
        have hno := Lib.hid (show checkTF q n = (bucketsF (fl q 0) 0 n ++ bucketsF (fl q 1) 0 n, 0) by rw [HCH.out, hwd, bound_pair2 hk7']; rfl)
        have hl2 : q.fs[1]? = some (fl q 1) := by unfold fl; rw [List.getD_eq_getElem?_getD, List.getElem?_eq_getElem (by omega)]; rfl
        have hvf2 := Lib.hid (show ∀ x ∈ fl q 1, ValidCd x from (HV.out.flt _ (List.mem_of_getElem? hl2)).2)
        obtain ⟨b1', o1', B2, d2, e2', -, l2, z2, hs2⟩ := flt_at H2.out hl2
        injection e2' with e2'
        injection e2' with e3' e4'
        subst e3'; subst e4'
        have HS2 := Lib.hid hs2
        have hi1 : (1 : Int) < (q.fs.length : Int) := by omega
        have lq := heap_lt gq2.out
        clear hl2 hs2 hb8 hk36 hkm hk7' hnw hnwf hwd hfs2
        obtain ⟨m0, hm0⟩ : ∃ m0, fl q 0 = m0 := ⟨_, rfl⟩
        obtain ⟨m1, hm1⟩ : ∃ m1, fl q 1 = m1 := ⟨_, rfl⟩
        rw [hm0] at HS1 hvf hno z1
        rw [hm1] at HS2 hvf2 hno z2
        clear hm0 hm1
        go_wp2_with (first
          | (go_at_call 42; ((with_reducible refine (bucketsRef (l := m0) (n : Int) _ HS1.out hvf.out (by omega) (by omega)).mono ?_)); rintro e w6 ⟨B6, d6, rfl, ho6, hb6⟩; obtain ⟨hc6, hf6⟩ := bcell hb6; have b6 := Lib.hid (b2.out.trans (hb6.mono b2.out.size)); have gr6 := mvQ gr2 hb6; have HO6 := Lib.hid ho6; have HS6 := Lib.hid (HS2.out.keep (Below.agree hb6)); have hz6 := hb6.size; clear ho6 hb6)
          | (go_at_call 42; refine (bucketsRef (l := m1) (n : Int) _ HS6.out hvf2.out (by omega) (by omega)).mono ?_; rintro e w7 ⟨B7, d7, rfl, ho7, hb7⟩; have b7 := Lib.hid (b6.out.trans (hb7.mono b6.out.size)); have gr7 := mvQ gr6 hb7; have HO7 := Lib.hid (HO6.out.call hb7); have lo7 := HO6.out.lt; have HS7 := Lib.hid (ho7.toSl (T := fun b => w6.heap.size ≤ b) (fun _ h _ => h.elim) (fun b hb _ _ => hb)); have hz7 := hb7.size; clear ho7 hb7)
          | (at_builtin; go_must ((refine wpList_append_E (S := fun b => w6.heap.size ≤ b) rfl (.tmp 73) (.tmp 79) rfl i64sT (base := w2.heap.size) (v := .slice B6 16 d6) (xs := bucketsF m0 0 n) (ys := bucketsF m1 0 n) (by rfl) (by rfl) (by simp [bucketsF]) (nz := 32) (by simp [bucketsF]) (by simpa [bucketsF] using HO7.out.flat i64_flat) HS7.out (by unfold maxLen; simp [bucketsF]) (by simp [bucketsF]) (by omega) (fun g hg hs => (by have := lo7 g hg; omega)) ?_; intro A8 c8 w8 hown8 hg8 hor8; have b8 := Lib.hid (b7.out.grown hg8 (by have := b7.out.size; omega) (fun k hk => by have := (lo7 k hk).1; have := b2.out.size; omega)); have gr8 := Lib.hid ((hg8.block (w.heap.size + 1) (heap_lt gr7.out) (fun e => by have := (lo7 _ e.symm).1; omega)).trans gr7.out); have HO8 := Lib.hid (hown8.flat i64_flat (T := fun _ => False)); obtain ⟨s0, sf, ls⟩ := one gr8))))
        all_goals exact bodyPost_ret (v := .tuple #[.agg #[.slice A8 32 c8], .int .i64 0]) (by simp [results, Tryz.results18, go_sem, *]) rfl ⟨A8, c8, by rw [← HP.out, hno.out]; simp [bucketsF], by rw [← HP.out, hno.out]; exact (HO8.out.toSl (fun _ h _ => h.elim) (fun b hb _ _ => hb) |>.keep ((Agree.refl (fun b => w2.heap.size ≤ b) _).set (p := ⟨w.heap.size + 1, 0, none⟩) (fun h => by simp only at h; omega) _)).sub (fun b hb _ => by have := b2.out.size; omega), b8.out.setCell (by simp) _⟩
      · have f4 : decide (4 ≤ q.kind) = false := decide_eq_false (by omega)
        have e4 : (q.kind == 4) = false := beqF (by omega)
        have e5 : (q.kind == 5) = false := beqF (by omega)
        have e6 : (q.kind == 6) = false := beqF (by omega)
        have e7 : (q.kind == 7) = false := beqF (by omega)
        obtain ⟨m, hm⟩ : ∃ m : Nat, (underF (fl q 0) q.col).2 = m := ⟨(underF (fl q 0) q.col).2.toNat, by have := under_bd hvf.out q.col; omega⟩
        have hm255 : m ≤ 255 := by have := under_bd hvf.out q.col; omega
        have hkB : q.kind = 1 ∨ q.kind = 2 ∨ q.kind = 3 := by omega
        have hbd := bound_mom (q := q) (rows := n) (by omega)
        have hk6 : q.kind = 3 → q.k ≤ 6 := fun h => by rw [h] at hkm; exact hkm
        have HM := Lib.hid hm
        have HWD := Lib.hid hwd
        have HBD := Lib.hid hbd
        clear hm hwd hbd hb8 hk36 hkm hnw hnwf hk7' hk1 hk7
        obtain ⟨m0, hm0⟩ : ∃ m0, fl q 0 = m0 := ⟨_, rfl⟩
        rw [hm0] at HS1 hvf HM HBD z1
        clear hm0
        cases hsat : satB m0 with
        | false =>
          have hno := Lib.hid (show checkTF q n = ([0], 0) by rw [HCH.out, HWD.out, HBD.out]; unfold momF; rw [hsat]; rfl)
          clear hkB
          go_wp2_with (go_at_call 43; refine (satRef _ HS1.out hvf.out).mono ?_; rw [hsat]; rintro e w5 ⟨rfl, rfl⟩)
          exact bodyPost_ret (v := .tuple #[.agg #[.slice (some ⟨w2.heap.size, 0, none⟩) 1 1], .int .i64 0]) (by simp [results, Tryz.results18, go_sem, *]) rfl ⟨_, 1, by rw [← HP.out, hno.out]; rfl, by rw [← HP.out, hno.out]; exact Sl.litAt (S := fun _ => False) (by simp [World.setCell]) (.single rfl) (by unfold maxLen; simp) (fun _ h _ => h.elim) (by have := b2.out.size; omega), (b2.out.setCell (by simp) _).alloc (by have := b2.out.size; simp [World.setCell]; omega) _⟩
        | true =>
          have HL := Lib.hid (show largeF m0 q.col = (m : Int) by
            have h1 := (large_neg m0 (col := q.col) hvf.out).1
            have hs : (underF m0 q.col).1 ≤ (underF m0 q.col).2 := by
              unfold satB at hsat
              rw [decide_eq_true_eq] at hsat
              rcases (by omega : q.col = 0 ∨ q.col = 1 ∨ q.col = 2 ∨ q.col = 3) with e | e | e | e <;> rw [e] <;> omega
            unfold largeF; rw [if_pos hs]; exact HM.out)
          rcases hkB with hk | hk | hk
          · have e2 : (q.kind == 2) = false := by rw [hk]; rfl
            have e3 : (q.kind == 3) = false := by rw [hk]; rfl
            obtain ⟨P, hP⟩ : ∃ P, n * m ^ (0) = P := ⟨_, rfl⟩
            have hkk : (0 : Int) = ((0 : Nat) : Int) := by omega
            have hke : (0 : Nat) ≤ 6 := by first | omega | (have := hk6 hk; omega)
            have HMF := Lib.hid (show momF m0 q.col n (expF q) = ([(P : Int)], under62 P) by rw [show expF q = 0 from by unfold expF; rw [hk]; rfl]; exact momF_sat hsat HM.out hP)
            have HPW := fun (wy : World) => powerRI (kk := 0) wy hkk hn6 hm255 hke hP
            clear hk hk6 hkk hke hP
            cases hu : under62 P with
            | true =>
              have hno := Lib.hid (show checkTF q n = ([(P : Int)], 0) by rw [HCH.out, HWD.out, HBD.out, HMF.out, hu]; rfl)
              go_wp2_with (first
                | (go_at_call 43; refine (satRef _ HS1.out hvf.out).mono ?_; rw [hsat]; rintro e w5 ⟨rfl, rfl⟩)
                | (go_at_call 45; refine (largeRef _ HS1.out hc0 hc3).mono ?_; rw [HL.out]; rintro e w6 ⟨rfl, rfl⟩)
                | (go_at_call 44; refine (HPW _).mono ?_; rw [hu]; rintro e w7 ⟨⟨z, rfl, hz⟩, rfl⟩; obtain rfl := hz rfl))
              exact bodyPost_ret (v := .tuple #[.agg #[.slice (some ⟨w2.heap.size, 0, none⟩) 1 1], .int .i64 0]) (by simp [results, Tryz.results18, go_sem, *]) rfl ⟨_, 1, by rw [← HP.out, hno.out]; rfl, by rw [← HP.out, hno.out]; exact Sl.litAt (S := fun _ => False) (by simp [World.setCell]) (.single rfl) (by unfold maxLen; simp) (fun _ h _ => h.elim) (by have := b2.out.size; omega), (b2.out.setCell (by simp) _).alloc (by have := b2.out.size; simp [World.setCell]; omega) _⟩
            | false =>
              have hno := Lib.hid (show checkTF q n = ([], 141) by rw [HCH.out, HWD.out, HBD.out, HMF.out, hu]; rfl)
              go_wp2_with (first
                | (go_at_call 43; refine (satRef _ HS1.out hvf.out).mono ?_; rw [hsat]; rintro e w5 ⟨rfl, rfl⟩)
                | (go_at_call 45; refine (largeRef _ HS1.out hc0 hc3).mono ?_; rw [HL.out]; rintro e w6 ⟨rfl, rfl⟩)
                | (go_at_call 44; refine (HPW _).mono ?_; rw [hu]; rintro e w7 ⟨⟨z, rfl, -⟩, rfl⟩))
              exact bodyPost_ret (v := .tuple #[.agg #[.slice none 0 0], .int .i64 141]) (by simp [results, Tryz.results18, go_sem, *]) rfl ⟨none, 0, by rw [← HP.out, hno.out]; rfl, by rw [← HP.out, hno.out]; exact Sl.nil_ _ _ _ _ (Nat.zero_le _), b2.out.setCell (by simp) _⟩
          · have e2 : (q.kind == 2) = true := by rw [hk]; rfl
            have e3 : (q.kind == 3) = false := by rw [hk]; rfl
            obtain ⟨P, hP⟩ : ∃ P, n * m ^ (1) = P := ⟨_, rfl⟩
            have hkk : (1 : Int) = ((1 : Nat) : Int) := by omega
            have hke : (1 : Nat) ≤ 6 := by first | omega | (have := hk6 hk; omega)
            have HMF := Lib.hid (show momF m0 q.col n (expF q) = ([(P : Int)], under62 P) by rw [show expF q = 1 from by unfold expF; rw [hk]; rfl]; exact momF_sat hsat HM.out hP)
            have HPW := fun (wy : World) => powerRI (kk := 1) wy hkk hn6 hm255 hke hP
            clear hk hk6 hkk hke hP
            cases hu : under62 P with
            | true =>
              have hno := Lib.hid (show checkTF q n = ([(P : Int)], 0) by rw [HCH.out, HWD.out, HBD.out, HMF.out, hu]; rfl)
              go_wp2_with (first
                | (go_at_call 43; refine (satRef _ HS1.out hvf.out).mono ?_; rw [hsat]; rintro e w5 ⟨rfl, rfl⟩)
                | (go_at_call 45; refine (largeRef _ HS1.out hc0 hc3).mono ?_; rw [HL.out]; rintro e w6 ⟨rfl, rfl⟩)
                | (go_at_call 44; refine (HPW _).mono ?_; rw [hu]; rintro e w7 ⟨⟨z, rfl, hz⟩, rfl⟩; obtain rfl := hz rfl))
              exact bodyPost_ret (v := .tuple #[.agg #[.slice (some ⟨w2.heap.size, 0, none⟩) 1 1], .int .i64 0]) (by simp [results, Tryz.results18, go_sem, *]) rfl ⟨_, 1, by rw [← HP.out, hno.out]; rfl, by rw [← HP.out, hno.out]; exact Sl.litAt (S := fun _ => False) (by simp [World.setCell]) (.single rfl) (by unfold maxLen; simp) (fun _ h _ => h.elim) (by have := b2.out.size; omega), (b2.out.setCell (by simp) _).alloc (by have := b2.out.size; simp [World.setCell]; omega) _⟩
            | false =>
              have hno := Lib.hid (show checkTF q n = ([], 141) by rw [HCH.out, HWD.out, HBD.out, HMF.out, hu]; rfl)
              go_wp2_with (first
                | (go_at_call 43; refine (satRef _ HS1.out hvf.out).mono ?_; rw [hsat]; rintro e w5 ⟨rfl, rfl⟩)
                | (go_at_call 45; refine (largeRef _ HS1.out hc0 hc3).mono ?_; rw [HL.out]; rintro e w6 ⟨rfl, rfl⟩)
                | (go_at_call 44; refine (HPW _).mono ?_; rw [hu]; rintro e w7 ⟨⟨z, rfl, -⟩, rfl⟩))
              exact bodyPost_ret (v := .tuple #[.agg #[.slice none 0 0], .int .i64 141]) (by simp [results, Tryz.results18, go_sem, *]) rfl ⟨none, 0, by rw [← HP.out, hno.out]; rfl, by rw [← HP.out, hno.out]; exact Sl.nil_ _ _ _ _ (Nat.zero_le _), b2.out.setCell (by simp) _⟩
          · have e2 : (q.kind == 2) = false := by rw [hk]; rfl
            have e3 : (q.kind == 3) = true := by rw [hk]; rfl
            obtain ⟨P, hP⟩ : ∃ P, n * m ^ (q.k.toNat) = P := ⟨_, rfl⟩
            have hkk : (q.k : Int) = ((q.k.toNat : Nat) : Int) := by omega
            have hke : (q.k.toNat : Nat) ≤ 6 := by first | omega | (have := hk6 hk; omega)
            have HMF := Lib.hid (show momF m0 q.col n (expF q) = ([(P : Int)], under62 P) by rw [show expF q = q.k.toNat from by unfold expF; rw [hk]; rfl]; exact momF_sat hsat HM.out hP)
            have HPW := fun (wy : World) => powerRI (kk := q.k) wy hkk hn6 hm255 hke hP
            clear hk hk6 hkk hke hP
            cases hu : under62 P with
            | true =>
              have hno := Lib.hid (show checkTF q n = ([(P : Int)], 0) by rw [HCH.out, HWD.out, HBD.out, HMF.out, hu]; rfl)
              go_wp2_with (first
                | (go_at_call 43; refine (satRef _ HS1.out hvf.out).mono ?_; rw [hsat]; rintro e w5 ⟨rfl, rfl⟩)
                | (go_at_call 45; refine (largeRef _ HS1.out hc0 hc3).mono ?_; rw [HL.out]; rintro e w6 ⟨rfl, rfl⟩)
                | (go_at_call 44; refine (HPW _).mono ?_; rw [hu]; rintro e w7 ⟨⟨z, rfl, hz⟩, rfl⟩; obtain rfl := hz rfl))
              exact bodyPost_ret (v := .tuple #[.agg #[.slice (some ⟨w2.heap.size, 0, none⟩) 1 1], .int .i64 0]) (by simp [results, Tryz.results18, go_sem, *]) rfl ⟨_, 1, by rw [← HP.out, hno.out]; rfl, by rw [← HP.out, hno.out]; exact Sl.litAt (S := fun _ => False) (by simp [World.setCell]) (.single rfl) (by unfold maxLen; simp) (fun _ h _ => h.elim) (by have := b2.out.size; omega), (b2.out.setCell (by simp) _).alloc (by have := b2.out.size; simp [World.setCell]; omega) _⟩
            | false =>
              have hno := Lib.hid (show checkTF q n = ([], 141) by rw [HCH.out, HWD.out, HBD.out, HMF.out, hu]; rfl)
              go_wp2_with (first
                | (go_at_call 43; refine (satRef _ HS1.out hvf.out).mono ?_; rw [hsat]; rintro e w5 ⟨rfl, rfl⟩)
                | (go_at_call 45; refine (largeRef _ HS1.out hc0 hc3).mono ?_; rw [HL.out]; rintro e w6 ⟨rfl, rfl⟩)
                | (go_at_call 44; refine (HPW _).mono ?_; rw [hu]; rintro e w7 ⟨⟨z, rfl, -⟩, rfl⟩))
              exact bodyPost_ret (v := .tuple #[.agg #[.slice none 0 0], .int .i64 141]) (by simp [results, Tryz.results18, go_sem, *]) rfl ⟨none, 0, by rw [← HP.out, hno.out]; rfl, by rw [← HP.out, hno.out]; exact Sl.nil_ _ _ _ _ (Nat.zero_le _), b2.out.setCell (by simp) _⟩
end Go.Proofs.YtagadbdbbglddaaGreatDoor
