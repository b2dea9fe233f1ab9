/-
  The law 'TypecheckRejects', walked: it returns true for every input, and nothing that existed changes. Condition: the package's map lies as its text lays it.
-/
import Derived.Test.YtihcaoipemcddaaDoorQ22
import Derived.Test.YtihcaoipemcddaaDoorQP2
namespace Go.Proofs.YtihcaoipemcddaaDoor
open Go.RowKit

theorem wide_iff {q : Qy} (hc0 : 0 ≤ q.col) (hc3 : q.col ≤ 3) : wideB q = true ↔ (4 ≤ q.kind ∧ q.kind ≤ 6) ∧ q.col.tmod 2 = 1 := by
  unfold wideB
  rw [decide_eq_true_eq]
  rcases (by omega : q.col = 0 ∨ q.col = 1 ∨ q.col = 2 ∨ q.col = 3) with e | e | e | e <;> rw [e]
  · have h1 : bitsC 0 = 4 := rfl
    have h2 : (0 : Int).tmod 2 = 0 := rfl
    rw [h1, h2]; omega
  · have h1 : bitsC 1 = 8 := rfl
    have h2 : (1 : Int).tmod 2 = 1 := rfl
    rw [h1, h2]; omega
  · have h1 : bitsC 2 = 4 := rfl
    have h2 : (2 : Int).tmod 2 = 0 := rfl
    rw [h1, h2]; omega
  · have h1 : bitsC 3 = 8 := rfl
    have h2 : (3 : Int).tmod 2 = 1 := rfl
    rw [h1, h2]; omega
/-- But for sums of powers nothing is rejected. -/
theorem plain_ok {q : Qy} (hq : ValidQ q) (h3 : q.kind ≠ 3) {n : Int} (h0 : 0 ≤ n) (h1 : n ≤ 65536) : (boundF q n).2 = true := by
  unfold boundF
  obtain ⟨hk1, hk7⟩ := hq.head.1
  split
  · rename_i hk
    split
    · refine decide_eq_true ?_
      have hf : filtF q 0 = fl q 0 := by unfold filtF; rw [if_neg (by omega)]
      have hu := under_bd (filt_valid hq (v := 0) (by omega)) q.col
      rw [hf] at hu
      unfold powF expF two62
      rcases (by omega : q.kind = 1 ∨ q.kind = 2) with e | e
      · rw [if_neg (by omega), if_neg (by omega)]; simp; omega
      · rw [if_pos e, Int.pow_succ, Int.pow_zero, Int.one_mul]
        have := Int.mul_le_mul h1 hu.2.2.1 hu.2.2.2 (by omega : (0 : Int) ≤ 65536)
        omega
    · rfl
  · split <;> rfl
/-- How much room is left behind j divisions. -/
def roomF (m j : Nat) : Nat := 4611686018427387903 / m ^ j
theorem roomF_succ (m j : Nat) : roomF m j / m = roomF m (j + 1) := by unfold roomF; rw [Nat.div_div_eq_div_mul, Nat.pow_succ]
theorem roomF_le (m j : Nat) : roomF m j ≤ 4611686018427387903 := Nat.div_le_self _ _
theorem room_iff {n m k : Nat} (hm : 0 < m) : roomF m k < n ↔ ¬ n * m ^ k < 4611686018427387904 := by
  unfold roomF
  rw [Nat.div_lt_iff_lt_mul (Nat.pow_pos hm)]
  omega
def qL4T : List FRow := [(0, ([], (59, [6]))), (1, ([0], (60, [58]))), (2, ([1], (61, [59]))), (3, ([2], (62, [60]))), (4, ([], (63, [6]))), (5, ([4], (64, [62]))), (6, ([3, 5], (65, [61, 63]))), (7, ([6], (11, []))), (8, ([6, 7, 0, 1, 2, 3, 4, 5, 6, 7], (12, [64])))]
set_option maxRecDepth 100000 in
set_option maxHeartbeats 8000000 in
theorem walk_TypecheckRejects {q : Qy} {A : Option Addr} {c : Nat} {n : Int} (w : World) (hw : WidOk w) (h : Sl cdE.slice (fun _ => True) w A c q.fs) (_hc : -9223372036854775808 ≤ q.col ∧ q.col ≤ 9223372036854775807) (hn : 0 ≤ n ∧ n ≤ 65535) :
    Calls Tryd.prog 7 #[(.agg #[.int .i64 q.kind, .int .i64 q.col, .int .i64 q.k, .slice A q.fs.length c]), .int .u16 n] w fun e w' => e = .returned (.bool true) ∧ Below w.heap.size w w' := by
  have HW := Lib.hid hw
  have H := Lib.hid h
  have hm := h.max
  obtain ⟨n, rfl⟩ : ∃ m : Nat, n = m := ⟨n.toNat, by omega⟩
  clear hw h
  go_enter Tryd.func7, Tryd.ntmps7
  go_upto_region 1 with fail
  refine wp_world (F := fun wx => Below w.heap.size w wx ∧ Hid (wx.heap[w.heap.size]? = some (.cells #[.int .i64 q.kind, .int .i64 q.col, .int .i64 q.k, .slice A q.fs.length c] 24 (0, 0)))) ⟨(by repeat' (first | with_reducible exact Below.refl _ _ | with_reducible assumption | with_reducible refine Below.setCell ?_ ?_ _ | with_reducible refine Below.drew ?_ | with_reducible refine below_drewN ?_ _ | with_reducible refine Below.alloc ?_ ?_ _ | (rintro _ ⟨⟩; simp <;> omega) | omega | (simp <;> omega))), Lib.hid (heap_alloc_at rfl)⟩ ?_
  rintro w1 ⟨bb, gq⟩
  have b1 := Lib.hid bb
  have W1 := mvW HW bb
  clear bb HW
  go_upto_region 2 with (go_at_call 10; refine (sanityL14 _ W1.out).mono ?_; rintro e w2 ⟨rfl, hb2⟩; have b2 := Lib.hid (b1.out.trans (hb2.mono b1.out.size)); have gq2 := mvQ gq hb2; have W2 := mvW W1 hb2; clear hb2)
  obtain ⟨x0, x1, x2, x3⟩ := row4 gq2
  have H2 := Lib.hid (H.out.keep (Below.agree b2.out))
  clear gq W1 b1 H
  go_cut [6, 7] (fun p s wx => ∃ (g : Nat) (x : Qy) (B : Option Addr) (d : Nat), p = .pointer (some ⟨g, 0, none⟩) ∧ s = .int .i64 n ∧ ValidQ x ∧ Hid (wx.heap[g]? = some (.cells #[.int .i64 x.kind, .int .i64 x.col, .int .i64 x.k, .slice B x.fs.length d] 24 (0, 0))) ∧ Sl cdE.slice (fun _ => True) wx B d x.fs ∧ Below w2.heap.size w2 wx)
  case first =>
    go_wp2_with (go_at_call 13; refine (made13P (q := q) _ H2.out).mono ?_; rintro e wC ⟨x, hv, -, B, d, rfl, hs, hbC⟩; have HC := Lib.hid hs; have bC := Lib.hid hbC; have HV := Lib.hid hv; clear hs hbC hv)
    go_meet
    case rel => exact ⟨_, x, B, d, rfl, rfl, HV.out, Lib.hid (heap_alloc_at rfl), (HC.out.sub (fun _ _ _ => trivial)).keep ((Agree.refl _ _).alloc _), bC.out.alloc bC.out.size _⟩
  obtain ⟨g, x, B, d, rfl, rfl, hv, gx, hs, hb⟩ := hcut
  obtain ⟨w3, hwv⟩ : ∃ x, x = wc := ⟨_, rfl⟩
  subst hwv
  have HV := Lib.hid hv
  have W3 := mvW W2 hb
  have b3 := Lib.hid (b2.out.trans (hb.mono b2.out.size))
  have F3 := Lib.hid hs
  clear hv hs hb x0 x1 x2 x3 gq2 W2 b2 H2
  obtain ⟨y0, y1, y2, y3⟩ := row4 gx
  obtain ⟨P, hP⟩ : ∃ P, checkTF x n = P := ⟨_, rfl⟩
  have HP := Lib.hid hP
  go_upto_region 3 with fail
  go_cut [8, 9] (fun p e wx => ∃ g, p = .pointer (some ⟨g, 0, none⟩) ∧ e = .int .i64 P.2 ∧ Bx wx g P.1 ∧ Below w3.heap.size w3 wx)
  case first =>
    clear hP
    go_wp2_with (go_at_call 11; refine (checkP (q := x) n _ W3.out F3.out HP.out).mono ?_; rintro e wC ⟨B, d, rfl, hs, hbC⟩; have HC := Lib.hid hs; have bC := Lib.hid hbC; clear hs hbC)
    go_meet
    case rel => exact ⟨_, rfl, rfl, ⟨B, d, heap_alloc_at rfl, (HC.out.sub (fun _ _ _ => trivial)).keep ((Agree.refl _ _).alloc _)⟩, bC.out.alloc bC.out.size _⟩
  obtain ⟨g4, rfl, rfl, hbx, hb⟩ := hcut
  obtain ⟨w4, hwv⟩ : ∃ x, x = wc := ⟨_, rfl⟩
  subst hwv
  have b4 := Lib.hid (b3.out.trans (hb.mono b3.out.size))
  have F4 := Lib.hid (F3.out.keep (Below.agree hb))
  have gx4 := mvQ gx hb
  clear hb y0 y1 y2 y3 W3 b3 F3 gx HP
  obtain ⟨y0, y1, y2, y3⟩ := row4 gx4
  obtain ⟨⟨hk1, hk7⟩, ⟨hc0, hc3⟩, -, hk0, hkm, hk36, hfl⟩ := HV.out.head
  have hch : checkTF x n = (if wideB x then ([], 140) else if (boundF x n).2 then ((boundF x n).1, 0) else ([], 141)) := by unfold checkTF; rw [if_pos ⟨(validQB_iff x).2 HV.out, by omega, by omega⟩]
  obtain ⟨c2, hc2, hc22⟩ : ∃ c2 : Int, x.col.tmod 2 = c2 ∧ (c2 = 0 ∨ c2 = 1) := by
    rcases (by omega : x.col = 0 ∨ x.col = 1 ∨ x.col = 2 ∨ x.col = 3) with e | e | e | e <;> rw [e]
    · exact ⟨0, rfl, .inl rfl⟩
    · exact ⟨1, rfl, .inr rfl⟩
    · exact ⟨0, rfl, .inl rfl⟩
    · exact ⟨1, rfl, .inr rfl⟩
  have hwi := wide_iff hc0 hc3
  rw [hc2] at hwi
  rw [hP] at hch
  clear hP hk36 hfl
  cases hwd : wideB x with
  | true =>
    obtain ⟨⟨hk4, hk6⟩, rfl⟩ := hwi.1 hwd
    rw [hwd, if_pos rfl] at hch
    subst hch
    obtain ⟨B5, d5, z5, -⟩ := hbx
    obtain ⟨r0, rf, lr⟩ := one (Lib.hid z5)
    clear hwi hwd hkm z5
    go_wp2_with fail
    go_ret
    exact ⟨rfl, b4.out⟩
  | false =>
    have hnw : ¬ ((4 ≤ x.kind ∧ x.kind ≤ 6) ∧ c2 = 1) := fun h => by rw [hwi.2 h] at hwd; cases hwd
    rw [hwd, if_neg (by simp)] at hch
    have HCH := Lib.hid hch
    clear hwi hch
    by_cases hk3 : x.kind = 3
    · have f4 : decide (4 ≤ x.kind) = false := decide_eq_false (by omega)
      have e3 : (x.kind != 3) = false := by rw [hk3]; rfl
      have hk6 : x.k ≤ 6 := by rw [hk3] at hkm; exact hkm
      have hK1 : 1 ≤ x.k := HV.out.head.2.2.2.2.2.1 (.inl hk3)
      obtain ⟨kk, hkk⟩ : ∃ kk : Nat, x.k = kk := ⟨x.k.toNat, by omega⟩
      have HKK := Lib.hid hkk
      have hfs0 : 0 < x.fs.length := by rw [HV.out.head.2.2.2.2.2.2]; unfold nFilF; split <;> omega
      have hi0 : (0 : Int) < (x.fs.length : Int) := by omega
      have hl : x.fs[0]? = some (fl x 0) := by unfold fl; rw [List.getD_eq_getElem?_getD, List.getElem?_eq_getElem hfs0]; rfl
      have hvf := Lib.hid (HV.out.flt _ (List.mem_of_getElem? hl)).2
      obtain ⟨b1, o1, rfl_, d1, e1, -, l1, u1, hs1⟩ := flt_at F4.out hl
      subst e1
      simp only [Nat.add_zero] at u1
      have HS1 := Lib.hid hs1
      have zx : ∀ W, Below w4.heap.size w4 W → _ ∧ _ ∧ _ ∧ _ := fun W hW => row4 (mvQ gx4 hW)
      have zu : ∀ W, Below w4.heap.size w4 W → W.cell? ⟨b1, o1, none⟩ = some (.slice rfl_ (fl x 0).length d1) := fun W hW => (hW.cell (p := ⟨b1, o1, none⟩) l1).trans u1
      have br : Below w4.heap.size w4 w4 := Below.refl _ _
      have ba : ∀ W o, Below w4.heap.size w4 W → Below w4.heap.size w4 (W.alloc o) := fun W o h => h.alloc h.size o
      have bc : ∀ W W', Below w4.heap.size w4 W → Below W.heap.size W W' → Below w4.heap.size w4 W' := fun W W' h k => h.trans (k.mono h.size)
      obtain ⟨M, hM⟩ : ∃ M, largeF (fl x 0) x.col = M := ⟨_, rfl⟩
      have HM := Lib.hid hM
      have hub := under_bd hvf.out x.col
      have hMb : M ≤ 255 := by rw [← hM]; exact (large_neg (fl x 0) (col := x.col) hvf.out).2
      have HB := Lib.hid (show (boundF x n) = if satB (fl x 0) then ([(n : Int) * (underF (fl x 0) x.col).2 ^ kk], decide ((n : Int) * (underF (fl x 0) x.col).2 ^ kk < 4611686018427387904)) else ([0], true) by
        rw [bound_mom (by omega), show expF x = kk from by unfold expF; rw [if_neg (show ¬ x.kind = 2 by omega), if_pos hk3, hkk]; rfl]
        rfl)
      have hsm : satB (fl x 0) = true → (underF (fl x 0) x.col).2 = M := fun hs => by
        have hle : (underF (fl x 0) x.col).1 ≤ (underF (fl x 0) x.col).2 := by
          unfold satB at hs
          rw [decide_eq_true_eq] at hs
          rcases (by omega : x.col = 0 ∨ x.col = 1 ∨ x.col = 2 ∨ x.col = 3) with e | e | e | e <;> rw [e] <;> omega
        rw [← hM]; unfold largeF; rw [if_pos hle]
      have HSM := Lib.hid hsm
      have hkb : 1 ≤ kk ∧ kk ≤ 6 := by omega
      have zk : ∀ W, Below w4.heap.size w4 W → W.cell? ⟨g, 1, none⟩ = some (.int .i64 x.col) ∧ W.cell? ⟨g, 2, none⟩ = some (.int .i64 kk) ∧ W.cell? ⟨g, 3, none⟩ = some (.slice (some ⟨b1, o1, none⟩) x.fs.length d) := fun W hW => by
        obtain ⟨-, a, b, c⟩ := zx W hW
        rw [hkk] at b
        exact ⟨a, b, c⟩
      clear hl hs1 hkm hK1 hM hsm u1 hbx hkk hk3 hk6
      go_upto_region 8 with fail
      refine wp_region_noPanic ?_
      refine wp_region_held_drew (S := fun X => Below w4.heap.size w4 X) (by kernel_rfl) ?_ (fun hHeld => ?_)
      · (first | with_reducible assumption | (with_reducible refine Below.drew ?_; with_reducible assumption) | (with_reducible refine ba _ _ ?_; with_reducible assumption) | (with_reducible refine Below.drew ?_; with_reducible refine ba _ _ ?_; with_reducible assumption) | exact Below.refl _ _ | exact (Below.refl _ _).drew | exact (Below.refl _ _).alloc (Nat.le_refl _) _ | (refine bc _ _ (by assumption) (by assumption)))
      refine RegOk.begin_ (n := 9) (T := qL4T) ⟨by kernel_rfl, by kernel_rfl, by kernel_rfl, by kernel_rfl⟩ fun hR => ?_
      refine hR.take (i := 0) (oi := ?ow1_0) (v := ?vw1_0) (m' := 1) ?hw1_0 (by kernel_rfl) (by kernel_rfl) (fun _ _ _ h => h) (Or.inl ⟨?sw1_0, ?yw1_0⟩) (by assumption) ?nw1_0
      case hw1_0 => simp only [List.getElem?_toArray, List.getElem?_cons_succ, List.getElem?_cons_zero]; rfl
      case sw1_0 => rfl
      case yw1_0 => (intro w hSw; (try dsimp only at hSw); go_simp <;> with_reducible rfl)
      try simp only [Act.put, List.setIfInBounds_toArray, List.set_cons_zero, List.set_cons_succ]
      refine hR.take (i := 1) (oi := ?ow2_1) (v := ?vw2_1) (m' := 3) ?hw2_1 (by kernel_rfl) (by kernel_rfl) (fun _ _ _ h => h) (Or.inl ⟨?sw2_1, ?yw2_1⟩) (by assumption) ?nw2_1
      case hw2_1 => simp only [List.getElem?_toArray, List.getElem?_cons_succ, List.getElem?_cons_zero]; rfl
      case sw2_1 => rfl
      case yw2_1 => (intro w hSw; (try dsimp only at hSw); go_simp <;> with_reducible rfl)
      try simp only [Act.put, List.setIfInBounds_toArray, List.set_cons_zero, List.set_cons_succ]
      refine hR.take (i := 2) (oi := ?ow3_2) (v := ?vw3_2) (m' := 7) ?hw3_2 (by kernel_rfl) (by kernel_rfl) (fun _ _ _ h => h) (Or.inl ⟨?sw3_2, ?yw3_2⟩) (by assumption) ?nw3_2
      case hw3_2 => simp only [List.getElem?_toArray, List.getElem?_cons_succ, List.getElem?_cons_zero]; rfl
      case sw3_2 => rfl
      case yw3_2 => (intro w hSw; (try dsimp only at hSw); go_simp <;> with_reducible rfl)
      try simp only [Act.put, List.setIfInBounds_toArray, List.set_cons_zero, List.set_cons_succ]
      refine hR.take (i := 3) (oi := ?ow4_3) (v := ?vw4_3) (m' := 15) ?hw4_3 (by kernel_rfl) (by kernel_rfl) (fun _ _ _ h => h) (Or.inl ⟨?sw4_3, ?yw4_3⟩) (by assumption) ?nw4_3
      case hw4_3 => simp only [List.getElem?_toArray, List.getElem?_cons_succ, List.getElem?_cons_zero]; rfl
      case sw4_3 => rfl
      case yw4_3 => (intro w hSw; (try dsimp only at hSw); go_simp <;> with_reducible rfl)
      try simp only [Act.put, List.setIfInBounds_toArray, List.set_cons_zero, List.set_cons_succ]
      refine hR.take (i := 4) (oi := ?ow5_4) (v := ?vw5_4) (m' := 31) ?hw5_4 (by kernel_rfl) (by kernel_rfl) (fun _ _ _ h => h) (Or.inl ⟨?sw5_4, ?yw5_4⟩) (by assumption) ?nw5_4
      case hw5_4 => simp only [List.getElem?_toArray, List.getElem?_cons_succ, List.getElem?_cons_zero]; rfl
      case sw5_4 => rfl
      case yw5_4 => (intro w hSw; (try dsimp only at hSw); go_simp <;> with_reducible rfl)
      try simp only [Act.put, List.setIfInBounds_toArray, List.set_cons_zero, List.set_cons_succ]
      refine hR.take (i := 5) (oi := ?ow6_5) (v := ?vw6_5) (m' := 63) ?hw6_5 (by kernel_rfl) (by kernel_rfl) (fun _ _ _ h => h) (Or.inl ⟨?sw6_5, ?yw6_5⟩) (by assumption) ?nw6_5
      case hw6_5 => simp only [List.getElem?_toArray, List.getElem?_cons_succ, List.getElem?_cons_zero]; rfl
      case sw6_5 => rfl
      case yw6_5 => (intro w hSw; (try dsimp only at hSw); go_simp <;> with_reducible rfl)
      try simp only [Act.put, List.setIfInBounds_toArray, List.set_cons_zero, List.set_cons_succ]
      refine hR.come (rs := [6]) (by kernel_rfl) (by simp) ?_
      refine AllReadyH.cons (o := ?o7_6) ?h7_6 (fun K hK => ?kw7_6) AllReadyH.nil
      case h7_6 => simp only [List.getElem?_toArray, List.getElem?_cons_succ, List.getElem?_cons_zero]; rfl
      go_simp
      go_at_call 24; refine (largeRef _ (HS1.out.keep (Below.agree (by (first | with_reducible assumption | (with_reducible refine Below.drew ?_; with_reducible assumption) | (with_reducible refine ba _ _ ?_; with_reducible assumption) | (with_reducible refine Below.drew ?_; with_reducible refine ba _ _ ?_; with_reducible assumption) | exact Below.refl _ _ | exact (Below.refl _ _).drew | exact (Below.refl _ _).alloc (Nat.le_refl _) _ | (refine bc _ _ (by assumption) (by assumption)))))) hc0 hc3).mono ?_; rw [HM.out]; rintro e w6 ⟨rfl, rfl⟩
      refine hK.out _ _ ?_ (fun hHeld => ?_)
      · (first | with_reducible assumption | (with_reducible refine Below.drew ?_; with_reducible assumption) | (with_reducible refine ba _ _ ?_; with_reducible assumption) | (with_reducible refine Below.drew ?_; with_reducible refine ba _ _ ?_; with_reducible assumption) | exact Below.refl _ _ | exact (Below.refl _ _).drew | exact (Below.refl _ _).alloc (Nat.le_refl _) _ | (refine bc _ _ (by assumption) (by assumption)))
      clear hK K
      refine RegOk.put_ (m' := 127) (by kernel_rfl) ?_
      try simp only [Act.put, List.setIfInBounds_toArray, List.set_cons_zero, List.set_cons_succ]
      refine hR.take (i := 7) (oi := ?ow8_7) (v := ?vw8_7) (m' := 255) ?hw8_7 (by kernel_rfl) (by kernel_rfl) (fun _ _ _ h => h) (Or.inl ⟨?sw8_7, ?yw8_7⟩) (by assumption) ?nw8_7
      case hw8_7 => simp only [List.getElem?_toArray, List.getElem?_cons_succ, List.getElem?_cons_zero]; rfl
      case sw8_7 => rfl
      case yw8_7 => (intro w hSw; (try dsimp only at hSw); go_simp <;> with_reducible rfl)
      try simp only [Act.put, List.setIfInBounds_toArray, List.set_cons_zero, List.set_cons_succ]
      refine hR.take (i := 8) (oi := ?ow9_8) (v := ?vw9_8) (m' := 511) ?hw9_8 (by kernel_rfl) (by kernel_rfl) (fun _ _ _ h => h) (Or.inl ⟨?sw9_8, ?yw9_8⟩) (by assumption) ?nw9_8
      case hw9_8 => simp only [List.getElem?_toArray, List.getElem?_cons_succ, List.getElem?_cons_zero]; rfl
      case sw9_8 => rfl
      case yw9_8 => (intro w hSw; (try dsimp only at hSw); go_simp <;> with_reducible rfl)
      try simp only [Act.put, List.setIfInBounds_toArray, List.set_cons_zero, List.set_cons_succ]
      refine hR.all (by kernel_rfl) ?_ _
      refine NoPanic.normal ?_
      clear zx y0 y1 y2 y3
      by_cases hM0 : 0 < M
      · obtain ⟨mm, rfl⟩ : ∃ mm : Nat, M = mm := ⟨M.toNat, by omega⟩
        have hm1 : 0 < mm := by omega
        have HPP := Lib.hid (fun (hs : satB (fl x 0) = true) => show P.2 = if n * mm ^ kk < 4611686018427387904 then 0 else 141 by
          have hb := HB.out
          rw [if_pos hs, HSM.out hs] at hb
          rw [HCH.out, hb]
          have hc : (n : Int) * (mm : Int) ^ kk = ((n * mm ^ kk : Nat) : Int) := by rw [Int.natCast_mul, Int.natCast_pow]
          rw [hc]
          by_cases hlt : n * mm ^ kk < 4611686018427387904
          · rw [if_pos hlt, show decide (((n * mm ^ kk : Nat) : Int) < 4611686018427387904) = true from decide_eq_true (by omega)]; rfl
          · rw [if_neg hlt, show decide (((n * mm ^ kk : Nat) : Int) < 4611686018427387904) = false from decide_eq_false (by omega)]; rfl)
        have HPN := Lib.hid (fun (hs : satB (fl x 0) = false) => show P.2 = 0 by
          have hb := HB.out
          rw [hs, if_neg (by simp)] at hb
          rw [HCH.out, hb]; rfl)
        clear hM0
        go_wp2_with fail
        go_loopw [10, 12] (fun r i wr => ∃ j : Nat, j ≤ kk ∧ i = .int .i64 j ∧ r = .int .i64 ((roomF mm j : Nat) : Int) ∧ Hid (Below w4.heap.size w4 wr)) (fun _ i _ => kk - (intOf i).toNat)
        case atStart => exact ⟨0, Nat.zero_le _, rfl, by simp [roomF], Lib.hid (by assumption)⟩
        case round =>
          obtain ⟨j, hj, rfl, rfl, hbr⟩ := hrel
          have hkb' := hbr.out
          obtain ⟨R, hR⟩ : ∃ R, roomF mm j = R := ⟨_, rfl⟩
          have hRb : R ≤ 4611686018427387903 := by rw [← hR]; exact roomF_le _ _
          have hj0 : (0 : Int) ≤ (j : Int) := by omega
          have hm2 : (0 : Int) < (mm : Int) := by omega
          have hm3 : ((mm : Int) == 0) = false := beqF (by omega)
          have hm4 : ¬ (mm : Int) = 0 := by omega
          rw [hR]
          by_cases hlt : j < kk
          · have hj1 : (j : Int) < (kk : Int) := by omega
            obtain ⟨R', hR'⟩ : ∃ R', roomF mm (j + 1) = R' := ⟨_, rfl⟩
            have hdiv : (R : Int).tdiv (mm : Int) = (R' : Int) := by rw [← hR', ← roomF_succ, hR]; rfl
            have hRb' : R' ≤ 4611686018427387903 := by rw [← hR']; exact roomF_le _ _
            have HR' := Lib.hid hR'
            clear hR hR'
            go_wp2_with fail
            go_roundw
            case rel => exact ⟨j + 1, by omega, by go_num, by rw [HR'.out], hbr⟩
            case measure => simp [intOf]; omega
          · have hj1 : ¬ (j : Int) < (kk : Int) := by omega
            obtain rfl : j = kk := by omega
            have hri := room_iff (n := n) (k := j) hm1
            rw [hR] at hri
            clear hR
            by_cases hrn : R < n
            · have r1 : (R : Int) < (n : Int) := by omega
              cases hsat : satB (fl x 0) with
              | true =>
                have hP2 := HPP.out hsat
                rw [if_neg (hri.1 hrn)] at hP2
                rw [hP2]
                clear hri hrn hP2
                go_wp2_with (go_at_call 25; refine (satRef _ (HS1.out.keep (Below.agree hkb')) hvf.out).mono ?_; rw [hsat]; rintro e w7 ⟨rfl, rfl⟩)
                go_ret
                exact ⟨rfl, b4.out.trans (hkb'.mono b4.out.size)⟩
              | false =>
                have hP2 := HPN.out hsat
                rw [hP2]
                clear hri hrn hP2
                go_wp2_with (go_at_call 25; refine (satRef _ (HS1.out.keep (Below.agree hkb')) hvf.out).mono ?_; rw [hsat]; rintro e w7 ⟨rfl, rfl⟩)
                go_ret
                exact ⟨rfl, b4.out.trans (hkb'.mono b4.out.size)⟩
            · have r1 : ¬ (R : Int) < (n : Int) := by omega
              have hP2 : P.2 = 0 := by
                cases hsat : satB (fl x 0) with
                | true => rw [HPP.out hsat, if_pos (by omega)]
                | false => exact HPN.out hsat
              rw [hP2]
              clear hri hrn hP2
              go_wp2_with fail
              go_ret
              exact ⟨rfl, b4.out.trans (hkb'.mono b4.out.size)⟩
      · have hP2 : P.2 = 0 := by
          have hb := HB.out
          cases hsat : satB (fl x 0) with
          | true =>
            have hMz : M = 0 := by have := HSM.out hsat; omega
            rw [if_pos hsat, HSM.out hsat, hMz, Int.zero_pow (by omega), Int.mul_zero] at hb
            rw [HCH.out, hb]; rfl
          | false =>
            rw [hsat, if_neg (by simp)] at hb
            rw [HCH.out, hb]; rfl
        rw [hP2]
        clear hP2
        go_wp2_with fail
        obtain ⟨wl, hwl⟩ : ∃ wl : World, Below w4.heap.size w4 wl := ⟨w4, br⟩
        clear hwl wl
        go_loopw [12] (fun i wr => i = .int .i64 0 ∧ Hid (Below w4.heap.size w4 wr)) (fun _ _ => 0)
        case atStart => exact ⟨rfl, Lib.hid (by assumption)⟩
        case round =>
          obtain ⟨rfl, hbr⟩ := hrel
          have hkb' := hbr.out
          have hk0' : (0 : Int) < (kk : Int) := by omega
          go_wp2_with fail
          go_ret
          exact ⟨rfl, b4.out.trans (hkb'.mono b4.out.size)⟩
    · have e3 : (x.kind != 3) = true := bneT hk3
      have hP0 : P.2 = 0 := by rw [HCH.out, plain_ok HV.out hk3 (by omega) (by omega)]; rfl
      rw [hP0]
      clear hP0 hkm
      by_cases h4 : 4 ≤ x.kind
      · by_cases h6 : x.kind ≤ 6
        · obtain rfl : c2 = 0 := by omega
          clear hnw hc22
          go_wp2_with fail
          go_ret
          exact ⟨rfl, b4.out⟩
        · have f6 : decide (x.kind ≤ 6) = false := decide_eq_false h6
          clear hnw hc22
          go_wp2_with fail
          go_ret
          exact ⟨rfl, b4.out⟩
      · have f4 : decide (4 ≤ x.kind) = false := decide_eq_false h4
        clear hnw hc22
        go_wp2_with fail
        go_ret
        exact ⟨rfl, b4.out⟩
end Go.Proofs.YtihcaoipemcddaaDoor
