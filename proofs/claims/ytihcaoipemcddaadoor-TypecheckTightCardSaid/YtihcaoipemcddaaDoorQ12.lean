/-
  Contracts of the type checker (XQ12): bounds of powers.
-/
import Derived.Test.YtihcaoipemcddaaDoorQ11
namespace Go.Proofs.YtihcaoipemcddaaDoor
open Go.RowKit

def momF (l : List Cd) (col rows : Int) (e : Nat) : List Int × Bool := if satB l then ([powF rows (underF l col).2 e], decide (powF rows (underF l col).2 e < two62)) else ([0], true)
theorem momF_sat {l : List Cd} {col : Int} {n m P e : Nat} (hs : satB l = true) (hm : (underF l col).2 = (m : Int)) (hP : n * m ^ e = P) : momF l col n e = ([(P : Int)], under62 P) := by
  have e1 : powF n (underF l col).2 e = (P : Int) := by rw [hm, ← hP]; unfold powF; rw [Int.natCast_mul, Int.natCast_pow]
  unfold momF
  rw [hs, if_pos rfl, e1]
  have e2 : decide ((P : Int) < two62) = under62 P := decide_eq_decide.2 (by unfold two62; omega)
  rw [e2]
theorem powerI {r mm kk : Int} {n m k P : Nat} (w : World) (hr : r = n) (hmm : mm = m) (hkk : kk = k) (hn : n ≤ 65536) (hm : m ≤ 255) (hk : k ≤ 6) (hP : n * m ^ k = P) :
    Calls Tryd.prog 58 #[.int .i64 r, .int .i64 mm, .int .i64 kk] w fun e w' => e = .returned (.tuple #[.int .i64 (wrap64 (P : Int)), .bool (under62 P)]) ∧ Below w.heap.size w w' := by
  subst hr; subst hmm; subst hkk
  exact powerP w hn hm hk hP
theorem kinds1P {q : Qy} {A : Option Addr} {c : Nat} (w : World) : Calls Tryd.prog 46 #[(.agg #[.int .i64 q.kind, .int .i64 q.col, .int .i64 q.k, .slice A q.fs.length c])] w fun e w' => e = .returned (.int .i64 0) ∧ Below w.heap.size w w' := by
  go_enter Tryd.func46, Tryd.ntmps46
  go_wp2_with fail
  go_ret
  exact ⟨rfl, by first | exact Below.refl _ _ | exact (by repeat' (first | with_reducible exact Below.refl _ _ | with_reducible assumption | with_reducible refine Below.setCell ?_ ?_ _ | with_reducible refine Below.drew ?_ | with_reducible refine below_drewN ?_ _ | with_reducible refine Below.alloc ?_ ?_ _ | (rintro _ ⟨⟩; simp <;> omega) | omega | (simp <;> omega)))⟩
theorem kinds2P {q : Qy} {A : Option Addr} {c : Nat} (w : World) : Calls Tryd.prog 47 #[(.agg #[.int .i64 q.kind, .int .i64 q.col, .int .i64 q.k, .slice A q.fs.length c])] w fun e w' => e = .returned (.int .i64 1) ∧ Below w.heap.size w w' := by
  go_enter Tryd.func47, Tryd.ntmps47
  go_wp2_with fail
  go_ret
  exact ⟨rfl, by first | exact Below.refl _ _ | exact (by repeat' (first | with_reducible exact Below.refl _ _ | with_reducible assumption | with_reducible refine Below.setCell ?_ ?_ _ | with_reducible refine Below.drew ?_ | with_reducible refine below_drewN ?_ _ | with_reducible refine Below.alloc ?_ ?_ _ | (rintro _ ⟨⟩; simp <;> omega) | omega | (simp <;> omega)))⟩
theorem kinds3P {q : Qy} {A : Option Addr} {c : Nat} (w : World) : Calls Tryd.prog 48 #[(.agg #[.int .i64 q.kind, .int .i64 q.col, .int .i64 q.k, .slice A q.fs.length c])] w fun e w' => e = .returned (.int .i64 q.k) ∧ Below w.heap.size w w' := by
  go_enter Tryd.func48, Tryd.ntmps48
  go_wp2_with fail
  go_ret
  exact ⟨rfl, (by repeat' (first | with_reducible exact Below.refl _ _ | with_reducible assumption | with_reducible refine Below.setCell ?_ ?_ _ | with_reducible refine Below.drew ?_ | with_reducible refine below_drewN ?_ _ | with_reducible refine Below.alloc ?_ ?_ _ | (rintro _ ⟨⟩; simp <;> omega) | omega | (simp <;> omega)))⟩
theorem sl_one {w : World} {T : Nat → Prop} (x : Int) (h : T w.heap.size) : Sl .i64 T (w.alloc (.cells #[.int .i64 x] 2)) (some ⟨w.heap.size, 0, none⟩) 1 [x] :=
  Sl.litAt (S := fun _ => False) (cs := [.int .i64 x]) (xs := [x]) rfl (.single rfl) (by unfold maxLen; simp) (fun _ h _ => h.elim) h
def q12A : List FRow := [(0, ([], (18, [1]))), (1, ([], (19, [3]))), (2, ([1], (20, [18]))), (3, ([2], (21, [19]))), (4, ([3], (22, [20]))), (5, ([], (23, [3]))), (6, ([5], (24, [22]))), (7, ([4, 6], (25, [21, 23]))), (8, ([7], (26, [24]))), (9, ([], (27, [2]))), (10, ([], (28, [3]))), (11, ([9, 10, 7], (29, [26, 27]))), (12, ([0, 8, 11, 11], (30, [17, 25, 28]))), (13, ([12], (17, [29]))), (14, ([13], (31, [16]))), (15, ([13], (32, [16]))), (16, ([14, 12, 0, 1, 2, 3, 4, 5, 6, 7, 8, 9, 10, 11, 12, 13, 14], (8, [30]))), (17, ([15, 16, 0, 1, 2, 3, 4, 5, 6, 7, 8, 9, 10, 11, 12, 13, 14, 15, 16], (9, [31])))]
set_option maxRecDepth 100000 in
set_option maxHeartbeats 4000000 in
theorem moment1P1 {q : Qy} {A : Option Addr} {c p n : Nat} {S : Nat → Prop} (w : World) (hw : WidOk w) (h : Sl cdE.slice S w A c q.fs) (h0 : 0 < q.fs.length) (hv : ∀ x ∈ fl q 0, ValidCd x) (hc0 : 0 ≤ q.col) (hc3 : q.col ≤ 3) (hn : n ≤ 65536) (hk : True)
    (hp : w.cell? ⟨p, 0, none⟩ = some (.func (.func 46) #[] #[])) :
    Calls Tryd.prog 56 #[(.agg #[.int .i64 q.kind, .int .i64 q.col, .int .i64 q.k, .slice A q.fs.length c]), .int .i64 (n : Int), .pointer (some ⟨p, 0, none⟩)] w (BoundRes w (momF (fl q 0) q.col n (0))) := by
  have hm := h.max
  have H := Lib.hid h.old
  have HW := Lib.hid hw
  have hbd := under_bd hv q.col
  have lp := World.block_lt_of_cell? w _ hp
  clear h hw hv
  go_enter Tryd.func56, Tryd.ntmps56
  go_upto_region 1 with fail
  refine wp_world (F := fun wx => Below w.heap.size w wx ∧ Hid (wx.heap[w.heap.size]? = some (.cells #[.int .i64 q.kind, .int .i64 q.col, .int .i64 q.k, .slice A q.fs.length c] 24 (0, 0)))) ⟨(Below.refl _ _).alloc (Nat.le_refl _) _, Lib.hid (heap_alloc_at rfl)⟩ ?_
  rintro w1 ⟨bb, gq⟩
  have b0 := Lib.hid bb
  have H1 := Lib.hid (H.out.keep (Below.agree bb))
  have HW1 := mvW HW bb
  have hl : q.fs[0]? = some (fl q 0) := by unfold fl; rw [List.getD_eq_getElem?_getD, List.getElem?_eq_getElem h0]; rfl
  obtain ⟨b1, o1, B1, d1, rfl, -, l1, x1, hs1⟩ := flt_at H1.out hl
  simp only [Nat.add_zero] at x1
  obtain ⟨m, hm2⟩ : ∃ m : Nat, (underF (fl q 0) q.col).2 = m := ⟨(underF (fl q 0) q.col).2.toNat, by omega⟩
  have hm255 : m ≤ 255 := by omega
  obtain ⟨y0, y1, y2, y3⟩ := row4 gq
  have hp1 := (bb.cell (p := ⟨p, 0, none⟩) lp).trans hp
  have HS1 := Lib.hid hs1
  have hi0 : (0 : Int) < (q.fs.length : Int) := by omega
  have lq := heap_lt gq.out
  have lp1 := Nat.lt_of_lt_of_le lp bb.size
  clear bb hl hs1 hp lp hbd
  generalize fl q 0 = l at *
  have Hm2 := Lib.hid hm2
  clear hm2
  cases hsat : satB l with
  | false =>
    have hmf := Lib.hid (show momF l q.col n (0) = ([0], true) by unfold momF; rw [hsat]; rfl)
    go_wp2_with (go_at_call 57; refine (satP (l := l) _ HW1.out HS1.out).mono ?_; rw [hsat]; rintro e w2 ⟨rfl, hb2⟩)
    go_ret2
    rw [hmf.out]
    exact ⟨_, 1, [0], rfl, fun _ => rfl, sl_one 0 (by have := b0.out.size; have := hb2.size; omega), (b0.out.trans (hb2.mono b0.out.size)).alloc (by have := b0.out.size; have := hb2.size; omega) _⟩
  | true =>
    obtain ⟨P, hP⟩ : ∃ P, n * m ^ (0) = P := ⟨_, rfl⟩
    have hmf := Lib.hid (momF_sat (n := n) hsat Hm2.out hP)
    have HP := Lib.hid hP
    clear hP
    go_upto_region 3 with (go_at_call 57; refine (satP (l := l) _ HW1.out HS1.out).mono ?_; rw [hsat]; rintro e w2 ⟨rfl, hb2⟩)
    have b2 := Lib.hid (b0.out.trans (hb2.mono b0.out.size))
    have gq2 := mvQ gq hb2
    have HS2 := Lib.hid (HS1.out.keep (Below.agree hb2))
    have HW2 := mvW HW1 hb2
    have z1 := hold ((hb2.cell (p := ⟨b1, o1, none⟩) l1).trans x1)
    have z2 := hold ((hb2.cell (p := ⟨p, 0, none⟩) lp1).trans hp1)
    have zq : ∀ W, Below w2.heap.size w2 W → _ ∧ _ ∧ _ ∧ _ := fun W hW => row4 (mvQ gq2 hW)
    have br : Below w2.heap.size w2 w2 := Below.refl _ _
    have ba : ∀ W o, Below w2.heap.size w2 W → Below w2.heap.size w2 (W.alloc o) := fun W o h => h.alloc h.size o
    have bc : ∀ W W', Below w2.heap.size w2 W → Below W.heap.size W W' → Below w2.heap.size w2 W' := fun W W' h k => h.trans (k.mono h.size)
    clear hb2 gq y0 y1 y2 y3 hp1 x1
    have hf : ∀ a b w, (Instr.field 89 (.agg #[.int .i64 a, .int .i64 b]) 1).run Tryd.prog w = .ok (.int .i64 b) w := fun _ _ _ => by kernel_rfl
    refine wp_region_noPanic ?_
    refine wp_region_held_drew (S := fun X => Below w2.heap.size w2 X) (by kernel_rfl) ?_ (fun hHeld => ?_)
    · (first | with_reducible assumption | (with_reducible refine Below.drew ?_; with_reducible assumption) | (with_reducible refine ba _ _ ?_; with_reducible assumption) | (with_reducible refine Below.drew ?_; with_reducible refine ba _ _ ?_; with_reducible assumption) | exact Below.refl _ _ | exact (Below.refl _ _).drew | exact (Below.refl _ _).alloc (Nat.le_refl _) _ | (refine bc _ _ (by assumption) (by assumption)))
    refine RegOk.begin_ (n := 18) (T := q12A) ⟨by kernel_rfl, by kernel_rfl, by kernel_rfl, by kernel_rfl⟩ fun hR => ?_
    refine hR.take (i := 0) (oi := ?ow1_0) (v := ?vw1_0) (m' := 1) ?hw1_0 (by kernel_rfl) (by kernel_rfl) (fun _ _ _ h => h) (Or.inl ⟨?sw1_0, ?yw1_0⟩) (by assumption) ?nw1_0
    case hw1_0 => simp only [List.getElem?_toArray, List.getElem?_cons_succ, List.getElem?_cons_zero]; rfl
    case sw1_0 => rfl
    case yw1_0 => (intro w hSw; (try dsimp only at hSw); go_simp <;> with_reducible rfl)
    try simp only [Act.put, List.setIfInBounds_toArray, List.set_cons_zero, List.set_cons_succ]
    refine hR.take (i := 1) (oi := ?ow2_1) (v := ?vw2_1) (m' := 3) ?hw2_1 (by kernel_rfl) (by kernel_rfl) (fun _ _ _ h => h) (Or.inl ⟨?sw2_1, ?yw2_1⟩) (by assumption) ?nw2_1
    case hw2_1 => simp only [List.getElem?_toArray, List.getElem?_cons_succ, List.getElem?_cons_zero]; rfl
    case sw2_1 => rfl
    case yw2_1 => (intro w hSw; (try dsimp only at hSw); go_simp <;> with_reducible rfl)
    try simp only [Act.put, List.setIfInBounds_toArray, List.set_cons_zero, List.set_cons_succ]
    refine hR.take (i := 2) (oi := ?ow3_2) (v := ?vw3_2) (m' := 7) ?hw3_2 (by kernel_rfl) (by kernel_rfl) (fun _ _ _ h => h) (Or.inl ⟨?sw3_2, ?yw3_2⟩) (by assumption) ?nw3_2
    case hw3_2 => simp only [List.getElem?_toArray, List.getElem?_cons_succ, List.getElem?_cons_zero]; rfl
    case sw3_2 => rfl
    case yw3_2 => (intro w hSw; (try dsimp only at hSw); go_simp <;> with_reducible rfl)
    try simp only [Act.put, List.setIfInBounds_toArray, List.set_cons_zero, List.set_cons_succ]
    refine hR.take (i := 3) (oi := ?ow4_3) (v := ?vw4_3) (m' := 15) ?hw4_3 (by kernel_rfl) (by kernel_rfl) (fun _ _ _ h => h) (Or.inl ⟨?sw4_3, ?yw4_3⟩) (by assumption) ?nw4_3
    case hw4_3 => simp only [List.getElem?_toArray, List.getElem?_cons_succ, List.getElem?_cons_zero]; rfl
    case sw4_3 => rfl
    case yw4_3 => (intro w hSw; (try dsimp only at hSw); go_simp <;> with_reducible rfl)
    try simp only [Act.put, List.setIfInBounds_toArray, List.set_cons_zero, List.set_cons_succ]
    refine hR.take (i := 4) (oi := ?ow5_4) (v := ?vw5_4) (m' := 31) ?hw5_4 (by kernel_rfl) (by kernel_rfl) (fun _ _ _ h => h) (Or.inl ⟨?sw5_4, ?yw5_4⟩) (by assumption) ?nw5_4
    case hw5_4 => simp only [List.getElem?_toArray, List.getElem?_cons_succ, List.getElem?_cons_zero]; rfl
    case sw5_4 => rfl
    case yw5_4 => (intro w hSw; (try dsimp only at hSw); go_simp <;> with_reducible rfl)
    try simp only [Act.put, List.setIfInBounds_toArray, List.set_cons_zero, List.set_cons_succ]
    refine hR.take (i := 5) (oi := ?ow6_5) (v := ?vw6_5) (m' := 63) ?hw6_5 (by kernel_rfl) (by kernel_rfl) (fun _ _ _ h => h) (Or.inl ⟨?sw6_5, ?yw6_5⟩) (by assumption) ?nw6_5
    case hw6_5 => simp only [List.getElem?_toArray, List.getElem?_cons_succ, List.getElem?_cons_zero]; rfl
    case sw6_5 => rfl
    case yw6_5 => (intro w hSw; (try dsimp only at hSw); go_simp <;> with_reducible rfl)
    try simp only [Act.put, List.setIfInBounds_toArray, List.set_cons_zero, List.set_cons_succ]
    refine hR.take (i := 6) (oi := ?ow7_6) (v := ?vw7_6) (m' := 127) ?hw7_6 (by kernel_rfl) (by kernel_rfl) (fun _ _ _ h => h) (Or.inl ⟨?sw7_6, ?yw7_6⟩) (by assumption) ?nw7_6
    case hw7_6 => simp only [List.getElem?_toArray, List.getElem?_cons_succ, List.getElem?_cons_zero]; rfl
    case sw7_6 => rfl
    case yw7_6 => (intro w hSw; (try dsimp only at hSw); go_simp <;> with_reducible rfl)
    try simp only [Act.put, List.setIfInBounds_toArray, List.set_cons_zero, List.set_cons_succ]
    refine hR.take (i := 9) (oi := ?ow8_9) (v := ?vw8_9) (m' := 639) ?hw8_9 (by kernel_rfl) (by kernel_rfl) (fun _ _ _ h => h) (Or.inl ⟨?sw8_9, ?yw8_9⟩) (by assumption) ?nw8_9
    case hw8_9 => simp only [List.getElem?_toArray, List.getElem?_cons_succ, List.getElem?_cons_zero]; rfl
    case sw8_9 => rfl
    case yw8_9 => (intro w hSw; (try dsimp only at hSw); go_simp <;> with_reducible rfl)
    try simp only [Act.put, List.setIfInBounds_toArray, List.set_cons_zero, List.set_cons_succ]
    refine hR.take (i := 10) (oi := ?ow9_10) (v := ?vw9_10) (m' := 1663) ?hw9_10 (by kernel_rfl) (by kernel_rfl) (fun _ _ _ h => h) (Or.inl ⟨?sw9_10, ?yw9_10⟩) (by assumption) ?nw9_10
    case hw9_10 => simp only [List.getElem?_toArray, List.getElem?_cons_succ, List.getElem?_cons_zero]; rfl
    case sw9_10 => rfl
    case yw9_10 => (intro w hSw; (try dsimp only at hSw); go_simp <;> with_reducible rfl)
    try simp only [Act.put, List.setIfInBounds_toArray, List.set_cons_zero, List.set_cons_succ]
    refine hR.come (rs := [7]) (by kernel_rfl) (by simp) ?_
    refine AllReadyH.cons (o := ?o10_7) ?h10_7 (fun K hK => ?kw10_7) AllReadyH.nil
    case h10_7 => simp only [List.getElem?_toArray, List.getElem?_cons_succ, List.getElem?_cons_zero]; rfl
    go_simp
    go_at_call 59; refine (underP (l := l) q.col _ (HW2.out.keep (by (first | with_reducible assumption | (with_reducible refine Below.drew ?_; with_reducible assumption) | (with_reducible refine ba _ _ ?_; with_reducible assumption) | (with_reducible refine Below.drew ?_; with_reducible refine ba _ _ ?_; with_reducible assumption) | exact Below.refl _ _ | exact (Below.refl _ _).drew | exact (Below.refl _ _).alloc (Nat.le_refl _) _ | (refine bc _ _ (by assumption) (by assumption))))) (HS2.out.keep (Below.agree (by (first | with_reducible assumption | (with_reducible refine Below.drew ?_; with_reducible assumption) | (with_reducible refine ba _ _ ?_; with_reducible assumption) | (with_reducible refine Below.drew ?_; with_reducible refine ba _ _ ?_; with_reducible assumption) | exact Below.refl _ _ | exact (Below.refl _ _).drew | exact (Below.refl _ _).alloc (Nat.le_refl _) _ | (refine bc _ _ (by assumption) (by assumption)))))) (by omega) (by omega)).mono ?_; rw [Hm2.out]; rintro e w3 ⟨rfl, hb3⟩; have hk3 := bc _ _ (by (first | with_reducible assumption | (with_reducible refine Below.drew ?_; with_reducible assumption) | (with_reducible refine ba _ _ ?_; with_reducible assumption) | (with_reducible refine Below.drew ?_; with_reducible refine ba _ _ ?_; with_reducible assumption) | exact Below.refl _ _ | exact (Below.refl _ _).drew | exact (Below.refl _ _).alloc (Nat.le_refl _) _ | (refine bc _ _ (by assumption) (by assumption)))) hb3
    refine hK.out _ _ ?_ (fun hHeld => ?_)
    · (first | with_reducible assumption | (with_reducible refine Below.drew ?_; with_reducible assumption) | (with_reducible refine ba _ _ ?_; with_reducible assumption) | (with_reducible refine Below.drew ?_; with_reducible refine ba _ _ ?_; with_reducible assumption) | exact Below.refl _ _ | exact (Below.refl _ _).drew | exact (Below.refl _ _).alloc (Nat.le_refl _) _ | (refine bc _ _ (by assumption) (by assumption)))
    clear hK K
    refine RegOk.put_ (m' := 1791) (by kernel_rfl) ?_
    try simp only [Act.put, List.setIfInBounds_toArray, List.set_cons_zero, List.set_cons_succ]
    refine hR.take (i := 8) (oi := ?ow11_8) (v := ?vw11_8) (m' := 2047) ?hw11_8 (by kernel_rfl) (by kernel_rfl) (fun _ _ _ h => h) (Or.inl ⟨?sw11_8, ?yw11_8⟩) (by assumption) ?nw11_8
    case hw11_8 => simp only [List.getElem?_toArray, List.getElem?_cons_succ, List.getElem?_cons_zero]; rfl
    case sw11_8 => rfl
    case yw11_8 => (intro w hSw; (try dsimp only at hSw); go_simp <;> with_reducible rfl)
    try simp only [Act.put, List.setIfInBounds_toArray, List.set_cons_zero, List.set_cons_succ]
    refine hR.come (rs := [11]) (by kernel_rfl) (by simp) ?_
    refine AllReadyH.cons (o := ?o12_11) ?h12_11 (fun K hK => ?kw12_11) AllReadyH.nil
    case h12_11 => simp only [List.getElem?_toArray, List.getElem?_cons_succ, List.getElem?_cons_zero]; rfl
    go_simp
    go_at_call 46; refine (kinds1P _).mono ?_; rintro e w4 ⟨rfl, hb4⟩; have hk4 := bc _ _ (by (first | with_reducible assumption | (with_reducible refine Below.drew ?_; with_reducible assumption) | (with_reducible refine ba _ _ ?_; with_reducible assumption) | (with_reducible refine Below.drew ?_; with_reducible refine ba _ _ ?_; with_reducible assumption) | exact Below.refl _ _ | exact (Below.refl _ _).drew | exact (Below.refl _ _).alloc (Nat.le_refl _) _ | (refine bc _ _ (by assumption) (by assumption)))) hb4
    refine hK.out _ _ ?_ (fun hHeld => ?_)
    · (first | with_reducible assumption | (with_reducible refine Below.drew ?_; with_reducible assumption) | (with_reducible refine ba _ _ ?_; with_reducible assumption) | (with_reducible refine Below.drew ?_; with_reducible refine ba _ _ ?_; with_reducible assumption) | exact Below.refl _ _ | exact (Below.refl _ _).drew | exact (Below.refl _ _).alloc (Nat.le_refl _) _ | (refine bc _ _ (by assumption) (by assumption)))
    clear hK K
    refine RegOk.put_ (m' := 4095) (by kernel_rfl) ?_
    try simp only [Act.put, List.setIfInBounds_toArray, List.set_cons_zero, List.set_cons_succ]
    refine hR.come (rs := [12]) (by kernel_rfl) (by simp) ?_
    refine AllReadyH.cons (o := ?o13_12) ?h13_12 (fun K hK => ?kw13_12) AllReadyH.nil
    case h13_12 => simp only [List.getElem?_toArray, List.getElem?_cons_succ, List.getElem?_cons_zero]; rfl
    go_simp
    go_at_call 58; refine (powerI (k := 0) _ rfl rfl (by omega) hn hm255 (by omega) HP.out).mono ?_; rintro e w5 ⟨rfl, hb5⟩; have hk5 := bc _ _ (by (first | with_reducible assumption | (with_reducible refine Below.drew ?_; with_reducible assumption) | (with_reducible refine ba _ _ ?_; with_reducible assumption) | (with_reducible refine Below.drew ?_; with_reducible refine ba _ _ ?_; with_reducible assumption) | exact Below.refl _ _ | exact (Below.refl _ _).drew | exact (Below.refl _ _).alloc (Nat.le_refl _) _ | (refine bc _ _ (by assumption) (by assumption)))) hb5
    refine hK.out _ _ ?_ (fun hHeld => ?_)
    · (first | with_reducible assumption | (with_reducible refine Below.drew ?_; with_reducible assumption) | (with_reducible refine ba _ _ ?_; with_reducible assumption) | (with_reducible refine Below.drew ?_; with_reducible refine ba _ _ ?_; with_reducible assumption) | exact Below.refl _ _ | exact (Below.refl _ _).drew | exact (Below.refl _ _).alloc (Nat.le_refl _) _ | (refine bc _ _ (by assumption) (by assumption)))
    clear hK K
    refine RegOk.put_ (m' := 8191) (by kernel_rfl) ?_
    try simp only [Act.put, List.setIfInBounds_toArray, List.set_cons_zero, List.set_cons_succ]
    refine hR.take (i := 13) (oi := ?ow14_13) (v := ?vw14_13) (m' := 16383) ?hw14_13 (by kernel_rfl) (by kernel_rfl) (fun _ _ _ h => h) (Or.inl ⟨?sw14_13, ?yw14_13⟩) (by assumption) ?nw14_13
    case hw14_13 => simp only [List.getElem?_toArray, List.getElem?_cons_succ, List.getElem?_cons_zero]; rfl
    case sw14_13 => rfl
    case yw14_13 => (intro w hSw; (try dsimp only at hSw); go_simp <;> with_reducible rfl)
    try simp only [Act.put, List.setIfInBounds_toArray, List.set_cons_zero, List.set_cons_succ]
    refine hR.take (i := 14) (oi := ?ow15_14) (v := ?vw15_14) (m' := 32767) ?hw15_14 (by kernel_rfl) (by kernel_rfl) (fun _ _ _ h => h) (Or.inl ⟨?sw15_14, ?yw15_14⟩) (by assumption) ?nw15_14
    case hw15_14 => simp only [List.getElem?_toArray, List.getElem?_cons_succ, List.getElem?_cons_zero]; rfl
    case sw15_14 => rfl
    case yw15_14 => (intro w hSw; (try dsimp only at hSw); go_simp <;> with_reducible rfl)
    try simp only [Act.put, List.setIfInBounds_toArray, List.set_cons_zero, List.set_cons_succ]
    refine hR.take (i := 15) (oi := ?ow16_15) (v := ?vw16_15) (m' := 65535) ?hw16_15 (by kernel_rfl) (by kernel_rfl) (fun _ _ _ h => h) (Or.inl ⟨?sw16_15, ?yw16_15⟩) (by assumption) ?nw16_15
    case hw16_15 => simp only [List.getElem?_toArray, List.getElem?_cons_succ, List.getElem?_cons_zero]; rfl
    case sw16_15 => rfl
    case yw16_15 => (intro w hSw; (try dsimp only at hSw); go_simp <;> with_reducible rfl)
    try simp only [Act.put, List.setIfInBounds_toArray, List.set_cons_zero, List.set_cons_succ]
    refine hR.take (i := 16) (oi := ?ow17_16) (v := ?vw17_16) (m' := 131071) ?hw17_16 (by kernel_rfl) (by kernel_rfl) (fun _ _ _ h => h) (Or.inl ⟨?sw17_16, ?yw17_16⟩) (by assumption) ?nw17_16
    case hw17_16 => simp only [List.getElem?_toArray, List.getElem?_cons_succ, List.getElem?_cons_zero]; rfl
    case sw17_16 => rfl
    case yw17_16 => (intro w hSw; (try dsimp only at hSw); go_simp <;> with_reducible rfl)
    try simp only [Act.put, List.setIfInBounds_toArray, List.set_cons_zero, List.set_cons_succ]
    refine hR.take (i := 17) (oi := ?ow18_17) (v := ?vw18_17) (m' := 262143) ?hw18_17 (by kernel_rfl) (by kernel_rfl) (fun _ _ _ h => h) (Or.inl ⟨?sw18_17, ?yw18_17⟩) (by assumption) ?nw18_17
    case hw18_17 => simp only [List.getElem?_toArray, List.getElem?_cons_succ, List.getElem?_cons_zero]; rfl
    case sw18_17 => rfl
    case yw18_17 => (intro w hSw; (try dsimp only at hSw); go_simp <;> with_reducible rfl)
    try simp only [Act.put, List.setIfInBounds_toArray, List.set_cons_zero, List.set_cons_succ]
    refine hR.all (by kernel_rfl) ?_ _
    refine NoPanic.normal ?_
    go_wp2_with fail
    go_ret2
    rw [hmf.out]
    have hz5 : w.heap.size ≤ w5.heap.size := Nat.le_trans b2.out.size hk5.size
    have hb5 : Below w.heap.size w w5 := b2.out.trans (hk5.mono b2.out.size)
    refine ⟨_, 1, [wrap64 (P : Int)], rfl, fun h => ?_, ?_, ?_⟩
    · have hP2 : P < 4611686018427387904 := of_decide_eq_true h
      rw [IntWalk.wrap64_in (P : Int) (by omega)]
    · first | exact sl_one _ hz5 | exact (sl_one _ hz5).drew
    · first | exact hb5.alloc hz5 _ | exact (hb5.alloc hz5 _).drew
set_option maxRecDepth 100000 in
set_option maxHeartbeats 4000000 in
theorem moment1P2 {q : Qy} {A : Option Addr} {c p n : Nat} {S : Nat → Prop} (w : World) (hw : WidOk w) (h : Sl cdE.slice S w A c q.fs) (h0 : 0 < q.fs.length) (hv : ∀ x ∈ fl q 0, ValidCd x) (hc0 : 0 ≤ q.col) (hc3 : q.col ≤ 3) (hn : n ≤ 65536) (hk : True)
    (hp : w.cell? ⟨p, 0, none⟩ = some (.func (.func 47) #[] #[])) :
    Calls Tryd.prog 56 #[(.agg #[.int .i64 q.kind, .int .i64 q.col, .int .i64 q.k, .slice A q.fs.length c]), .int .i64 (n : Int), .pointer (some ⟨p, 0, none⟩)] w (BoundRes w (momF (fl q 0) q.col n (1))) := by
  have hm := h.max
  have H := Lib.hid h.old
  have HW := Lib.hid hw
  have hbd := under_bd hv q.col
  have lp := World.block_lt_of_cell? w _ hp
  clear h hw hv
  go_enter Tryd.func56, Tryd.ntmps56
  go_upto_region 1 with fail
  refine wp_world (F := fun wx => Below w.heap.size w wx ∧ Hid (wx.heap[w.heap.size]? = some (.cells #[.int .i64 q.kind, .int .i64 q.col, .int .i64 q.k, .slice A q.fs.length c] 24 (0, 0)))) ⟨(Below.refl _ _).alloc (Nat.le_refl _) _, Lib.hid (heap_alloc_at rfl)⟩ ?_
  rintro w1 ⟨bb, gq⟩
  have b0 := Lib.hid bb
  have H1 := Lib.hid (H.out.keep (Below.agree bb))
  have HW1 := mvW HW bb
  have hl : q.fs[0]? = some (fl q 0) := by unfold fl; rw [List.getD_eq_getElem?_getD, List.getElem?_eq_getElem h0]; rfl
  obtain ⟨b1, o1, B1, d1, rfl, -, l1, x1, hs1⟩ := flt_at H1.out hl
  simp only [Nat.add_zero] at x1
  obtain ⟨m, hm2⟩ : ∃ m : Nat, (underF (fl q 0) q.col).2 = m := ⟨(underF (fl q 0) q.col).2.toNat, by omega⟩
  have hm255 : m ≤ 255 := by omega
  obtain ⟨y0, y1, y2, y3⟩ := row4 gq
  have hp1 := (bb.cell (p := ⟨p, 0, none⟩) lp).trans hp
  have HS1 := Lib.hid hs1
  have hi0 : (0 : Int) < (q.fs.length : Int) := by omega
  have lq := heap_lt gq.out
  have lp1 := Nat.lt_of_lt_of_le lp bb.size
  clear bb hl hs1 hp lp hbd
  generalize fl q 0 = l at *
  have Hm2 := Lib.hid hm2
  clear hm2
  cases hsat : satB l with
  | false =>
    have hmf := Lib.hid (show momF l q.col n (1) = ([0], true) by unfold momF; rw [hsat]; rfl)
    go_wp2_with (go_at_call 57; refine (satP (l := l) _ HW1.out HS1.out).mono ?_; rw [hsat]; rintro e w2 ⟨rfl, hb2⟩)
    go_ret2
    rw [hmf.out]
    exact ⟨_, 1, [0], rfl, fun _ => rfl, sl_one 0 (by have := b0.out.size; have := hb2.size; omega), (b0.out.trans (hb2.mono b0.out.size)).alloc (by have := b0.out.size; have := hb2.size; omega) _⟩
  | true =>
    obtain ⟨P, hP⟩ : ∃ P, n * m ^ (1) = P := ⟨_, rfl⟩
    have hmf := Lib.hid (momF_sat (n := n) hsat Hm2.out hP)
    have HP := Lib.hid hP
    clear hP
    go_upto_region 3 with (go_at_call 57; refine (satP (l := l) _ HW1.out HS1.out).mono ?_; rw [hsat]; rintro e w2 ⟨rfl, hb2⟩)
    have b2 := Lib.hid (b0.out.trans (hb2.mono b0.out.size))
    have gq2 := mvQ gq hb2
    have HS2 := Lib.hid (HS1.out.keep (Below.agree hb2))
    have HW2 := mvW HW1 hb2
    have z1 := hold ((hb2.cell (p := ⟨b1, o1, none⟩) l1).trans x1)
    have z2 := hold ((hb2.cell (p := ⟨p, 0, none⟩) lp1).trans hp1)
    have zq : ∀ W, Below w2.heap.size w2 W → _ ∧ _ ∧ _ ∧ _ := fun W hW => row4 (mvQ gq2 hW)
    have br : Below w2.heap.size w2 w2 := Below.refl _ _
    have ba : ∀ W o, Below w2.heap.size w2 W → Below w2.heap.size w2 (W.alloc o) := fun W o h => h.alloc h.size o
    have bc : ∀ W W', Below w2.heap.size w2 W → Below W.heap.size W W' → Below w2.heap.size w2 W' := fun W W' h k => h.trans (k.mono h.size)
    clear hb2 gq y0 y1 y2 y3 hp1 x1
    have hf : ∀ a b w, (Instr.field 89 (.agg #[.int .i64 a, .int .i64 b]) 1).run Tryd.prog w = .ok (.int .i64 b) w := fun _ _ _ => by kernel_rfl
    refine wp_region_noPanic ?_
    refine wp_region_held_drew (S := fun X => Below w2.heap.size w2 X) (by kernel_rfl) ?_ (fun hHeld => ?_)
    · (first | with_reducible assumption | (with_reducible refine Below.drew ?_; with_reducible assumption) | (with_reducible refine ba _ _ ?_; with_reducible assumption) | (with_reducible refine Below.drew ?_; with_reducible refine ba _ _ ?_; with_reducible assumption) | exact Below.refl _ _ | exact (Below.refl _ _).drew | exact (Below.refl _ _).alloc (Nat.le_refl _) _ | (refine bc _ _ (by assumption) (by assumption)))
    refine RegOk.begin_ (n := 18) (T := q12A) ⟨by kernel_rfl, by kernel_rfl, by kernel_rfl, by kernel_rfl⟩ fun hR => ?_
    refine hR.take (i := 0) (oi := ?ow19_0) (v := ?vw19_0) (m' := 1) ?hw19_0 (by kernel_rfl) (by kernel_rfl) (fun _ _ _ h => h) (Or.inl ⟨?sw19_0, ?yw19_0⟩) (by assumption) ?nw19_0
    case hw19_0 => simp only [List.getElem?_toArray, List.getElem?_cons_succ, List.getElem?_cons_zero]; rfl
    case sw19_0 => rfl
    case yw19_0 => (intro w hSw; (try dsimp only at hSw); go_simp <;> with_reducible rfl)
    try simp only [Act.put, List.setIfInBounds_toArray, List.set_cons_zero, List.set_cons_succ]
    refine hR.take (i := 1) (oi := ?ow20_1) (v := ?vw20_1) (m' := 3) ?hw20_1 (by kernel_rfl) (by kernel_rfl) (fun _ _ _ h => h) (Or.inl ⟨?sw20_1, ?yw20_1⟩) (by assumption) ?nw20_1
    case hw20_1 => simp only [List.getElem?_toArray, List.getElem?_cons_succ, List.getElem?_cons_zero]; rfl
    case sw20_1 => rfl
    case yw20_1 => (intro w hSw; (try dsimp only at hSw); go_simp <;> with_reducible rfl)
    try simp only [Act.put, List.setIfInBounds_toArray, List.set_cons_zero, List.set_cons_succ]
    refine hR.take (i := 2) (oi := ?ow21_2) (v := ?vw21_2) (m' := 7) ?hw21_2 (by kernel_rfl) (by kernel_rfl) (fun _ _ _ h => h) (Or.inl ⟨?sw21_2, ?yw21_2⟩) (by assumption) ?nw21_2
    case hw21_2 => simp only [List.getElem?_toArray, List.getElem?_cons_succ, List.getElem?_cons_zero]; rfl
    case sw21_2 => rfl
    case yw21_2 => (intro w hSw; (try dsimp only at hSw); go_simp <;> with_reducible rfl)
    try simp only [Act.put, List.setIfInBounds_toArray, List.set_cons_zero, List.set_cons_succ]
    refine hR.take (i := 3) (oi := ?ow22_3) (v := ?vw22_3) (m' := 15) ?hw22_3 (by kernel_rfl) (by kernel_rfl) (fun _ _ _ h => h) (Or.inl ⟨?sw22_3, ?yw22_3⟩) (by assumption) ?nw22_3
    case hw22_3 => simp only [List.getElem?_toArray, List.getElem?_cons_succ, List.getElem?_cons_zero]; rfl
    case sw22_3 => rfl
    case yw22_3 => (intro w hSw; (try dsimp only at hSw); go_simp <;> with_reducible rfl)
    try simp only [Act.put, List.setIfInBounds_toArray, List.set_cons_zero, List.set_cons_succ]
    refine hR.take (i := 4) (oi := ?ow23_4) (v := ?vw23_4) (m' := 31) ?hw23_4 (by kernel_rfl) (by kernel_rfl) (fun _ _ _ h => h) (Or.inl ⟨?sw23_4, ?yw23_4⟩) (by assumption) ?nw23_4
    case hw23_4 => simp only [List.getElem?_toArray, List.getElem?_cons_succ, List.getElem?_cons_zero]; rfl
    case sw23_4 => rfl
    case yw23_4 => (intro w hSw; (try dsimp only at hSw); go_simp <;> with_reducible rfl)
    try simp only [Act.put, List.setIfInBounds_toArray, List.set_cons_zero, List.set_cons_succ]
    refine hR.take (i := 5) (oi := ?ow24_5) (v := ?vw24_5) (m' := 63) ?hw24_5 (by kernel_rfl) (by kernel_rfl) (fun _ _ _ h => h) (Or.inl ⟨?sw24_5, ?yw24_5⟩) (by assumption) ?nw24_5
    case hw24_5 => simp only [List.getElem?_toArray, List.getElem?_cons_succ, List.getElem?_cons_zero]; rfl
    case sw24_5 => rfl
    case yw24_5 => (intro w hSw; (try dsimp only at hSw); go_simp <;> with_reducible rfl)
    try simp only [Act.put, List.setIfInBounds_toArray, List.set_cons_zero, List.set_cons_succ]
    refine hR.take (i := 6) (oi := ?ow25_6) (v := ?vw25_6) (m' := 127) ?hw25_6 (by kernel_rfl) (by kernel_rfl) (fun _ _ _ h => h) (Or.inl ⟨?sw25_6, ?yw25_6⟩) (by assumption) ?nw25_6
    case hw25_6 => simp only [List.getElem?_toArray, List.getElem?_cons_succ, List.getElem?_cons_zero]; rfl
    case sw25_6 => rfl
    case yw25_6 => (intro w hSw; (try dsimp only at hSw); go_simp <;> with_reducible rfl)
    try simp only [Act.put, List.setIfInBounds_toArray, List.set_cons_zero, List.set_cons_succ]
    refine hR.take (i := 9) (oi := ?ow26_9) (v := ?vw26_9) (m' := 639) ?hw26_9 (by kernel_rfl) (by kernel_rfl) (fun _ _ _ h => h) (Or.inl ⟨?sw26_9, ?yw26_9⟩) (by assumption) ?nw26_9
    case hw26_9 => simp only [List.getElem?_toArray, List.getElem?_cons_succ, List.getElem?_cons_zero]; rfl
    case sw26_9 => rfl
    case yw26_9 => (intro w hSw; (try dsimp only at hSw); go_simp <;> with_reducible rfl)
    try simp only [Act.put, List.setIfInBounds_toArray, List.set_cons_zero, List.set_cons_succ]
    refine hR.take (i := 10) (oi := ?ow27_10) (v := ?vw27_10) (m' := 1663) ?hw27_10 (by kernel_rfl) (by kernel_rfl) (fun _ _ _ h => h) (Or.inl ⟨?sw27_10, ?yw27_10⟩) (by assumption) ?nw27_10
    case hw27_10 => simp only [List.getElem?_toArray, List.getElem?_cons_succ, List.getElem?_cons_zero]; rfl
    case sw27_10 => rfl
    case yw27_10 => (intro w hSw; (try dsimp only at hSw); go_simp <;> with_reducible rfl)
    try simp only [Act.put, List.setIfInBounds_toArray, List.set_cons_zero, List.set_cons_succ]
    refine hR.come (rs := [7]) (by kernel_rfl) (by simp) ?_
    refine AllReadyH.cons (o := ?o28_7) ?h28_7 (fun K hK => ?kw28_7) AllReadyH.nil
    case h28_7 => simp only [List.getElem?_toArray, List.getElem?_cons_succ, List.getElem?_cons_zero]; rfl
    go_simp
    go_at_call 59; refine (underP (l := l) q.col _ (HW2.out.keep (by (first | with_reducible assumption | (with_reducible refine Below.drew ?_; with_reducible assumption) | (with_reducible refine ba _ _ ?_; with_reducible assumption) | (with_reducible refine Below.drew ?_; with_reducible refine ba _ _ ?_; with_reducible assumption) | exact Below.refl _ _ | exact (Below.refl _ _).drew | exact (Below.refl _ _).alloc (Nat.le_refl _) _ | (refine bc _ _ (by assumption) (by assumption))))) (HS2.out.keep (Below.agree (by (first | with_reducible assumption | (with_reducible refine Below.drew ?_; with_reducible assumption) | (with_reducible refine ba _ _ ?_; with_reducible assumption) | (with_reducible refine Below.drew ?_; with_reducible refine ba _ _ ?_; with_reducible assumption) | exact Below.refl _ _ | exact (Below.refl _ _).drew | exact (Below.refl _ _).alloc (Nat.le_refl _) _ | (refine bc _ _ (by assumption) (by assumption)))))) (by omega) (by omega)).mono ?_; rw [Hm2.out]; rintro e w3 ⟨rfl, hb3⟩; have hk3 := bc _ _ (by (first | with_reducible assumption | (with_reducible refine Below.drew ?_; with_reducible assumption) | (with_reducible refine ba _ _ ?_; with_reducible assumption) | (with_reducible refine Below.drew ?_; with_reducible refine ba _ _ ?_; with_reducible assumption) | exact Below.refl _ _ | exact (Below.refl _ _).drew | exact (Below.refl _ _).alloc (Nat.le_refl _) _ | (refine bc _ _ (by assumption) (by assumption)))) hb3
    refine hK.out _ _ ?_ (fun hHeld => ?_)
    · (first | with_reducible assumption | (with_reducible refine Below.drew ?_; with_reducible assumption) | (with_reducible refine ba _ _ ?_; with_reducible assumption) | (with_reducible refine Below.drew ?_; with_reducible refine ba _ _ ?_; with_reducible assumption) | exact Below.refl _ _ | exact (Below.refl _ _).drew | exact (Below.refl _ _).alloc (Nat.le_refl _) _ | (refine bc _ _ (by assumption) (by assumption)))
    clear hK K
    refine RegOk.put_ (m' := 1791) (by kernel_rfl) ?_
    try simp only [Act.put, List.setIfInBounds_toArray, List.set_cons_zero, List.set_cons_succ]
    refine hR.take (i := 8) (oi := ?ow29_8) (v := ?vw29_8) (m' := 2047) ?hw29_8 (by kernel_rfl) (by kernel_rfl) (fun _ _ _ h => h) (Or.inl ⟨?sw29_8, ?yw29_8⟩) (by assumption) ?nw29_8
    case hw29_8 => simp only [List.getElem?_toArray, List.getElem?_cons_succ, List.getElem?_cons_zero]; rfl
    case sw29_8 => rfl
    case yw29_8 => (intro w hSw; (try dsimp only at hSw); go_simp <;> with_reducible rfl)
    try simp only [Act.put, List.setIfInBounds_toArray, List.set_cons_zero, List.set_cons_succ]
    refine hR.come (rs := [11]) (by kernel_rfl) (by simp) ?_
    refine AllReadyH.cons (o := ?o30_11) ?h30_11 (fun K hK => ?kw30_11) AllReadyH.nil
    case h30_11 => simp only [List.getElem?_toArray, List.getElem?_cons_succ, List.getElem?_cons_zero]; rfl
    go_simp
    go_at_call 47; refine (kinds2P _).mono ?_; rintro e w4 ⟨rfl, hb4⟩; have hk4 := bc _ _ (by (first | with_reducible assumption | (with_reducible refine Below.drew ?_; with_reducible assumption) | (with_reducible refine ba _ _ ?_; with_reducible assumption) | (with_reducible refine Below.drew ?_; with_reducible refine ba _ _ ?_; with_reducible assumption) | exact Below.refl _ _ | exact (Below.refl _ _).drew | exact (Below.refl _ _).alloc (Nat.le_refl _) _ | (refine bc _ _ (by assumption) (by assumption)))) hb4
    refine hK.out _ _ ?_ (fun hHeld => ?_)
    · (first | with_reducible assumption | (with_reducible refine Below.drew ?_; with_reducible assumption) | (with_reducible refine ba _ _ ?_; with_reducible assumption) | (with_reducible refine Below.drew ?_; with_reducible refine ba _ _ ?_; with_reducible assumption) | exact Below.refl _ _ | exact (Below.refl _ _).drew | exact (Below.refl _ _).alloc (Nat.le_refl _) _ | (refine bc _ _ (by assumption) (by assumption)))
    clear hK K
    refine RegOk.put_ (m' := 4095) (by kernel_rfl) ?_
    try simp only [Act.put, List.setIfInBounds_toArray, List.set_cons_zero, List.set_cons_succ]
    refine hR.come (rs := [12]) (by kernel_rfl) (by simp) ?_
    refine AllReadyH.cons (o := ?o31_12) ?h31_12 (fun K hK => ?kw31_12) AllReadyH.nil
    case h31_12 => simp only [List.getElem?_toArray, List.getElem?_cons_succ, List.getElem?_cons_zero]; rfl
    go_simp
    go_at_call 58; refine (powerI (k := 1) _ rfl rfl (by omega) hn hm255 (by omega) HP.out).mono ?_; rintro e w5 ⟨rfl, hb5⟩; have hk5 := bc _ _ (by (first | with_reducible assumption | (with_reducible refine Below.drew ?_; with_reducible assumption) | (with_reducible refine ba _ _ ?_; with_reducible assumption) | (with_reducible refine Below.drew ?_; with_reducible refine ba _ _ ?_; with_reducible assumption) | exact Below.refl _ _ | exact (Below.refl _ _).drew | exact (Below.refl _ _).alloc (Nat.le_refl _) _ | (refine bc _ _ (by assumption) (by assumption)))) hb5
    refine hK.out _ _ ?_ (fun hHeld => ?_)
    · (first | with_reducible assumption | (with_reducible refine Below.drew ?_; with_reducible assumption) | (with_reducible refine ba _ _ ?_; with_reducible assumption) | (with_reducible refine Below.drew ?_; with_reducible refine ba _ _ ?_; with_reducible assumption) | exact Below.refl _ _ | exact (Below.refl _ _).drew | exact (Below.refl _ _).alloc (Nat.le_refl _) _ | (refine bc _ _ (by assumption) (by assumption)))
    clear hK K
    refine RegOk.put_ (m' := 8191) (by kernel_rfl) ?_
    try simp only [Act.put, List.setIfInBounds_toArray, List.set_cons_zero, List.set_cons_succ]
    refine hR.take (i := 13) (oi := ?ow32_13) (v := ?vw32_13) (m' := 16383) ?hw32_13 (by kernel_rfl) (by kernel_rfl) (fun _ _ _ h => h) (Or.inl ⟨?sw32_13, ?yw32_13⟩) (by assumption) ?nw32_13
    case hw32_13 => simp only [List.getElem?_toArray, List.getElem?_cons_succ, List.getElem?_cons_zero]; rfl
    case sw32_13 => rfl
    case yw32_13 => (intro w hSw; (try dsimp only at hSw); go_simp <;> with_reducible rfl)
    try simp only [Act.put, List.setIfInBounds_toArray, List.set_cons_zero, List.set_cons_succ]
    refine hR.take (i := 14) (oi := ?ow33_14) (v := ?vw33_14) (m' := 32767) ?hw33_14 (by kernel_rfl) (by kernel_rfl) (fun _ _ _ h => h) (Or.inl ⟨?sw33_14, ?yw33_14⟩) (by assumption) ?nw33_14
    case hw33_14 => simp only [List.getElem?_toArray, List.getElem?_cons_succ, List.getElem?_cons_zero]; rfl
    case sw33_14 => rfl
    case yw33_14 => (intro w hSw; (try dsimp only at hSw); go_simp <;> with_reducible rfl)
    try simp only [Act.put, List.setIfInBounds_toArray, List.set_cons_zero, List.set_cons_succ]
    refine hR.take (i := 15) (oi := ?ow34_15) (v := ?vw34_15) (m' := 65535) ?hw34_15 (by kernel_rfl) (by kernel_rfl) (fun _ _ _ h => h) (Or.inl ⟨?sw34_15, ?yw34_15⟩) (by assumption) ?nw34_15
    case hw34_15 => simp only [List.getElem?_toArray, List.getElem?_cons_succ, List.getElem?_cons_zero]; rfl
    case sw34_15 => rfl
    case yw34_15 => (intro w hSw; (try dsimp only at hSw); go_simp <;> with_reducible rfl)
    try simp only [Act.put, List.setIfInBounds_toArray, List.set_cons_zero, List.set_cons_succ]
    refine hR.take (i := 16) (oi := ?ow35_16) (v := ?vw35_16) (m' := 131071) ?hw35_16 (by kernel_rfl) (by kernel_rfl) (fun _ _ _ h => h) (Or.inl ⟨?sw35_16, ?yw35_16⟩) (by assumption) ?nw35_16
    case hw35_16 => simp only [List.getElem?_toArray, List.getElem?_cons_succ, List.getElem?_cons_zero]; rfl
    case sw35_16 => rfl
    case yw35_16 => (intro w hSw; (try dsimp only at hSw); go_simp <;> with_reducible rfl)
    try simp only [Act.put, List.setIfInBounds_toArray, List.set_cons_zero, List.set_cons_succ]
    refine hR.take (i := 17) (oi := ?ow36_17) (v := ?vw36_17) (m' := 262143) ?hw36_17 (by kernel_rfl) (by kernel_rfl) (fun _ _ _ h => h) (Or.inl ⟨?sw36_17, ?yw36_17⟩) (by assumption) ?nw36_17
    case hw36_17 => simp only [List.getElem?_toArray, List.getElem?_cons_succ, List.getElem?_cons_zero]; rfl
    case sw36_17 => rfl
    case yw36_17 => (intro w hSw; (try dsimp only at hSw); go_simp <;> with_reducible rfl)
    try simp only [Act.put, List.setIfInBounds_toArray, List.set_cons_zero, List.set_cons_succ]
    refine hR.all (by kernel_rfl) ?_ _
    refine NoPanic.normal ?_
    go_wp2_with fail
    go_ret2
    rw [hmf.out]
    have hz5 : w.heap.size ≤ w5.heap.size := Nat.le_trans b2.out.size hk5.size
    have hb5 : Below w.heap.size w w5 := b2.out.trans (hk5.mono b2.out.size)
    refine ⟨_, 1, [wrap64 (P : Int)], rfl, fun h => ?_, ?_, ?_⟩
    · have hP2 : P < 4611686018427387904 := of_decide_eq_true h
      rw [IntWalk.wrap64_in (P : Int) (by omega)]
    · first | exact sl_one _ hz5 | exact (sl_one _ hz5).drew
    · first | exact hb5.alloc hz5 _ | exact (hb5.alloc hz5 _).drew
set_option maxRecDepth 100000 in
set_option maxHeartbeats 4000000 in
theorem moment1P3 {q : Qy} {A : Option Addr} {c p n : Nat} {S : Nat → Prop} (w : World) (hw : WidOk w) (h : Sl cdE.slice S w A c q.fs) (h0 : 0 < q.fs.length) (hv : ∀ x ∈ fl q 0, ValidCd x) (hc0 : 0 ≤ q.col) (hc3 : q.col ≤ 3) (hn : n ≤ 65536) (hk : 0 ≤ q.k ∧ q.k ≤ 6)
    (hp : w.cell? ⟨p, 0, none⟩ = some (.func (.func 48) #[] #[])) :
    Calls Tryd.prog 56 #[(.agg #[.int .i64 q.kind, .int .i64 q.col, .int .i64 q.k, .slice A q.fs.length c]), .int .i64 (n : Int), .pointer (some ⟨p, 0, none⟩)] w (BoundRes w (momF (fl q 0) q.col n (q.k.toNat))) := by
  have hm := h.max
  have H := Lib.hid h.old
  have HW := Lib.hid hw
  have hbd := under_bd hv q.col
  have lp := World.block_lt_of_cell? w _ hp
  clear h hw hv
  go_enter Tryd.func56, Tryd.ntmps56
  go_upto_region 1 with fail
  refine wp_world (F := fun wx => Below w.heap.size w wx ∧ Hid (wx.heap[w.heap.size]? = some (.cells #[.int .i64 q.kind, .int .i64 q.col, .int .i64 q.k, .slice A q.fs.length c] 24 (0, 0)))) ⟨(Below.refl _ _).alloc (Nat.le_refl _) _, Lib.hid (heap_alloc_at rfl)⟩ ?_
  rintro w1 ⟨bb, gq⟩
  have b0 := Lib.hid bb
  have H1 := Lib.hid (H.out.keep (Below.agree bb))
  have HW1 := mvW HW bb
  have hl : q.fs[0]? = some (fl q 0) := by unfold fl; rw [List.getD_eq_getElem?_getD, List.getElem?_eq_getElem h0]; rfl
  obtain ⟨b1, o1, B1, d1, rfl, -, l1, x1, hs1⟩ := flt_at H1.out hl
  simp only [Nat.add_zero] at x1
  obtain ⟨m, hm2⟩ : ∃ m : Nat, (underF (fl q 0) q.col).2 = m := ⟨(underF (fl q 0) q.col).2.toNat, by omega⟩
  have hm255 : m ≤ 255 := by omega
  obtain ⟨y0, y1, y2, y3⟩ := row4 gq
  have hp1 := (bb.cell (p := ⟨p, 0, none⟩) lp).trans hp
  have HS1 := Lib.hid hs1
  have hi0 : (0 : Int) < (q.fs.length : Int) := by omega
  have lq := heap_lt gq.out
  have lp1 := Nat.lt_of_lt_of_le lp bb.size
  clear bb hl hs1 hp lp hbd
  generalize fl q 0 = l at *
  have Hm2 := Lib.hid hm2
  clear hm2
  cases hsat : satB l with
  | false =>
    have hmf := Lib.hid (show momF l q.col n (q.k.toNat) = ([0], true) by unfold momF; rw [hsat]; rfl)
    go_wp2_with (go_at_call 57; refine (satP (l := l) _ HW1.out HS1.out).mono ?_; rw [hsat]; rintro e w2 ⟨rfl, hb2⟩)
    go_ret2
    rw [hmf.out]
    exact ⟨_, 1, [0], rfl, fun _ => rfl, sl_one 0 (by have := b0.out.size; have := hb2.size; omega), (b0.out.trans (hb2.mono b0.out.size)).alloc (by have := b0.out.size; have := hb2.size; omega) _⟩
  | true =>
    obtain ⟨P, hP⟩ : ∃ P, n * m ^ (q.k.toNat) = P := ⟨_, rfl⟩
    have hmf := Lib.hid (momF_sat (n := n) hsat Hm2.out hP)
    have HP := Lib.hid hP
    clear hP
    go_upto_region 3 with (go_at_call 57; refine (satP (l := l) _ HW1.out HS1.out).mono ?_; rw [hsat]; rintro e w2 ⟨rfl, hb2⟩)
    have b2 := Lib.hid (b0.out.trans (hb2.mono b0.out.size))
    have gq2 := mvQ gq hb2
    have HS2 := Lib.hid (HS1.out.keep (Below.agree hb2))
    have HW2 := mvW HW1 hb2
    have z1 := hold ((hb2.cell (p := ⟨b1, o1, none⟩) l1).trans x1)
    have z2 := hold ((hb2.cell (p := ⟨p, 0, none⟩) lp1).trans hp1)
    have zq : ∀ W, Below w2.heap.size w2 W → _ ∧ _ ∧ _ ∧ _ := fun W hW => row4 (mvQ gq2 hW)
    have br : Below w2.heap.size w2 w2 := Below.refl _ _
    have ba : ∀ W o, Below w2.heap.size w2 W → Below w2.heap.size w2 (W.alloc o) := fun W o h => h.alloc h.size o
    have bc : ∀ W W', Below w2.heap.size w2 W → Below W.heap.size W W' → Below w2.heap.size w2 W' := fun W W' h k => h.trans (k.mono h.size)
    clear hb2 gq y0 y1 y2 y3 hp1 x1
    have hf : ∀ a b w, (Instr.field 89 (.agg #[.int .i64 a, .int .i64 b]) 1).run Tryd.prog w = .ok (.int .i64 b) w := fun _ _ _ => by kernel_rfl
    refine wp_region_noPanic ?_
    refine wp_region_held_drew (S := fun X => Below w2.heap.size w2 X) (by kernel_rfl) ?_ (fun hHeld => ?_)
    · (first | with_reducible assumption | (with_reducible refine Below.drew ?_; with_reducible assumption) | (with_reducible refine ba _ _ ?_; with_reducible assumption) | (with_reducible refine Below.drew ?_; with_reducible refine ba _ _ ?_; with_reducible assumption) | exact Below.refl _ _ | exact (Below.refl _ _).drew | exact (Below.refl _ _).alloc (Nat.le_refl _) _ | (refine bc _ _ (by assumption) (by assumption)))
    refine RegOk.begin_ (n := 18) (T := q12A) ⟨by kernel_rfl, by kernel_rfl, by kernel_rfl, by kernel_rfl⟩ fun hR => ?_
    refine hR.take (i := 0) (oi := ?ow37_0) (v := ?vw37_0) (m' := 1) ?hw37_0 (by kernel_rfl) (by kernel_rfl) (fun _ _ _ h => h) (Or.inl ⟨?sw37_0, ?yw37_0⟩) (by assumption) ?nw37_0
    case hw37_0 => simp only [List.getElem?_toArray, List.getElem?_cons_succ, List.getElem?_cons_zero]; rfl
    case sw37_0 => rfl
    case yw37_0 => (intro w hSw; (try dsimp only at hSw); go_simp <;> with_reducible rfl)
    try simp only [Act.put, List.setIfInBounds_toArray, List.set_cons_zero, List.set_cons_succ]
    refine hR.take (i := 1) (oi := ?ow38_1) (v := ?vw38_1) (m' := 3) ?hw38_1 (by kernel_rfl) (by kernel_rfl) (fun _ _ _ h => h) (Or.inl ⟨?sw38_1, ?yw38_1⟩) (by assumption) ?nw38_1
    case hw38_1 => simp only [List.getElem?_toArray, List.getElem?_cons_succ, List.getElem?_cons_zero]; rfl
    case sw38_1 => rfl
    case yw38_1 => (intro w hSw; (try dsimp only at hSw); go_simp <;> with_reducible rfl)
    try simp only [Act.put, List.setIfInBounds_toArray, List.set_cons_zero, List.set_cons_succ]
    refine hR.take (i := 2) (oi := ?ow39_2) (v := ?vw39_2) (m' := 7) ?hw39_2 (by kernel_rfl) (by kernel_rfl) (fun _ _ _ h => h) (Or.inl ⟨?sw39_2, ?yw39_2⟩) (by assumption) ?nw39_2
    case hw39_2 => simp only [List.getElem?_toArray, List.getElem?_cons_succ, List.getElem?_cons_zero]; rfl
    case sw39_2 => rfl
    case yw39_2 => (intro w hSw; (try dsimp only at hSw); go_simp <;> with_reducible rfl)
    try simp only [Act.put, List.setIfInBounds_toArray, List.set_cons_zero, List.set_cons_succ]
    refine hR.take (i := 3) (oi := ?ow40_3) (v := ?vw40_3) (m' := 15) ?hw40_3 (by kernel_rfl) (by kernel_rfl) (fun _ _ _ h => h) (Or.inl ⟨?sw40_3, ?yw40_3⟩) (by assumption) ?nw40_3
    case hw40_3 => simp only [List.getElem?_toArray, List.getElem?_cons_succ, List.getElem?_cons_zero]; rfl
    case sw40_3 => rfl
    case yw40_3 => (intro w hSw; (try dsimp only at hSw); go_simp <;> with_reducible rfl)
    try simp only [Act.put, List.setIfInBounds_toArray, List.set_cons_zero, List.set_cons_succ]
    refine hR.take (i := 4) (oi := ?ow41_4) (v := ?vw41_4) (m' := 31) ?hw41_4 (by kernel_rfl) (by kernel_rfl) (fun _ _ _ h => h) (Or.inl ⟨?sw41_4, ?yw41_4⟩) (by assumption) ?nw41_4
    case hw41_4 => simp only [List.getElem?_toArray, List.getElem?_cons_succ, List.getElem?_cons_zero]; rfl
    case sw41_4 => rfl
    case yw41_4 => (intro w hSw; (try dsimp only at hSw); go_simp <;> with_reducible rfl)
    try simp only [Act.put, List.setIfInBounds_toArray, List.set_cons_zero, List.set_cons_succ]
    refine hR.take (i := 5) (oi := ?ow42_5) (v := ?vw42_5) (m' := 63) ?hw42_5 (by kernel_rfl) (by kernel_rfl) (fun _ _ _ h => h) (Or.inl ⟨?sw42_5, ?yw42_5⟩) (by assumption) ?nw42_5
    case hw42_5 => simp only [List.getElem?_toArray, List.getElem?_cons_succ, List.getElem?_cons_zero]; rfl
    case sw42_5 => rfl
    case yw42_5 => (intro w hSw; (try dsimp only at hSw); go_simp <;> with_reducible rfl)
    try simp only [Act.put, List.setIfInBounds_toArray, List.set_cons_zero, List.set_cons_succ]
    refine hR.take (i := 6) (oi := ?ow43_6) (v := ?vw43_6) (m' := 127) ?hw43_6 (by kernel_rfl) (by kernel_rfl) (fun _ _ _ h => h) (Or.inl ⟨?sw43_6, ?yw43_6⟩) (by assumption) ?nw43_6
    case hw43_6 => simp only [List.getElem?_toArray, List.getElem?_cons_succ, List.getElem?_cons_zero]; rfl
    case sw43_6 => rfl
    case yw43_6 => (intro w hSw; (try dsimp only at hSw); go_simp <;> with_reducible rfl)
    try simp only [Act.put, List.setIfInBounds_toArray, List.set_cons_zero, List.set_cons_succ]
    refine hR.take (i := 9) (oi := ?ow44_9) (v := ?vw44_9) (m' := 639) ?hw44_9 (by kernel_rfl) (by kernel_rfl) (fun _ _ _ h => h) (Or.inl ⟨?sw44_9, ?yw44_9⟩) (by assumption) ?nw44_9
    case hw44_9 => simp only [List.getElem?_toArray, List.getElem?_cons_succ, List.getElem?_cons_zero]; rfl
    case sw44_9 => rfl
    case yw44_9 => (intro w hSw; (try dsimp only at hSw); go_simp <;> with_reducible rfl)
    try simp only [Act.put, List.setIfInBounds_toArray, List.set_cons_zero, List.set_cons_succ]
    refine hR.take (i := 10) (oi := ?ow45_10) (v := ?vw45_10) (m' := 1663) ?hw45_10 (by kernel_rfl) (by kernel_rfl) (fun _ _ _ h => h) (Or.inl ⟨?sw45_10, ?yw45_10⟩) (by assumption) ?nw45_10
    case hw45_10 => simp only [List.getElem?_toArray, List.getElem?_cons_succ, List.getElem?_cons_zero]; rfl
    case sw45_10 => rfl
    case yw45_10 => (intro w hSw; (try dsimp only at hSw); go_simp <;> with_reducible rfl)
    try simp only [Act.put, List.setIfInBounds_toArray, List.set_cons_zero, List.set_cons_succ]
    refine hR.come (rs := [7]) (by kernel_rfl) (by simp) ?_
    refine AllReadyH.cons (o := ?o46_7) ?h46_7 (fun K hK => ?kw46_7) AllReadyH.nil
    case h46_7 => simp only [List.getElem?_toArray, List.getElem?_cons_succ, List.getElem?_cons_zero]; rfl
    go_simp
    go_at_call 59; refine (underP (l := l) q.col _ (HW2.out.keep (by (first | with_reducible assumption | (with_reducible refine Below.drew ?_; with_reducible assumption) | (with_reducible refine ba _ _ ?_; with_reducible assumption) | (with_reducible refine Below.drew ?_; with_reducible refine ba _ _ ?_; with_reducible assumption) | exact Below.refl _ _ | exact (Below.refl _ _).drew | exact (Below.refl _ _).alloc (Nat.le_refl _) _ | (refine bc _ _ (by assumption) (by assumption))))) (HS2.out.keep (Below.agree (by (first | with_reducible assumption | (with_reducible refine Below.drew ?_; with_reducible assumption) | (with_reducible refine ba _ _ ?_; with_reducible assumption) | (with_reducible refine Below.drew ?_; with_reducible refine ba _ _ ?_; with_reducible assumption) | exact Below.refl _ _ | exact (Below.refl _ _).drew | exact (Below.refl _ _).alloc (Nat.le_refl _) _ | (refine bc _ _ (by assumption) (by assumption)))))) (by omega) (by omega)).mono ?_; rw [Hm2.out]; rintro e w3 ⟨rfl, hb3⟩; have hk3 := bc _ _ (by (first | with_reducible assumption | (with_reducible refine Below.drew ?_; with_reducible assumption) | (with_reducible refine ba _ _ ?_; with_reducible assumption) | (with_reducible refine Below.drew ?_; with_reducible refine ba _ _ ?_; with_reducible assumption) | exact Below.refl _ _ | exact (Below.refl _ _).drew | exact (Below.refl _ _).alloc (Nat.le_refl _) _ | (refine bc _ _ (by assumption) (by assumption)))) hb3
    refine hK.out _ _ ?_ (fun hHeld => ?_)
    · (first | with_reducible assumption | (with_reducible refine Below.drew ?_; with_reducible assumption) | (with_reducible refine ba _ _ ?_; with_reducible assumption) | (with_reducible refine Below.drew ?_; with_reducible refine ba _ _ ?_; with_reducible assumption) | exact Below.refl _ _ | exact (Below.refl _ _).drew | exact (Below.refl _ _).alloc (Nat.le_refl _) _ | (refine bc _ _ (by assumption) (by assumption)))
    clear hK K
    refine RegOk.put_ (m' := 1791) (by kernel_rfl) ?_
    try simp only [Act.put, List.setIfInBounds_toArray, List.set_cons_zero, List.set_cons_succ]
    refine hR.take (i := 8) (oi := ?ow47_8) (v := ?vw47_8) (m' := 2047) ?hw47_8 (by kernel_rfl) (by kernel_rfl) (fun _ _ _ h => h) (Or.inl ⟨?sw47_8, ?yw47_8⟩) (by assumption) ?nw47_8
    case hw47_8 => simp only [List.getElem?_toArray, List.getElem?_cons_succ, List.getElem?_cons_zero]; rfl
    case sw47_8 => rfl
    case yw47_8 => (intro w hSw; (try dsimp only at hSw); go_simp <;> with_reducible rfl)
    try simp only [Act.put, List.setIfInBounds_toArray, List.set_cons_zero, List.set_cons_succ]
    refine hR.come (rs := [11]) (by kernel_rfl) (by simp) ?_
    refine AllReadyH.cons (o := ?o48_11) ?h48_11 (fun K hK => ?kw48_11) AllReadyH.nil
    case h48_11 => simp only [List.getElem?_toArray, List.getElem?_cons_succ, List.getElem?_cons_zero]; rfl
    go_simp
    go_at_call 48; refine (kinds3P _).mono ?_; rintro e w4 ⟨rfl, hb4⟩; have hk4 := bc _ _ (by (first | with_reducible assumption | (with_reducible refine Below.drew ?_; with_reducible assumption) | (with_reducible refine ba _ _ ?_; with_reducible assumption) | (with_reducible refine Below.drew ?_; with_reducible refine ba _ _ ?_; with_reducible assumption) | exact Below.refl _ _ | exact (Below.refl _ _).drew | exact (Below.refl _ _).alloc (Nat.le_refl _) _ | (refine bc _ _ (by assumption) (by assumption)))) hb4
    refine hK.out _ _ ?_ (fun hHeld => ?_)
    · (first | with_reducible assumption | (with_reducible refine Below.drew ?_; with_reducible assumption) | (with_reducible refine ba _ _ ?_; with_reducible assumption) | (with_reducible refine Below.drew ?_; with_reducible refine ba _ _ ?_; with_reducible assumption) | exact Below.refl _ _ | exact (Below.refl _ _).drew | exact (Below.refl _ _).alloc (Nat.le_refl _) _ | (refine bc _ _ (by assumption) (by assumption)))
    clear hK K
    refine RegOk.put_ (m' := 4095) (by kernel_rfl) ?_
    try simp only [Act.put, List.setIfInBounds_toArray, List.set_cons_zero, List.set_cons_succ]
    refine hR.come (rs := [12]) (by kernel_rfl) (by simp) ?_
    refine AllReadyH.cons (o := ?o49_12) ?h49_12 (fun K hK => ?kw49_12) AllReadyH.nil
    case h49_12 => simp only [List.getElem?_toArray, List.getElem?_cons_succ, List.getElem?_cons_zero]; rfl
    go_simp
    go_at_call 58; refine (powerI (k := q.k.toNat) _ rfl rfl (by omega) hn hm255 (by omega) HP.out).mono ?_; rintro e w5 ⟨rfl, hb5⟩; have hk5 := bc _ _ (by (first | with_reducible assumption | (with_reducible refine Below.drew ?_; with_reducible assumption) | (with_reducible refine ba _ _ ?_; with_reducible assumption) | (with_reducible refine Below.drew ?_; with_reducible refine ba _ _ ?_; with_reducible assumption) | exact Below.refl _ _ | exact (Below.refl _ _).drew | exact (Below.refl _ _).alloc (Nat.le_refl _) _ | (refine bc _ _ (by assumption) (by assumption)))) hb5
    refine hK.out _ _ ?_ (fun hHeld => ?_)
    · (first | with_reducible assumption | (with_reducible refine Below.drew ?_; with_reducible assumption) | (with_reducible refine ba _ _ ?_; with_reducible assumption) | (with_reducible refine Below.drew ?_; with_reducible refine ba _ _ ?_; with_reducible assumption) | exact Below.refl _ _ | exact (Below.refl _ _).drew | exact (Below.refl _ _).alloc (Nat.le_refl _) _ | (refine bc _ _ (by assumption) (by assumption)))
    clear hK K
    refine RegOk.put_ (m' := 8191) (by kernel_rfl) ?_
    try simp only [Act.put, List.setIfInBounds_toArray, List.set_cons_zero, List.set_cons_succ]
    refine hR.take (i := 13) (oi := ?ow50_13) (v := ?vw50_13) (m' := 16383) ?hw50_13 (by kernel_rfl) (by kernel_rfl) (fun _ _ _ h => h) (Or.inl ⟨?sw50_13, ?yw50_13⟩) (by assumption) ?nw50_13
    case hw50_13 => simp only [List.getElem?_toArray, List.getElem?_cons_succ, List.getElem?_cons_zero]; rfl
    case sw50_13 => rfl
    case yw50_13 => (intro w hSw; (try dsimp only at hSw); go_simp <;> with_reducible rfl)
    try simp only [Act.put, List.setIfInBounds_toArray, List.set_cons_zero, List.set_cons_succ]
    refine hR.take (i := 14) (oi := ?ow51_14) (v := ?vw51_14) (m' := 32767) ?hw51_14 (by kernel_rfl) (by kernel_rfl) (fun _ _ _ h => h) (Or.inl ⟨?sw51_14, ?yw51_14⟩) (by assumption) ?nw51_14
    case hw51_14 => simp only [List.getElem?_toArray, List.getElem?_cons_succ, List.getElem?_cons_zero]; rfl
    case sw51_14 => rfl
    case yw51_14 => (intro w hSw; (try dsimp only at hSw); go_simp <;> with_reducible rfl)
    try simp only [Act.put, List.setIfInBounds_toArray, List.set_cons_zero, List.set_cons_succ]
    refine hR.take (i := 15) (oi := ?ow52_15) (v := ?vw52_15) (m' := 65535) ?hw52_15 (by kernel_rfl) (by kernel_rfl) (fun _ _ _ h => h) (Or.inl ⟨?sw52_15, ?yw52_15⟩) (by assumption) ?nw52_15
    case hw52_15 => simp only [List.getElem?_toArray, List.getElem?_cons_succ, List.getElem?_cons_zero]; rfl
    case sw52_15 => rfl
    case yw52_15 => (intro w hSw; (try dsimp only at hSw); go_simp <;> with_reducible rfl)
    try simp only [Act.put, List.setIfInBounds_toArray, List.set_cons_zero, List.set_cons_succ]
    refine hR.take (i := 16) (oi := ?ow53_16) (v := ?vw53_16) (m' := 131071) ?hw53_16 (by kernel_rfl) (by kernel_rfl) (fun _ _ _ h => h) (Or.inl ⟨?sw53_16, ?yw53_16⟩) (by assumption) ?nw53_16
    case hw53_16 => simp only [List.getElem?_toArray, List.getElem?_cons_succ, List.getElem?_cons_zero]; rfl
    case sw53_16 => rfl
    case yw53_16 => (intro w hSw; (try dsimp only at hSw); go_simp <;> with_reducible rfl)
    try simp only [Act.put, List.setIfInBounds_toArray, List.set_cons_zero, List.set_cons_succ]
    refine hR.take (i := 17) (oi := ?ow54_17) (v := ?vw54_17) (m' := 262143) ?hw54_17 (by kernel_rfl) (by kernel_rfl) (fun _ _ _ h => h) (Or.inl ⟨?sw54_17, ?yw54_17⟩) (by assumption) ?nw54_17
    case hw54_17 => simp only [List.getElem?_toArray, List.getElem?_cons_succ, List.getElem?_cons_zero]; rfl
    case sw54_17 => rfl
    case yw54_17 => (intro w hSw; (try dsimp only at hSw); go_simp <;> with_reducible rfl)
    try simp only [Act.put, List.setIfInBounds_toArray, List.set_cons_zero, List.set_cons_succ]
    refine hR.all (by kernel_rfl) ?_ _
    refine NoPanic.normal ?_
    go_wp2_with fail
    go_ret2
    rw [hmf.out]
    have hz5 : w.heap.size ≤ w5.heap.size := Nat.le_trans b2.out.size hk5.size
    have hb5 : Below w.heap.size w w5 := b2.out.trans (hk5.mono b2.out.size)
    refine ⟨_, 1, [wrap64 (P : Int)], rfl, fun h => ?_, ?_, ?_⟩
    · have hP2 : P < 4611686018427387904 := of_decide_eq_true h
      rw [IntWalk.wrap64_in (P : Int) (by omega)]
    · first | exact sl_one _ hz5 | exact (sl_one _ hz5).drew
    · first | exact hb5.alloc hz5 _ | exact (hb5.alloc hz5 _).drew
end Go.Proofs.YtihcaoipemcddaaDoor
