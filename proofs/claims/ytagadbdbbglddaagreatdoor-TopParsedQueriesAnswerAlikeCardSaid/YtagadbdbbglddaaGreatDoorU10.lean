/-
  Texts of this claim, merged: Q12. Conditions: as each theorem says.
-/
import Derived.Test.YtagadbdbbglddaaGreatDoorU1
import Derived.Test.YtagadbdbbglddaaGreatDoorU2
import Derived.Test.YtagadbdbbglddaaGreatDoorU3
import Derived.Test.YtagadbdbbglddaaGreatDoorU4
import Derived.Test.YtagadbdbbglddaaGreatDoorU5
set_option linter.unusedSimpArgs false
set_option linter.unusedVariables false
namespace Go.Proofs.YtagadbdbbglddaaGreatDoor
open Go.RowKit

def momF (l : List Cd) (col rows : Int) (e : Nat) : List Int × Bool := if satB l then ([powF rows (underF l col).2 e], decide (powF rows (underF l col).2 e < two62)) else ([0], true)
theorem momF_sat {l : List Cd} {col : Int} {n m P e : Nat} (hs : satB l = true) (hm : (underF l col).2 = (m : Int)) (hP : n * m ^ e = P) : momF l col n e = ([(P : Int)], under62 P) := by
  have e1 : powF n (underF l col).2 e = (P : Int) := by rw [hm, ← hP]; unfold powF; rw [Int.natCast_mul, Int.natCast_pow]
  unfold momF
  rw [hs, if_pos rfl, e1]
  have e2 : decide ((P : Int) < two62) = under62 P := decide_eq_decide.2 (by unfold two62; omega)
  rw [e2]
theorem powerI {r mm kk : Int} {n m k P : Nat} (w : World) (hr : r = n) (hmm : mm = m) (hkk : kk = k) (hn : n ≤ 65536) (hm : m ≤ 255) (hk : k ≤ 6) (hP : n * m ^ k = P) :
    Calls Tryz.prog 88 #[.int .i64 r, .int .i64 mm, .int .i64 kk] w fun e w' => e = .returned (.tuple #[.int .i64 (wrap64 (P : Int)), .bool (under62 P)]) ∧ Below w.heap.size w w' := by
  subst hr; subst hmm; subst hkk
  exact powerP w hn hm hk hP
theorem kinds1P {q : Qy} {A : Option Addr} {c : Nat} (w : World) : Calls Tryz.prog 53 #[(.agg #[.int .i64 q.kind, .int .i64 q.col, .int .i64 q.k, .slice A q.fs.length c])] w fun e w' => e = .returned (.int .i64 0) ∧ Below w.heap.size w w' := by
  go_enter Tryz.func53, Tryz.ntmps53
  go_wp2_with fail
  go_ret
  exact ⟨rfl, by first | exact Below.refl _ _ | exact (by repeat' (first | with_reducible exact Below.refl _ _ | with_reducible assumption | with_reducible refine Below.setCell ?_ ?_ _ | with_reducible refine Below.drew ?_ | with_reducible refine below_drewN ?_ _ | with_reducible refine Below.alloc ?_ ?_ _ | (rintro _ ⟨⟩; simp <;> omega) | omega | (simp <;> omega)))⟩
theorem kinds2P {q : Qy} {A : Option Addr} {c : Nat} (w : World) : Calls Tryz.prog 54 #[(.agg #[.int .i64 q.kind, .int .i64 q.col, .int .i64 q.k, .slice A q.fs.length c])] w fun e w' => e = .returned (.int .i64 1) ∧ Below w.heap.size w w' := by
  go_enter Tryz.func54, Tryz.ntmps54
  go_wp2_with fail
  go_ret
  exact ⟨rfl, by first | exact Below.refl _ _ | exact (by repeat' (first | with_reducible exact Below.refl _ _ | with_reducible assumption | with_reducible refine Below.setCell ?_ ?_ _ | with_reducible refine Below.drew ?_ | with_reducible refine below_drewN ?_ _ | with_reducible refine Below.alloc ?_ ?_ _ | (rintro _ ⟨⟩; simp <;> omega) | omega | (simp <;> omega)))⟩
theorem kinds3P {q : Qy} {A : Option Addr} {c : Nat} (w : World) : Calls Tryz.prog 55 #[(.agg #[.int .i64 q.kind, .int .i64 q.col, .int .i64 q.k, .slice A q.fs.length c])] w fun e w' => e = .returned (.int .i64 q.k) ∧ Below w.heap.size w w' := by
  go_enter Tryz.func55, Tryz.ntmps55
  go_wp2_with fail
  go_ret
  exact ⟨rfl, (by repeat' (first | with_reducible exact Below.refl _ _ | with_reducible assumption | with_reducible refine Below.setCell ?_ ?_ _ | with_reducible refine Below.drew ?_ | with_reducible refine below_drewN ?_ _ | with_reducible refine Below.alloc ?_ ?_ _ | (rintro _ ⟨⟩; simp <;> omega) | omega | (simp <;> omega)))⟩
theorem sl_one {w : World} {T : Nat → Prop} (x : Int) (h : T w.heap.size) : Sl .i64 T (w.alloc (.cells #[.int .i64 x] 2)) (some ⟨w.heap.size, 0, none⟩) 1 [x] :=
  Sl.litAt (S := fun _ => False) (cs := [.int .i64 x]) (xs := [x]) rfl (.single rfl) (by unfold maxLen; simp) (fun _ h _ => h.elim) h
def q12A : List FRow := [(0, ([], (18, [1]))), (1, ([], (19, [3]))), (2, ([1], (20, [18]))), (3, ([2], (21, [19]))), (4, ([3], (22, [20]))), (5, ([], (23, [3]))), (6, ([5], (24, [22]))), (7, ([4, 6], (25, [21, 23]))), (8, ([7], (26, [24]))), (9, ([], (27, [2]))), (10, ([], (28, [3]))), (11, ([9, 10, 7], (29, [26, 27]))), (12, ([0, 8, 11, 11], (30, [17, 25, 28]))), (13, ([12], (17, [29]))), (14, ([13], (31, [16]))), (15, ([13], (32, [16]))), (16, ([14, 12, 0, 1, 2, 3, 4, 5, 6, 7, 8, 9, 10, 11, 12, 13, 14], (8, [30]))), (17, ([15, 16, 0, 1, 2, 3, 4, 5, 6, 7, 8, 9, 10, 11, 12, 13, 14, 15, 16], (9, [31])))]
set_option maxRecDepth 100000 in
set_option maxHeartbeats 4000000 in
theorem moment1P1 {q : Qy} {A : Option Addr} {c p n : Nat} {S : Nat → Prop} (w : World) (hw : WidOk w) (h : Sl cdE.slice S w A c q.fs) (h0 : 0 < q.fs.length) (hv : ∀ x ∈ fl q 0, ValidCd x) (hc0 : 0 ≤ q.col) (hc3 : q.col ≤ 3) (hn : n ≤ 65536) (hk : True)
    (hp : w.cell? ⟨p, 0, none⟩ = some (.func (.func 53) #[] #[])) :
    Calls Tryz.prog 86 #[(.agg #[.int .i64 q.kind, .int .i64 q.col, .int .i64 q.k, .slice A q.fs.length c]), .int .i64 (n : Int), .pointer (some ⟨p, 0, none⟩)] w (BoundRes w (momF (fl q 0) q.col n (0))) := by
  have hm := h.max
  have H := Lib.hid h.old
  have HW := Lib.hid hw
  have hbd := under_bd hv q.col
  have lp := World.block_lt_of_cell? w _ hp
  clear h hw hv
  go_enter Tryz.func86, Tryz.ntmps86
  go_upto_region 1 with fail
  refine wp_world (F := fun wx => Below w.heap.size w wx ∧ Hid (wx.heap[w.heap.size]? = some (.cells #[.int .i64 q.kind, .int .i64 q.col, .int .i64 q.k, .slice A q.fs.length c] 24 (0, 0)))) ⟨(Below.refl _ _).alloc (Nat.le_refl _) _, Lib.hid (heap_alloc_at rfl)⟩ ?_
  rintro w1 ⟨bb, gq⟩
  have b0 := Lib.hid bb
  have H1 := Lib.hid (H.out.keep (Below.agree bb))
  have HW1 := mvW HW bb
  have hl : q.fs[0]? = some (fl q 0) := by unfold fl; rw [List.getD_eq_getElem?_getD, List.getElem?_eq_getElem h0]; rfl
  obtain ⟨b1, o1, B1, d1, rfl, -, l1, x1, hs1⟩ := flt_at H1.out hl
  simp only [Nat.add_zero] at x1
  obtain ⟨m, hm2⟩ : ∃ m : Nat, (underF (fl q 0) q.col).2 = m := ⟨(underF (fl q 0) q.col).2.toNat, by omega⟩
  have hm255 : m ≤ 255 := by omega
  obtain ⟨y0, y1, y2, y3⟩ := row4 gq
  have hp1 := (bb.cell (p := ⟨p, 0, none⟩) lp).trans hp
  have HS1 := Lib.hid hs1
  have hi0 : (0 : Int) < (q.fs.length : Int) := by omega
  have lq := heap_lt gq.out
  have lp1 := Nat.lt_of_lt_of_le lp bb.size
  clear bb hl hs1 hp lp hbd
  generalize fl q 0 = l at *
  have Hm2 := Lib.hid hm2
  clear hm2
  cases hsat : satB l with
  | false =>
    have hmf := Lib.hid (show momF l q.col n (0) = ([0], true) by unfold momF; rw [hsat]; rfl)
    go_wp2_with (go_at_call 87; refine (satP (l := l) _ HW1.out HS1.out).mono ?_; rw [hsat]; rintro e w2 ⟨rfl, hb2⟩)
    go_ret2
    rw [hmf.out]
    exact ⟨_, 1, [0], rfl, fun _ => rfl, sl_one 0 (by have := b0.out.size; have := hb2.size; omega), (b0.out.trans (hb2.mono b0.out.size)).alloc (by have := b0.out.size; have := hb2.size; omega) _⟩
  | true =>
    obtain ⟨P, hP⟩ : ∃ P, n * m ^ (0) = P := ⟨_, rfl⟩
    have hmf := Lib.hid (momF_sat (n := n) hsat Hm2.out hP)
    have HP := Lib.hid hP
    clear hP
    go_upto_region 3 with (go_at_call 87; refine (satP (l := l) _ HW1.out HS1.out).mono ?_; rw [hsat]; rintro e w2 ⟨rfl, hb2⟩)
    have b2 := Lib.hid (b0.out.trans (hb2.mono b0.out.size))
    have gq2 := mvQ gq hb2
    have HS2 := Lib.hid (HS1.out.keep (Below.agree hb2))
    have HW2 := mvW HW1 hb2
    have z1 := hold ((hb2.cell (p := ⟨b1, o1, none⟩) l1).trans x1)
    have z2 := hold ((hb2.cell (p := ⟨p, 0, none⟩) lp1).trans hp1)
    have zq : ∀ W, Below w2.heap.size w2 W → _ ∧ _ ∧ _ ∧ _ := fun W hW => row4 (mvQ gq2 hW)
    have br : Below w2.heap.size w2 w2 := Below.refl _ _
    have ba : ∀ W o, Below w2.heap.size w2 W → Below w2.heap.size w2 (W.alloc o) := fun W o h => h.alloc h.size o
    have bc : ∀ W W', Below w2.heap.size w2 W → Below W.heap.size W W' → Below w2.heap.size w2 W' := fun W W' h k => h.trans (k.mono h.size)
    clear hb2 gq y0 y1 y2 y3 hp1 x1
    have hf : ∀ a b w, (Instr.field 135 (.agg #[.int .i64 a, .int .i64 b]) 1).run Tryz.prog w = .ok (.int .i64 b) w := fun _ _ _ => by kernel_rfl
    refine wp_region_noPanic ?_
    refine wp_region_held_drew (S := fun X => Below w2.heap.size w2 X) (by kernel_rfl) ?_ (fun hHeld => ?_)
    · (first | with_reducible assumption | (with_reducible refine Below.drew ?_; with_reducible assumption) | (with_reducible refine ba _ _ ?_; with_reducible assumption) | (with_reducible refine Below.drew ?_; with_reducible refine ba _ _ ?_; with_reducible assumption) | exact Below.refl _ _ | exact (Below.refl _ _).drew | exact (Below.refl _ _).alloc (Nat.le_refl _) _ | (refine bc _ _ (by assumption) (by assumption)))
    refine RegOk.begin_ (n := 18) (T := q12A) ⟨by kernel_rfl, by kernel_rfl, by kernel_rfl, by kernel_rfl⟩ fun hR => ?_
    refine hR.take (i := 0) (oi := ?ow540_0) (v := ?vw540_0) (m' := 1) ?hw540_0 (by kernel_rfl) (by kernel_rfl) (fun _ _ _ h => h) (Or.inl ⟨?sw540_0, ?yw540_0⟩) (by assumption) ?nw540_0
    case hw540_0 => simp only [List.getElem?_toArray, List.getElem?_cons_succ, List.getElem?_cons_zero]; rfl
    case sw540_0 => rfl
    case yw540_0 => (intro w hSw; (try dsimp only at hSw); go_simp <;> with_reducible rfl)
    try simp only [Act.put, List.setIfInBounds_toArray, List.set_cons_zero, List.set_cons_succ]
    refine hR.take (i := 1) (oi := ?ow541_1) (v := ?vw541_1) (m' := 3) ?hw541_1 (by kernel_rfl) (by kernel_rfl) (fun _ _ _ h => h) (Or.inl ⟨?sw541_1, ?yw541_1⟩) (by assumption) ?nw541_1
    case hw541_1 => simp only [List.getElem?_toArray, List.getElem?_cons_succ, List.getElem?_cons_zero]; rfl
    case sw541_1 => rfl
    case yw541_1 => (intro w hSw; (try dsimp only at hSw); go_simp <;> with_reducible rfl)
    try simp only [Act.put, List.setIfInBounds_toArray, List.set_cons_zero, List.set_cons_succ]
    refine hR.take (i := 2) (oi := ?ow542_2) (v := ?vw542_2) (m' := 7) ?hw542_2 (by kernel_rfl) (by kernel_rfl) (fun _ _ _ h => h) (Or.inl ⟨?sw542_2, ?yw542_2⟩) (by assumption) ?nw542_2
    case hw542_2 => simp only [List.getElem?_toArray, List.getElem?_cons_succ, List.getElem?_cons_zero]; rfl
    case sw542_2 => rfl
    case yw542_2 => (intro w hSw; (try dsimp only at hSw); go_simp <;> with_reducible rfl)
    try simp only [Act.put, List.setIfInBounds_toArray, List.set_cons_zero, List.set_cons_succ]
    refine hR.take (i := 3) (oi := ?ow543_3) (v := ?vw543_3) (m' := 15) ?hw543_3 (by kernel_rfl) (by kernel_rfl) (fun _ _ _ h => h) (Or.inl ⟨?sw543_3, ?yw543_3⟩) (by assumption) ?nw543_3
    case hw543_3 => simp only [List.getElem?_toArray, List.getElem?_cons_succ, List.getElem?_cons_zero]; rfl
    case sw543_3 => rfl
    case yw543_3 => (intro w hSw; (try dsimp only at hSw); go_simp <;> with_reducible rfl)
    try simp only [Act.put, List.setIfInBounds_toArray, List.set_cons_zero, List.set_cons_succ]
    refine hR.take (i := 4) (oi := ?ow544_4) (v := ?vw544_4) (m' := 31) ?hw544_4 (by kernel_rfl) (by kernel_rfl) (fun _ _ _ h => h) (Or.inl ⟨?sw544_4, ?yw544_4⟩) (by assumption) ?nw544_4
    case hw544_4 => simp only [List.getElem?_toArray, List.getElem?_cons_succ, List.getElem?_cons_zero]; rfl
    case sw544_4 => rfl
    case yw544_4 => (intro w hSw; (try dsimp only at hSw); go_simp <;> with_reducible rfl)
    try simp only [Act.put, List.setIfInBounds_toArray, List.set_cons_zero, List.set_cons_succ]
    refine hR.take (i := 5) (oi := ?ow545_5) (v := ?vw545_5) (m' := 63) ?hw545_5 (by kernel_rfl) (by kernel_rfl) (fun _ _ _ h => h) (Or.inl ⟨?sw545_5, ?yw545_5⟩) (by assumption) ?nw545_5
    case hw545_5 => simp only [List.getElem?_toArray, List.getElem?_cons_succ, List.getElem?_cons_zero]; rfl
    case sw545_5 => rfl
    case yw545_5 => (intro w hSw; (try dsimp only at hSw); go_simp <;> with_reducible rfl)
    try simp only [Act.put, List.setIfInBounds_toArray, List.set_cons_zero, List.set_cons_succ]
    refine hR.take (i := 6) (oi := ?ow546_6) (v := ?vw546_6) (m' := 127) ?hw546_6 (by kernel_rfl) (by kernel_rfl) (fun _ _ _ h => h) (Or.inl ⟨?sw546_6, ?yw546_6⟩) (by assumption) ?nw546_6
    case hw546_6 => simp only [List.getElem?_toArray, List.getElem?_cons_succ, List.getElem?_cons_zero]; rfl
    case sw546_6 => rfl
    case yw546_6 => (intro w hSw; (try dsimp only at hSw); go_simp <;> with_reducible rfl)
    try simp only [Act.put, List.setIfInBounds_toArray, List.set_cons_zero, List.set_cons_succ]
    refine hR.take (i := 9) (oi := ?ow547_9) (v := ?vw547_9) (m' := 639) ?hw547_9 (by kernel_rfl) (by kernel_rfl) (fun _ _ _ h => h) (Or.inl ⟨?sw547_9, ?yw547_9⟩) (by assumption) ?nw547_9
    case hw547_9 => simp only [List.getElem?_toArray, List.getElem?_cons_succ, List.getElem?_cons_zero]; rfl
    case sw547_9 => rfl
    case yw547_9 => (intro w hSw; (try dsimp only at hSw); go_simp <;> with_reducible rfl)
    try simp only [Act.put, List.setIfInBounds_toArray, List.set_cons_zero, List.set_cons_succ]
    refine hR.take (i := 10) (oi := ?ow548_10) (v := ?vw548_10) (m' := 1663) ?hw548_10 (by kernel_rfl) (by kernel_rfl) (fun _ _ _ h => h) (Or.inl ⟨?sw548_10, ?yw548_10⟩) (by assumption) ?nw548_10
    case hw548_10 => simp only [List.getElem?_toArray, List.getElem?_cons_succ, List.getElem?_cons_zero]; rfl
    case sw548_10 => rfl
    case yw548_10 => (intro w hSw; (try dsimp only at hSw); go_simp <;> with_reducible rfl)
    try simp only [Act.put, List.setIfInBounds_toArray, List.set_cons_zero, List.set_cons_succ]
    refine hR.come (rs := [7]) (by kernel_rfl) (by simp) ?_
    refine AllReadyH.cons (o := ?o549_7) ?h549_7 (fun K hK => ?kw549_7) AllReadyH.nil
    case h549_7 => simp only [List.getElem?_toArray, List.getElem?_cons_succ, List.getElem?_cons_zero]; rfl
    go_simp
    go_at_call 89; refine (underP (l := l) q.col _ (HW2.out.keep (by (first | with_reducible assumption | (with_reducible refine Below.drew ?_; with_reducible assumption) | (with_reducible refine ba _ _ ?_; with_reducible assumption) | (with_reducible refine Below.drew ?_; with_reducible refine ba _ _ ?_; with_reducible assumption) | exact Below.refl _ _ | exact (Below.refl _ _).drew | exact (Below.refl _ _).alloc (Nat.le_refl _) _ | (refine bc _ _ (by assumption) (by assumption))))) (HS2.out.keep (Below.agree (by (first | with_reducible assumption | (with_reducible refine Below.drew ?_; with_reducible assumption) | (with_reducible refine ba _ _ ?_; with_reducible assumption) | (with_reducible refine Below.drew ?_; with_reducible refine ba _ _ ?_; with_reducible assumption) | exact Below.refl _ _ | exact (Below.refl _ _).drew | exact (Below.refl _ _).alloc (Nat.le_refl _) _ | (refine bc _ _ (by assumption) (by assumption)))))) (by omega) (by omega)).mono ?_; rw [Hm2.out]; rintro e w3 ⟨rfl, hb3⟩; have hk3 := bc _ _ (by (first | with_reducible assumption | (with_reducible refine Below.drew ?_; with_reducible assumption) | (with_reducible refine ba _ _ ?_; with_reducible assumption) | (with_reducible refine Below.drew ?_; with_reducible refine ba _ _ ?_; with_reducible assumption) | exact Below.refl _ _ | exact (Below.refl _ _).drew | exact (Below.refl _ _).alloc (Nat.le_refl _) _ | (refine bc _ _ (by assumption) (by assumption)))) hb3
    refine hK.out _ _ ?_ (fun hHeld => ?_)
    · (first | with_reducible assumption | (with_reducible refine Below.drew ?_; with_reducible assumption) | (with_reducible refine ba _ _ ?_; with_reducible assumption) | (with_reducible refine Below.drew ?_; with_reducible refine ba _ _ ?_; with_reducible assumption) | exact Below.refl _ _ | exact (Below.refl _ _).drew | exact (Below.refl _ _).alloc (Nat.le_refl _) _ | (refine bc _ _ (by assumption) (by assumption)))
    clear hK K
    refine RegOk.put_ (m' := 1791) (by kernel_rfl) ?_
    try simp only [Act.put, List.setIfInBounds_toArray, List.set_cons_zero, List.set_cons_succ]
    refine hR.take (i := 8) (oi := ?ow550_8) (v := ?vw550_8) (m' := 2047) ?hw550_8 (by kernel_rfl) (by kernel_rfl) (fun _ _ _ h => h) (Or.inl ⟨?sw550_8, ?yw550_8⟩) (by assumption) ?nw550_8
    case hw550_8 => simp only [List.getElem?_toArray, List.getElem?_cons_succ, List.getElem?_cons_zero]; rfl
    case sw550_8 => rfl
    case yw550_8 => (intro w hSw; (try dsimp only at hSw); go_simp <;> with_reducible rfl)
    try simp only [Act.put, List.setIfInBounds_toArray, List.set_cons_zero, List.set_cons_succ]
    refine hR.come (rs := [11]) (by kernel_rfl) (by simp) ?_
    refine AllReadyH.cons (o := ?o551_11) ?h551_11 (fun K hK => ?kw551_11) AllReadyH.nil
    case h551_11 => simp only [List.getElem?_toArray, List.getElem?_cons_succ, List.getElem?_cons_zero]; rfl
    go_simp
    go_at_call 53; refine (kinds1P _).mono ?_; rintro e w4 ⟨rfl, hb4⟩; have hk4 := bc _ _ (by (first | with_reducible assumption | (with_reducible refine Below.drew ?_; with_reducible assumption) | (with_reducible refine ba _ _ ?_; with_reducible assumption) | (with_reducible refine Below.drew ?_; with_reducible refine ba _ _ ?_; with_reducible assumption) | exact Below.refl _ _ | exact (Below.refl _ _).drew | exact (Below.refl _ _).alloc (Nat.le_refl _) _ | (refine bc _ _ (by assumption) (by assumption)))) hb4
    refine hK.out _ _ ?_ (fun hHeld => ?_)
    · (first | with_reducible assumption | (with_reducible refine Below.drew ?_; with_reducible assumption) | (with_reducible refine ba _ _ ?_; with_reducible assumption) | (with_reducible refine Below.drew ?_; with_reducible refine ba _ _ ?_; with_reducible assumption) | exact Below.refl _ _ | exact (Below.refl _ _).drew | exact (Below.refl _ _).alloc (Nat.le_refl _) _ | (refine bc _ _ (by assumption) (by assumption)))
    clear hK K
    refine RegOk.put_ (m' := 4095) (by kernel_rfl) ?_
    try simp only [Act.put, List.setIfInBounds_toArray, List.set_cons_zero, List.set_cons_succ]
    refine hR.come (rs := [12]) (by kernel_rfl) (by simp) ?_
    refine AllReadyH.cons (o := ?o552_12) ?h552_12 (fun K hK => ?kw552_12) AllReadyH.nil
    case h552_12 => simp only [List.getElem?_toArray, List.getElem?_cons_succ, List.getElem?_cons_zero]; rfl
    go_simp
    go_at_call 88; refine (powerI (k := 0) _ rfl rfl (by omega) hn hm255 (by omega) HP.out).mono ?_; rintro e w5 ⟨rfl, hb5⟩; have hk5 := bc _ _ (by (first | with_reducible assumption | (with_reducible refine Below.drew ?_; with_reducible assumption) | (with_reducible refine ba _ _ ?_; with_reducible assumption) | (with_reducible refine Below.drew ?_; with_reducible refine ba _ _ ?_; with_reducible assumption) | exact Below.refl _ _ | exact (Below.refl _ _).drew | exact (Below.refl _ _).alloc (Nat.le_refl _) _ | (refine bc _ _ (by assumption) (by assumption)))) hb5
    refine hK.out _ _ ?_ (fun hHeld => ?_)
    · (first | with_reducible assumption | (with_reducible refine Below.drew ?_; with_reducible assumption) | (with_reducible refine ba _ _ ?_; with_reducible assumption) | (with_reducible refine Below.drew ?_; with_reducible refine ba _ _ ?_; with_reducible assumption) | exact Below.refl _ _ | exact (Below.refl _ _).drew | exact (Below.refl _ _).alloc (Nat.le_refl _) _ | (refine bc _ _ (by assumption) (by assumption)))
    clear hK K
    refine RegOk.put_ (m' := 8191) (by kernel_rfl) ?_
    try simp only [Act.put, List.setIfInBounds_toArray, List.set_cons_zero, List.set_cons_succ]
    refine hR.take (i := 13) (oi := ?ow553_13) (v := ?vw553_13) (m' := 16383) ?hw553_13 (by kernel_rfl) (by kernel_rfl) (fun _ _ _ h => h) (Or.inl ⟨?sw553_13, ?yw553_13⟩) (by assumption) ?nw553_13
    case hw553_13 => simp only [List.getElem?_toArray, List.getElem?_cons_succ, List.getElem?_cons_zero]; rfl
    case sw553_13 => rfl
    case yw553_13 => (intro w hSw; (try dsimp only at hSw); go_simp <;> with_reducible rfl)
    try simp only [Act.put, List.setIfInBounds_toArray, List.set_cons_zero, List.set_cons_succ]
    refine hR.take (i := 14) (oi := ?ow554_14) (v := ?vw554_14) (m' := 32767) ?hw554_14 (by kernel_rfl) (by kernel_rfl) (fun _ _ _ h => h) (Or.inl ⟨?sw554_14, ?yw554_14⟩) (by assumption) ?nw554_14
    case hw554_14 => simp only [List.getElem?_toArray, List.getElem?_cons_succ, List.getElem?_cons_zero]; rfl
    case sw554_14 => rfl
    case yw554_14 => (intro w hSw; (try dsimp only at hSw); go_simp <;> with_reducible rfl)
    try simp only [Act.put, List.setIfInBounds_toArray, List.set_cons_zero, List.set_cons_succ]
    refine hR.take (i := 15) (oi := ?ow555_15) (v := ?vw555_15) (m' := 65535) ?hw555_15 (by kernel_rfl) (by kernel_rfl) (fun _ _ _ h => h) (Or.inl ⟨?sw555_15, ?yw555_15⟩) (by assumption) ?nw555_15
    case hw555_15 => simp only [List.getElem?_toArray, List.getElem?_cons_succ, List.getElem?_cons_zero]; rfl
    case sw555_15 => rfl
    case yw555_15 => (intro w hSw; (try dsimp only at hSw); go_simp <;> with_reducible rfl)
    try simp only [Act.put, List.setIfInBounds_toArray, List.set_cons_zero, List.set_cons_succ]
    refine hR.take (i := 16) (oi := ?ow556_16) (v := ?vw556_16) (m' := 131071) ?hw556_16 (by kernel_rfl) (by kernel_rfl) (fun _ _ _ h => h) (Or.inl ⟨?sw556_16, ?yw556_16⟩) (by assumption) ?nw556_16
    case hw556_16 => simp only [List.getElem?_toArray, List.getElem?_cons_succ, List.getElem?_cons_zero]; rfl
    case sw556_16 => rfl
    case yw556_16 => (intro w hSw; (try dsimp only at hSw); go_simp <;> with_reducible rfl)
    try simp only [Act.put, List.setIfInBounds_toArray, List.set_cons_zero, List.set_cons_succ]
    refine hR.take (i := 17) (oi := ?ow557_17) (v := ?vw557_17) (m' := 262143) ?hw557_17 (by kernel_rfl) (by kernel_rfl) (fun _ _ _ h => h) (Or.inl ⟨?sw557_17, ?yw557_17⟩) (by assumption) ?nw557_17
    case hw557_17 => simp only [List.getElem?_toArray, List.getElem?_cons_succ, List.getElem?_cons_zero]; rfl
    case sw557_17 => rfl
    case yw557_17 => (intro w hSw; (try dsimp only at hSw); go_simp <;> with_reducible rfl)
    try simp only [Act.put, List.setIfInBounds_toArray, List.set_cons_zero, List.set_cons_succ]
    refine hR.all (by kernel_rfl) ?_ _
    refine NoPanic.normal ?_
    go_wp2_with fail
    go_ret2
    rw [hmf.out]
    have hz5 : w.heap.size ≤ w5.heap.size := Nat.le_trans b2.out.size hk5.size
    have hb5 : Below w.heap.size w w5 := b2.out.trans (hk5.mono b2.out.size)
    refine ⟨_, 1, [wrap64 (P : Int)], rfl, fun h => ?_, ?_, ?_⟩
    · have hP2 : P < 4611686018427387904 := of_decide_eq_true h
      rw [IntWalk.wrap64_in (P : Int) (by omega)]
    · first | exact sl_one _ hz5 | exact (sl_one _ hz5).drew
    · first | exact hb5.alloc hz5 _ | exact (hb5.alloc hz5 _).drew
set_option maxRecDepth 100000 in
set_option maxHeartbeats 4000000 in
theorem moment1P2 {q : Qy} {A : Option Addr} {c p n : Nat} {S : Nat → Prop} (w : World) (hw : WidOk w) (h : Sl cdE.slice S w A c q.fs) (h0 : 0 < q.fs.length) (hv : ∀ x ∈ fl q 0, ValidCd x) (hc0 : 0 ≤ q.col) (hc3 : q.col ≤ 3) (hn : n ≤ 65536) (hk : True)
    (hp : w.cell? ⟨p, 0, none⟩ = some (.func (.func 54) #[] #[])) :
    Calls Tryz.prog 86 #[(.agg #[.int .i64 q.kind, .int .i64 q.col, .int .i64 q.k, .slice A q.fs.length c]), .int .i64 (n : Int), .pointer (some ⟨p, 0, none⟩)] w (BoundRes w (momF (fl q 0) q.col n (1))) := by
  have hm := h.max
  have H := Lib.hid h.old
  have HW := Lib.hid hw
  have hbd := under_bd hv q.col
  have lp := World.block_lt_of_cell? w _ hp
  clear h hw hv
  go_enter Tryz.func86, Tryz.ntmps86
  go_upto_region 1 with fail
  refine wp_world (F := fun wx => Below w.heap.size w wx ∧ Hid (wx.heap[w.heap.size]? = some (.cells #[.int .i64 q.kind, .int .i64 q.col, .int .i64 q.k, .slice A q.fs.length c] 24 (0, 0)))) ⟨(Below.refl _ _).alloc (Nat.le_refl _) _, Lib.hid (heap_alloc_at rfl)⟩ ?_
  rintro w1 ⟨bb, gq⟩
  have b0 := Lib.hid bb
  have H1 := Lib.hid (H.out.keep (Below.agree bb))
  have HW1 := mvW HW bb
  have hl : q.fs[0]? = some (fl q 0) := by unfold fl; rw [List.getD_eq_getElem?_getD, List.getElem?_eq_getElem h0]; rfl
  obtain ⟨b1, o1, B1, d1, rfl, -, l1, x1, hs1⟩ := flt_at H1.out hl
  simp only [Nat.add_zero] at x1
  obtain ⟨m, hm2⟩ : ∃ m : Nat, (underF (fl q 0) q.col).2 = m := ⟨(underF (fl q 0) q.col).2.toNat, by omega⟩
  have hm255 : m ≤ 255 := by omega
  obtain ⟨y0, y1, y2, y3⟩ := row4 gq
  have hp1 := (bb.cell (p := ⟨p, 0, none⟩) lp).trans hp
  have HS1 := Lib.hid hs1
  have hi0 : (0 : Int) < (q.fs.length : Int) := by omega
  have lq := heap_lt gq.out
  have lp1 := Nat.lt_of_lt_of_le lp bb.size
  clear bb hl hs1 hp lp hbd
  generalize fl q 0 = l at *
  have Hm2 := Lib.hid hm2
  clear hm2
  cases hsat : satB l with
  | false =>
    have hmf := Lib.hid (show momF l q.col n (1) = ([0], true) by unfold momF; rw [hsat]; rfl)
    go_wp2_with (go_at_call 87; refine (satP (l := l) _ HW1.out HS1.out).mono ?_; rw [hsat]; rintro e w2 ⟨rfl, hb2⟩)
    go_ret2
    rw [hmf.out]
    exact ⟨_, 1, [0], rfl, fun _ => rfl, sl_one 0 (by have := b0.out.size; have := hb2.size; omega), (b0.out.trans (hb2.mono b0.out.size)).alloc (by have := b0.out.size; have := hb2.size; omega) _⟩
  | true =>
    obtain ⟨P, hP⟩ : ∃ P, n * m ^ (1) = P := ⟨_, rfl⟩
    have hmf := Lib.hid (momF_sat (n := n) hsat Hm2.out hP)
    have HP := Lib.hid hP
    clear hP
    go_upto_region 3 with (go_at_call 87; refine (satP (l := l) _ HW1.out HS1.out).mono ?_; rw [hsat]; rintro e w2 ⟨rfl, hb2⟩)
    have b2 := Lib.hid (b0.out.trans (hb2.mono b0.out.size))
    have gq2 := mvQ gq hb2
    have HS2 := Lib.hid (HS1.out.keep (Below.agree hb2))
    have HW2 := mvW HW1 hb2
    have z1 := hold ((hb2.cell (p := ⟨b1, o1, none⟩) l1).trans x1)
    have z2 := hold ((hb2.cell (p := ⟨p, 0, none⟩) lp1).trans hp1)
    have zq : ∀ W, Below w2.heap.size w2 W → _ ∧ _ ∧ _ ∧ _ := fun W hW => row4 (mvQ gq2 hW)
    have br : Below w2.heap.size w2 w2 := Below.refl _ _
    have ba : ∀ W o, Below w2.heap.size w2 W → Below w2.heap.size w2 (W.alloc o) := fun W o h => h.alloc h.size o
    have bc : ∀ W W', Below w2.heap.size w2 W → Below W.heap.size W W' → Below w2.heap.size w2 W' := fun W W' h k => h.trans (k.mono h.size)
    clear hb2 gq y0 y1 y2 y3 hp1 x1
    have hf : ∀ a b w, (Instr.field 135 (.agg #[.int .i64 a, .int .i64 b]) 1).run Tryz.prog w = .ok (.int .i64 b) w := fun _ _ _ => by kernel_rfl
    refine wp_region_noPanic ?_
    refine wp_region_held_drew (S := fun X => Below w2.heap.size w2 X) (by kernel_rfl) ?_ (fun hHeld => ?_)
    · (first | with_reducible assumption | (with_reducible refine Below.drew ?_; with_reducible assumption) | (with_reducible refine ba _ _ ?_; with_reducible assumption) | (with_reducible refine Below.drew ?_; with_reducible refine ba _ _ ?_; with_reducible assumption) | exact Below.refl _ _ | exact (Below.refl _ _).drew | exact (Below.refl _ _).alloc (Nat.le_refl _) _ | (refine bc _ _ (by assumption) (by assumption)))
    refine RegOk.begin_ (n := 18) (T := q12A) ⟨by kernel_rfl, by kernel_rfl, by kernel_rfl, by kernel_rfl⟩ fun hR => ?_
    refine hR.take (i := 0) (oi := ?ow558_0) (v := ?vw558_0) (m' := 1) ?hw558_0 (by kernel_rfl) (by kernel_rfl) (fun _ _ _ h => h) (Or.inl ⟨?sw558_0, ?yw558_0⟩) (by assumption) ?nw558_0
    case hw558_0 => simp only [List.getElem?_toArray, List.getElem?_cons_succ, List.getElem?_cons_zero]; rfl
    case sw558_0 => rfl
    case yw558_0 => (intro w hSw; (try dsimp only at hSw); go_simp <;> with_reducible rfl)
    try simp only [Act.put, List.setIfInBounds_toArray, List.set_cons_zero, List.set_cons_succ]
    refine hR.take (i := 1) (oi := ?ow559_1) (v := ?vw559_1) (m' := 3) ?hw559_1 (by kernel_rfl) (by kernel_rfl) (fun _ _ _ h => h) (Or.inl ⟨?sw559_1, ?yw559_1⟩) (by assumption) ?nw559_1
    case hw559_1 => simp only [List.getElem?_toArray, List.getElem?_cons_succ, List.getElem?_cons_zero]; rfl
    case sw559_1 => rfl
    case yw559_1 => (intro w hSw; (try dsimp only at hSw); go_simp <;> with_reducible rfl)
    try simp only [Act.put, List.setIfInBounds_toArray, List.set_cons_zero, List.set_cons_succ]
    refine hR.take (i := 2) (oi := ?ow560_2) (v := ?vw560_2) (m' := 7) ?hw560_2 (by kernel_rfl) (by kernel_rfl) (fun _ _ _ h => h) (Or.inl ⟨?sw560_2, ?yw560_2⟩) (by assumption) ?nw560_2
    case hw560_2 => simp only [List.getElem?_toArray, List.getElem?_cons_succ, List.getElem?_cons_zero]; rfl
    case sw560_2 => rfl
    case yw560_2 => (intro w hSw; (try dsimp only at hSw); go_simp <;> with_reducible rfl)
    try simp only [Act.put, List.setIfInBounds_toArray, List.set_cons_zero, List.set_cons_succ]
    refine hR.take (i := 3) (oi := ?ow561_3) (v := ?vw561_3) (m' := 15) ?hw561_3 (by kernel_rfl) (by kernel_rfl) (fun _ _ _ h => h) (Or.inl ⟨?sw561_3, ?yw561_3⟩) (by assumption) ?nw561_3
    case hw561_3 => simp only [List.getElem?_toArray, List.getElem?_cons_succ, List.getElem?_cons_zero]; rfl
    case sw561_3 => rfl
    case yw561_3 => (intro w hSw; (try dsimp only at hSw); go_simp <;> with_reducible rfl)
    try simp only [Act.put, List.setIfInBounds_toArray, List.set_cons_zero, List.set_cons_succ]
    refine hR.take (i := 4) (oi := ?ow562_4) (v := ?vw562_4) (m' := 31) ?hw562_4 (by kernel_rfl) (by kernel_rfl) (fun _ _ _ h => h) (Or.inl ⟨?sw562_4, ?yw562_4⟩) (by assumption) ?nw562_4
    case hw562_4 => simp only [List.getElem?_toArray, List.getElem?_cons_succ, List.getElem?_cons_zero]; rfl
    case sw562_4 => rfl
    case yw562_4 => (intro w hSw; (try dsimp only at hSw); go_simp <;> with_reducible rfl)
    try simp only [Act.put, List.setIfInBounds_toArray, List.set_cons_zero, List.set_cons_succ]
    refine hR.take (i := 5) (oi := ?ow563_5) (v := ?vw563_5) (m' := 63) ?hw563_5 (by kernel_rfl) (by kernel_rfl) (fun _ _ _ h => h) (Or.inl ⟨?sw563_5, ?yw563_5⟩) (by assumption) ?nw563_5
    case hw563_5 => simp only [List.getElem?_toArray, List.getElem?_cons_succ, List.getElem?_cons_zero]; rfl
    case sw563_5 => rfl
    case yw563_5 => (intro w hSw; (try dsimp only at hSw); go_simp <;> with_reducible rfl)
    try simp only [Act.put, List.setIfInBounds_toArray, List.set_cons_zero, List.set_cons_succ]
    refine hR.take (i := 6) (oi := ?ow564_6) (v := ?vw564_6) (m' := 127) ?hw564_6 (by kernel_rfl) (by kernel_rfl) (fun _ _ _ h => h) (Or.inl ⟨?sw564_6, ?yw564_6⟩) (by assumption) ?nw564_6
    case hw564_6 => simp only [List.getElem?_toArray, List.getElem?_cons_succ, List.getElem?_cons_zero]; rfl
    case sw564_6 => rfl
    case yw564_6 => (intro w hSw; (try dsimp only at hSw); go_simp <;> with_reducible rfl)
    try simp only [Act.put, List.setIfInBounds_toArray, List.set_cons_zero, List.set_cons_succ]
    refine hR.take (i := 9) (oi := ?ow565_9) (v := ?vw565_9) (m' := 639) ?hw565_9 (by kernel_rfl) (by kernel_rfl) (fun _ _ _ h => h) (Or.inl ⟨?sw565_9, ?yw565_9⟩) (by assumption) ?nw565_9
    case hw565_9 => simp only [List.getElem?_toArray, List.getElem?_cons_succ, List.getElem?_cons_zero]; rfl
    case sw565_9 => rfl
    case yw565_9 => (intro w hSw; (try dsimp only at hSw); go_simp <;> with_reducible rfl)
    try simp only [Act.put, List.setIfInBounds_toArray, List.set_cons_zero, List.set_cons_succ]
    refine hR.take (i := 10) (oi := ?ow566_10) (v := ?vw566_10) (m' := 1663) ?hw566_10 (by kernel_rfl) (by kernel_rfl) (fun _ _ _ h => h) (Or.inl ⟨?sw566_10, ?yw566_10⟩) (by assumption) ?nw566_10
    case hw566_10 => simp only [List.getElem?_toArray, List.getElem?_cons_succ, List.getElem?_cons_zero]; rfl
    case sw566_10 => rfl
    case yw566_10 => (intro w hSw; (try dsimp only at hSw); go_simp <;> with_reducible rfl)
    try simp only [Act.put, List.setIfInBounds_toArray, List.set_cons_zero, List.set_cons_succ]
    refine hR.come (rs := [7]) (by kernel_rfl) (by simp) ?_
    refine AllReadyH.cons (o := ?o567_7) ?h567_7 (fun K hK => ?kw567_7) AllReadyH.nil
    case h567_7 => simp only [List.getElem?_toArray, List.getElem?_cons_succ, List.getElem?_cons_zero]; rfl
    go_simp
    go_at_call 89; refine (underP (l := l) q.col _ (HW2.out.keep (by (first | with_reducible assumption | (with_reducible refine Below.drew ?_; with_reducible assumption) | (with_reducible refine ba _ _ ?_; with_reducible assumption) | (with_reducible refine Below.drew ?_; with_reducible refine ba _ _ ?_; with_reducible assumption) | exact Below.refl _ _ | exact (Below.refl _ _).drew | exact (Below.refl _ _).alloc (Nat.le_refl _) _ | (refine bc _ _ (by assumption) (by assumption))))) (HS2.out.keep (Below.agree (by (first | with_reducible assumption | (with_reducible refine Below.drew ?_; with_reducible assumption) | (with_reducible refine ba _ _ ?_; with_reducible assumption) | (with_reducible refine Below.drew ?_; with_reducible refine ba _ _ ?_; with_reducible assumption) | exact Below.refl _ _ | exact (Below.refl _ _).drew | exact (Below.refl _ _).alloc (Nat.le_refl _) _ | (refine bc _ _ (by assumption) (by assumption)))))) (by omega) (by omega)).mono ?_; rw [Hm2.out]; rintro e w3 ⟨rfl, hb3⟩; have hk3 := bc _ _ (by (first | with_reducible assumption | (with_reducible refine Below.drew ?_; with_reducible assumption) | (with_reducible refine ba _ _ ?_; with_reducible assumption) | (with_reducible refine Below.drew ?_; with_reducible refine ba _ _ ?_; with_reducible assumption) | exact Below.refl _ _ | exact (Below.refl _ _).drew | exact (Below.refl _ _).alloc (Nat.le_refl _) _ | (refine bc _ _ (by assumption) (by assumption)))) hb3
    refine hK.out _ _ ?_ (fun hHeld => ?_)
    · (first | with_reducible assumption | (with_reducible refine Below.drew ?_; with_reducible assumption) | (with_reducible refine ba _ _ ?_; with_reducible assumption) | (with_reducible refine Below.drew ?_; with_reducible refine ba _ _ ?_; with_reducible assumption) | exact Below.refl _ _ | exact (Below.refl _ _).drew | exact (Below.refl _ _).alloc (Nat.le_refl _) _ | (refine bc _ _ (by assumption) (by assumption)))
    clear hK K
    refine RegOk.put_ (m' := 1791) (by kernel_rfl) ?_
    try simp only [Act.put, List.setIfInBounds_toArray, List.set_cons_zero, List.set_cons_succ]
    refine hR.take (i := 8) (oi := ?ow568_8) (v := ?vw568_8) (m' := 2047) ?hw568_8 (by kernel_rfl) (by kernel_rfl) (fun _ _ _ h => h) (Or.inl ⟨?sw568_8, ?yw568_8⟩) (by assumption) ?nw568_8
    case hw568_8 => simp only [List.getElem?_toArray, List.getElem?_cons_succ, List.getElem?_cons_zero]; rfl
    case sw568_8 => rfl
    case yw568_8 => (intro w hSw; (try dsimp only at hSw); go_simp <;> with_reducible rfl)
    try simp only [Act.put, List.setIfInBounds_toArray, List.set_cons_zero, List.set_cons_succ]
    refine hR.come (rs := [11]) (by kernel_rfl) (by simp) ?_
    refine AllReadyH.cons (o := ?o569_11) ?h569_11 (fun K hK => ?kw569_11) AllReadyH.nil
    case h569_11 => simp only [List.getElem?_toArray, List.getElem?_cons_succ, List.getElem?_cons_zero]; rfl
    go_simp
    go_at_call 54; refine (kinds2P _).mono ?_; rintro e w4 ⟨rfl, hb4⟩; have hk4 := bc _ _ (by (first | with_reducible assumption | (with_reducible refine Below.drew ?_; with_reducible assumption) | (with_reducible refine ba _ _ ?_; with_reducible assumption) | (with_reducible refine Below.drew ?_; with_reducible refine ba _ _ ?_; with_reducible assumption) | exact Below.refl _ _ | exact (Below.refl _ _).drew | exact (Below.refl _ _).alloc (Nat.le_refl _) _ | (refine bc _ _ (by assumption) (by assumption)))) hb4
    refine hK.out _ _ ?_ (fun hHeld => ?_)
    · (first | with_reducible assumption | (with_reducible refine Below.drew ?_; with_reducible assumption) | (with_reducible refine ba _ _ ?_; with_reducible assumption) | (with_reducible refine Below.drew ?_; with_reducible refine ba _ _ ?_; with_reducible assumption) | exact Below.refl _ _ | exact (Below.refl _ _).drew | exact (Below.refl _ _).alloc (Nat.le_refl _) _ | (refine bc _ _ (by assumption) (by assumption)))
    clear hK K
    refine RegOk.put_ (m' := 4095) (by kernel_rfl) ?_
    try simp only [Act.put, List.setIfInBounds_toArray, List.set_cons_zero, List.set_cons_succ]
    refine hR.come (rs := [12]) (by kernel_rfl) (by simp) ?_
    refine AllReadyH.cons (o := ?o570_12) ?h570_12 (fun K hK => ?kw570_12) AllReadyH.nil
    case h570_12 => simp only [List.getElem?_toArray, List.getElem?_cons_succ, List.getElem?_cons_zero]; rfl
    go_simp
    go_at_call 88; refine (powerI (k := 1) _ rfl rfl (by omega) hn hm255 (by omega) HP.out).mono ?_; rintro e w5 ⟨rfl, hb5⟩; have hk5 := bc _ _ (by (first | with_reducible assumption | (with_reducible refine Below.drew ?_; with_reducible assumption) | (with_reducible refine ba _ _ ?_; with_reducible assumption) | (with_reducible refine Below.drew ?_; with_reducible refine ba _ _ ?_; with_reducible assumption) | exact Below.refl _ _ | exact (Below.refl _ _).drew | exact (Below.refl _ _).alloc (Nat.le_refl _) _ | (refine bc _ _ (by assumption) (by assumption)))) hb5
    refine hK.out _ _ ?_ (fun hHeld => ?_)
    · (first | with_reducible assumption | (with_reducible refine Below.drew ?_; with_reducible assumption) | (with_reducible refine ba _ _ ?_; with_reducible assumption) | (with_reducible refine Below.drew ?_; with_reducible refine ba _ _ ?_; with_reducible assumption) | exact Below.refl _ _ | exact (Below.refl _ _).drew | exact (Below.refl _ _).alloc (Nat.le_refl _) _ | (refine bc _ _ (by assumption) (by assumption)))
    clear hK K
    refine RegOk.put_ (m' := 8191) (by kernel_rfl) ?_
    try simp only [Act.put, List.setIfInBounds_toArray, List.set_cons_zero, List.set_cons_succ]
    refine hR.take (i := 13) (oi := ?ow571_13) (v := ?vw571_13) (m' := 16383) ?hw571_13 (by kernel_rfl) (by kernel_rfl) (fun _ _ _ h => h) (Or.inl ⟨?sw571_13, ?yw571_13⟩) (by assumption) ?nw571_13
    case hw571_13 => simp only [List.getElem?_toArray, List.getElem?_cons_succ, List.getElem?_cons_zero]; rfl
    case sw571_13 => rfl
    case yw571_13 => (intro w hSw; (try dsimp only at hSw); go_simp <;> with_reducible rfl)
    try simp only [Act.put, List.setIfInBounds_toArray, List.set_cons_zero, List.set_cons_succ]
    refine hR.take (i := 14) (oi := ?ow572_14) (v := ?vw572_14) (m' := 32767) ?hw572_14 (by kernel_rfl) (by kernel_rfl) (fun _ _ _ h => h) (Or.inl ⟨?sw572_14, ?yw572_14⟩) (by assumption) ?nw572_14
    case hw572_14 => simp only [List.getElem?_toArray, List.getElem?_cons_succ, List.getElem?_cons_zero]; rfl
    case sw572_14 => rfl
    case yw572_14 => (intro w hSw; (try dsimp only at hSw); go_simp <;> with_reducible rfl)
    try simp only [Act.put, List.setIfInBounds_toArray, List.set_cons_zero, List.set_cons_succ]
    refine hR.take (i := 15) (oi := ?ow573_15) (v := ?vw573_15) (m' := 65535) ?hw573_15 (by kernel_rfl) (by kernel_rfl) (fun _ _ _ h => h) (Or.inl ⟨?sw573_15, ?yw573_15⟩) (by assumption) ?nw573_15
    case hw573_15 => simp only [List.getElem?_toArray, List.getElem?_cons_succ, List.getElem?_cons_zero]; rfl
    case sw573_15 => rfl
    case yw573_15 => (intro w hSw; (try dsimp only at hSw); go_simp <;> with_reducible rfl)
    try simp only [Act.put, List.setIfInBounds_toArray, List.set_cons_zero, List.set_cons_succ]
    refine hR.take (i := 16) (oi := ?ow574_16) (v := ?vw574_16) (m' := 131071) ?hw574_16 (by kernel_rfl) (by kernel_rfl) (fun _ _ _ h => h) (Or.inl ⟨?sw574_16, ?yw574_16⟩) (by assumption) ?nw574_16
    case hw574_16 => simp only [List.getElem?_toArray, List.getElem?_cons_succ, List.getElem?_cons_zero]; rfl
    case sw574_16 => rfl
    case yw574_16 => (intro w hSw; (try dsimp only at hSw); go_simp <;> with_reducible rfl)
    try simp only [Act.put, List.setIfInBounds_toArray, List.set_cons_zero, List.set_cons_succ]
    refine hR.take (i := 17) (oi := ?ow575_17) (v := ?vw575_17) (m' := 262143) ?hw575_17 (by kernel_rfl) (by kernel_rfl) (fun _ _ _ h => h) (Or.inl ⟨?sw575_17, ?yw575_17⟩) (by assumption) ?nw575_17
    case hw575_17 => simp only [List.getElem?_toArray, List.getElem?_cons_succ, List.getElem?_cons_zero]; rfl
    case sw575_17 => rfl
    case yw575_17 => (intro w hSw; (try dsimp only at hSw); go_simp <;> with_reducible rfl)
    try simp only [Act.put, List.setIfInBounds_toArray, List.set_cons_zero, List.set_cons_succ]
    refine hR.all (by kernel_rfl) ?_ _
    refine NoPanic.normal ?_
    go_wp2_with fail
    go_ret2
    rw [hmf.out]
    have hz5 : w.heap.size ≤ w5.heap.size := Nat.le_trans b2.out.size hk5.size
    have hb5 : Below w.heap.size w w5 := b2.out.trans (hk5.mono b2.out.size)
    refine ⟨_, 1, [wrap64 (P : Int)], rfl, fun h => ?_, ?_, ?_⟩
    · have hP2 : P < 4611686018427387904 := of_decide_eq_true h
      rw [IntWalk.wrap64_in (P : Int) (by omega)]
    · first | exact sl_one _ hz5 | exact (sl_one _ hz5).drew
    · first | exact hb5.alloc hz5 _ | exact (hb5.alloc hz5 _).drew
set_option maxRecDepth 100000 in
set_option maxHeartbeats 4000000 in
theorem moment1P3 {q : Qy} {A : Option Addr} {c p n : Nat} {S : Nat → Prop} (w : World) (hw : WidOk w) (h : Sl cdE.slice S w A c q.fs) (h0 : 0 < q.fs.length) (hv : ∀ x ∈ fl q 0, ValidCd x) (hc0 : 0 ≤ q.col) (hc3 : q.col ≤ 3) (hn : n ≤ 65536) (hk : 0 ≤ q.k ∧ q.k ≤ 6)
    (hp : w.cell? ⟨p, 0, none⟩ = some (.func (.func 55) #[] #[])) :
    Calls Tryz.prog 86 #[(.agg #[.int .i64 q.kind, .int .i64 q.col, .int .i64 q.k, .slice A q.fs.length c]), .int .i64 (n : Int), .pointer (some ⟨p, 0, none⟩)] w (BoundRes w (momF (fl q 0) q.col n (q.k.toNat))) := by
  have hm := h.max
  have H := Lib.hid h.old
  have HW := Lib.hid hw
  have hbd := under_bd hv q.col
  have lp := World.block_lt_of_cell? w _ hp
  clear h hw hv
  go_enter Tryz.func86, Tryz.ntmps86
  go_upto_region 1 with fail
  refine wp_world (F := fun wx => Below w.heap.size w wx ∧ Hid (wx.heap[w.heap.size]? = some (.cells #[.int .i64 q.kind, .int .i64 q.col, .int .i64 q.k, .slice A q.fs.length c] 24 (0, 0)))) ⟨(Below.refl _ _).alloc (Nat.le_refl _) _, Lib.hid (heap_alloc_at rfl)⟩ ?_
  rintro w1 ⟨bb, gq⟩
  have b0 := Lib.hid bb
  have H1 := Lib.hid (H.out.keep (Below.agree bb))
  have HW1 := mvW HW bb
  have hl : q.fs[0]? = some (fl q 0) := by unfold fl; rw [List.getD_eq_getElem?_getD, List.getElem?_eq_getElem h0]; rfl
  obtain ⟨b1, o1, B1, d1, rfl, -, l1, x1, hs1⟩ := flt_at H1.out hl
  simp only [Nat.add_zero] at x1
  obtain ⟨m, hm2⟩ : ∃ m : Nat, (underF (fl q 0) q.col).2 = m := ⟨(underF (fl q 0) q.col).2.toNat, by omega⟩
  have hm255 : m ≤ 255 := by omega
  obtain ⟨y0, y1, y2, y3⟩ := row4 gq
  have hp1 := (bb.cell (p := ⟨p, 0, none⟩) lp).trans hp
  have HS1 := Lib.hid hs1
  have hi0 : (0 : Int) < (q.fs.length : Int) := by omega
  have lq := heap_lt gq.out
  have lp1 := Nat.lt_of_lt_of_le lp bb.size
  clear bb hl hs1 hp lp hbd
  generalize fl q 0 = l at *
  have Hm2 := Lib.hid hm2
  clear hm2
  cases hsat : satB l with
  | false =>
    have hmf := Lib.hid (show momF l q.col n (q.k.toNat) = ([0], true) by unfold momF; rw [hsat]; rfl)
    go_wp2_with (go_at_call 87; refine (satP (l := l) _ HW1.out HS1.out).mono ?_; rw [hsat]; rintro e w2 ⟨rfl, hb2⟩)
    go_ret2
    rw [hmf.out]
    exact ⟨_, 1, [0], rfl, fun _ => rfl, sl_one 0 (by have := b0.out.size; have := hb2.size; omega), (b0.out.trans (hb2.mono b0.out.size)).alloc (by have := b0.out.size; have := hb2.size; omega) _⟩
  | true =>
    obtain ⟨P, hP⟩ : ∃ P, n * m ^ (q.k.toNat) = P := ⟨_, rfl⟩
    have hmf := Lib.hid (momF_sat (n := n) hsat Hm2.out hP)
    have HP := Lib.hid hP
    clear hP
    go_upto_region 3 with (go_at_call 87; refine (satP (l := l) _ HW1.out HS1.out).mono ?_; rw [hsat]; rintro e w2 ⟨rfl, hb2⟩)
    have b2 := Lib.hid (b0.out.trans (hb2.mono b0.out.size))
    have gq2 := mvQ gq hb2
    have HS2 := Lib.hid (HS1.out.keep (Below.agree hb2))
    have HW2 := mvW HW1 hb2
    have z1 := hold ((hb2.cell (p := ⟨b1, o1, none⟩) l1).trans x1)
    have z2 := hold ((hb2.cell (p := ⟨p, 0, none⟩) lp1).trans hp1)
    have zq : ∀ W, Below w2.heap.size w2 W → _ ∧ _ ∧ _ ∧ _ := fun W hW => row4 (mvQ gq2 hW)
    have br : Below w2.heap.size w2 w2 := Below.refl _ _
    have ba : ∀ W o, Below w2.heap.size w2 W → Below w2.heap.size w2 (W.alloc o) := fun W o h => h.alloc h.size o
    have bc : ∀ W W', Below w2.heap.size w2 W → Below W.heap.size W W' → Below w2.heap.size w2 W' := fun W W' h k => h.trans (k.mono h.size)
    clear hb2 gq y0 y1 y2 y3 hp1 x1
    have hf : ∀ a b w, (Instr.field 135 (.agg #[.int .i64 a, .int .i64 b]) 1).run Tryz.prog w = .ok (.int .i64 b) w := fun _ _ _ => by kernel_rfl
    refine wp_region_noPanic ?_
    refine wp_region_held_drew (S := fun X => Below w2.heap.size w2 X) (by kernel_rfl) ?_ (fun hHeld => ?_)
    · (first | with_reducible assumption | (with_reducible refine Below.drew ?_; with_reducible assumption) | (with_reducible refine ba _ _ ?_; with_reducible assumption) | (with_reducible refine Below.drew ?_; with_reducible refine ba _ _ ?_; with_reducible assumption) | exact Below.refl _ _ | exact (Below.refl _ _).drew | exact (Below.refl _ _).alloc (Nat.le_refl _) _ | (refine bc _ _ (by assumption) (by assumption)))
    refine RegOk.begin_ (n := 18) (T := q12A) ⟨by kernel_rfl, by kernel_rfl, by kernel_rfl, by kernel_rfl⟩ fun hR => ?_
    refine hR.take (i := 0) (oi := ?ow576_0) (v := ?vw576_0) (m' := 1) ?hw576_0 (by kernel_rfl) (by kernel_rfl) (fun _ _ _ h => h) (Or.inl ⟨?sw576_0, ?yw576_0⟩) (by assumption) ?nw576_0
    case hw576_0 => simp only [List.getElem?_toArray, List.getElem?_cons_succ, List.getElem?_cons_zero]; rfl
    case sw576_0 => rfl
    case yw576_0 => (intro w hSw; (try dsimp only at hSw); go_simp <;> with_reducible rfl)
    try simp only [Act.put, List.setIfInBounds_toArray, List.set_cons_zero, List.set_cons_succ]
    refine hR.take (i := 1) (oi := ?ow577_1) (v := ?vw577_1) (m' := 3) ?hw577_1 (by kernel_rfl) (by kernel_rfl) (fun _ _ _ h => h) (Or.inl ⟨?sw577_1, ?yw577_1⟩) (by assumption) ?nw577_1
    case hw577_1 => simp only [List.getElem?_toArray, List.getElem?_cons_succ, List.getElem?_cons_zero]; rfl
    case sw577_1 => rfl
    case yw577_1 => (intro w hSw; (try dsimp only at hSw); go_simp <;> with_reducible rfl)
    try simp only [Act.put, List.setIfInBounds_toArray, List.set_cons_zero, List.set_cons_succ]
    refine hR.take (i := 2) (oi := ?ow578_2) (v := ?vw578_2) (m' := 7) ?hw578_2 (by kernel_rfl) (by kernel_rfl) (fun _ _ _ h => h) (Or.inl ⟨?sw578_2, ?yw578_2⟩) (by assumption) ?nw578_2
    case hw578_2 => simp only [List.getElem?_toArray, List.getElem?_cons_succ, List.getElem?_cons_zero]; rfl
    case sw578_2 => rfl
    case yw578_2 => (intro w hSw; (try dsimp only at hSw); go_simp <;> with_reducible rfl)
    try simp only [Act.put, List.setIfInBounds_toArray, List.set_cons_zero, List.set_cons_succ]
    refine hR.take (i := 3) (oi := ?ow579_3) (v := ?vw579_3) (m' := 15) ?hw579_3 (by kernel_rfl) (by kernel_rfl) (fun _ _ _ h => h) (Or.inl ⟨?sw579_3, ?yw579_3⟩) (by assumption) ?nw579_3
    case hw579_3 => simp only [List.getElem?_toArray, List.getElem?_cons_succ, List.getElem?_cons_zero]; rfl
    case sw579_3 => rfl
    case yw579_3 => (intro w hSw; (try dsimp only at hSw); go_simp <;> with_reducible rfl)
    try simp only [Act.put, List.setIfInBounds_toArray, List.set_cons_zero, List.set_cons_succ]
    refine hR.take (i := 4) (oi := ?ow580_4) (v := ?vw580_4) (m' := 31) ?hw580_4 (by kernel_rfl) (by kernel_rfl) (fun _ _ _ h => h) (Or.inl ⟨?sw580_4, ?yw580_4⟩) (by assumption) ?nw580_4
    case hw580_4 => simp only [List.getElem?_toArray, List.getElem?_cons_succ, List.getElem?_cons_zero]; rfl
    case sw580_4 => rfl
    case yw580_4 => (intro w hSw; (try dsimp only at hSw); go_simp <;> with_reducible rfl)
    try simp only [Act.put, List.setIfInBounds_toArray, List.set_cons_zero, List.set_cons_succ]
    refine hR.take (i := 5) (oi := ?ow581_5) (v := ?vw581_5) (m' := 63) ?hw581_5 (by kernel_rfl) (by kernel_rfl) (fun _ _ _ h => h) (Or.inl ⟨?sw581_5, ?yw581_5⟩) (by assumption) ?nw581_5
    case hw581_5 => simp only [List.getElem?_toArray, List.getElem?_cons_succ, List.getElem?_cons_zero]; rfl
    case sw581_5 => rfl
    case yw581_5 => (intro w hSw; (try dsimp only at hSw); go_simp <;> with_reducible rfl)
    try simp only [Act.put, List.setIfInBounds_toArray, List.set_cons_zero, List.set_cons_succ]
    refine hR.take (i := 6) (oi := ?ow582_6) (v := ?vw582_6) (m' := 127) ?hw582_6 (by kernel_rfl) (by kernel_rfl) (fun _ _ _ h => h) (Or.inl ⟨?sw582_6, ?yw582_6⟩) (by assumption) ?nw582_6
    case hw582_6 => simp only [List.getElem?_toArray, List.getElem?_cons_succ, List.getElem?_cons_zero]; rfl
    case sw582_6 => rfl
    case yw582_6 => (intro w hSw; (try dsimp only at hSw); go_simp <;> with_reducible rfl)
    try simp only [Act.put, List.setIfInBounds_toArray, List.set_cons_zero, List.set_cons_succ]
    refine hR.take (i := 9) (oi := ?ow583_9) (v := ?vw583_9) (m' := 639) ?hw583_9 (by kernel_rfl) (by kernel_rfl) (fun _ _ _ h => h) (Or.inl ⟨?sw583_9, ?yw583_9⟩) (by assumption) ?nw583_9
    case hw583_9 => simp only [List.getElem?_toArray, List.getElem?_cons_succ, List.getElem?_cons_zero]; rfl
    case sw583_9 => rfl
    case yw583_9 => (intro w hSw; (try dsimp only at hSw); go_simp <;> with_reducible rfl)
    try simp only [Act.put, List.setIfInBounds_toArray, List.set_cons_zero, List.set_cons_succ]
    refine hR.take (i := 10) (oi := ?ow584_10) (v := ?vw584_10) (m' := 1663) ?hw584_10 (by kernel_rfl) (by kernel_rfl) (fun _ _ _ h => h) (Or.inl ⟨?sw584_10, ?yw584_10⟩) (by assumption) ?nw584_10
    case hw584_10 => simp only [List.getElem?_toArray, List.getElem?_cons_succ, List.getElem?_cons_zero]; rfl
    case sw584_10 => rfl
    case yw584_10 => (intro w hSw; (try dsimp only at hSw); go_simp <;> with_reducible rfl)
    try simp only [Act.put, List.setIfInBounds_toArray, List.set_cons_zero, List.set_cons_succ]
    refine hR.come (rs := [7]) (by kernel_rfl) (by simp) ?_
    refine AllReadyH.cons (o := ?o585_7) ?h585_7 (fun K hK => ?kw585_7) AllReadyH.nil
    case h585_7 => simp only [List.getElem?_toArray, List.getElem?_cons_succ, List.getElem?_cons_zero]; rfl
    go_simp
    go_at_call 89; refine (underP (l := l) q.col _ (HW2.out.keep (by (first | with_reducible assumption | (with_reducible refine Below.drew ?_; with_reducible assumption) | (with_reducible refine ba _ _ ?_; with_reducible assumption) | (with_reducible refine Below.drew ?_; with_reducible refine ba _ _ ?_; with_reducible assumption) | exact Below.refl _ _ | exact (Below.refl _ _).drew | exact (Below.refl _ _).alloc (Nat.le_refl _) _ | (refine bc _ _ (by assumption) (by assumption))))) (HS2.out.keep (Below.agree (by (first | with_reducible assumption | (with_reducible refine Below.drew ?_; with_reducible assumption) | (with_reducible refine ba _ _ ?_; with_reducible assumption) | (with_reducible refine Below.drew ?_; with_reducible refine ba _ _ ?_; with_reducible assumption) | exact Below.refl _ _ | exact (Below.refl _ _).drew | exact (Below.refl _ _).alloc (Nat.le_refl _) _ | (refine bc _ _ (by assumption) (by assumption)))))) (by omega) (by omega)).mono ?_; rw [Hm2.out]; rintro e w3 ⟨rfl, hb3⟩; have hk3 := bc _ _ (by (first | with_reducible assumption | (with_reducible refine Below.drew ?_; with_reducible assumption) | (with_reducible refine ba _ _ ?_; with_reducible assumption) | (with_reducible refine Below.drew ?_; with_reducible refine ba _ _ ?_; with_reducible assumption) | exact Below.refl _ _ | exact (Below.refl _ _).drew | exact (Below.refl _ _).alloc (Nat.le_refl _) _ | (refine bc _ _ (by assumption) (by assumption)))) hb3
    refine hK.out _ _ ?_ (fun hHeld => ?_)
    · (first | with_reducible assumption | (with_reducible refine Below.drew ?_; with_reducible assumption) | (with_reducible refine ba _ _ ?_; with_reducible assumption) | (with_reducible refine Below.drew ?_; with_reducible refine ba _ _ ?_; with_reducible assumption) | exact Below.refl _ _ | exact (Below.refl _ _).drew | exact (Below.refl _ _).alloc (Nat.le_refl _) _ | (refine bc _ _ (by assumption) (by assumption)))
    clear hK K
    refine RegOk.put_ (m' := 1791) (by kernel_rfl) ?_
    try simp only [Act.put, List.setIfInBounds_toArray, List.set_cons_zero, List.set_cons_succ]
    refine hR.take (i := 8) (oi := ?ow586_8) (v := ?vw586_8) (m' := 2047) ?hw586_8 (by kernel_rfl) (by kernel_rfl) (fun _ _ _ h => h) (Or.inl ⟨?sw586_8, ?yw586_8⟩) (by assumption) ?nw586_8
    case hw586_8 => simp only [List.getElem?_toArray, List.getElem?_cons_succ, List.getElem?_cons_zero]; rfl
    case sw586_8 => rfl
    case yw586_8 => (intro w hSw; (try dsimp only at hSw); go_simp <;> with_reducible rfl)
    try simp only [Act.put, List.setIfInBounds_toArray, List.set_cons_zero, List.set_cons_succ]
    refine hR.come (rs := [11]) (by kernel_rfl) (by simp) ?_
    refine AllReadyH.cons (o := ?o587_11) ?h587_11 (fun K hK => ?kw587_11) AllReadyH.nil
    case h587_11 => simp only [List.getElem?_toArray, List.getElem?_cons_succ, List.getElem?_cons_zero]; rfl
    go_simp
    go_at_call 55; refine (kinds3P _).mono ?_; rintro e w4 ⟨rfl, hb4⟩; have hk4 := bc _ _ (by (first | with_reducible assumption | (with_reducible refine Below.drew ?_; with_reducible assumption) | (with_reducible refine ba _ _ ?_; with_reducible assumption) | (with_reducible refine Below.drew ?_; with_reducible refine ba _ _ ?_; with_reducible assumption) | exact Below.refl _ _ | exact (Below.refl _ _).drew | exact (Below.refl _ _).alloc (Nat.le_refl _) _ | (refine bc _ _ (by assumption) (by assumption)))) hb4
    refine hK.out _ _ ?_ (fun hHeld => ?_)
    · (first | with_reducible assumption | (with_reducible refine Below.drew ?_; with_reducible assumption) | (with_reducible refine ba _ _ ?_; with_reducible assumption) | (with_reducible refine Below.drew ?_; with_reducible refine ba _ _ ?_; with_reducible assumption) | exact Below.refl _ _ | exact (Below.refl _ _).drew | exact (Below.refl _ _).alloc (Nat.le_refl _) _ | (refine bc _ _ (by assumption) (by assumption)))
    clear hK K
    refine RegOk.put_ (m' := 4095) (by kernel_rfl) ?_
    try simp only [Act.put, List.setIfInBounds_toArray, List.set_cons_zero, List.set_cons_succ]
    refine hR.come (rs := [12]) (by kernel_rfl) (by simp) ?_
    refine AllReadyH.cons (o := ?o588_12) ?h588_12 (fun K hK => ?kw588_12) AllReadyH.nil
    case h588_12 => simp only [List.getElem?_toArray, List.getElem?_cons_succ, List.getElem?_cons_zero]; rfl
    go_simp
    go_at_call 88; refine (powerI (k := q.k.toNat) _ rfl rfl (by omega) hn hm255 (by omega) HP.out).mono ?_; rintro e w5 ⟨rfl, hb5⟩; have hk5 := bc _ _ (by (first | with_reducible assumption | (with_reducible refine Below.drew ?_; with_reducible assumption) | (with_reducible refine ba _ _ ?_; with_reducible assumption) | (with_reducible refine Below.drew ?_; with_reducible refine ba _ _ ?_; with_reducible assumption) | exact Below.refl _ _ | exact (Below.refl _ _).drew | exact (Below.refl _ _).alloc (Nat.le_refl _) _ | (refine bc _ _ (by assumption) (by assumption)))) hb5
    refine hK.out _ _ ?_ (fun hHeld => ?_)
    · (first | with_reducible assumption | (with_reducible refine Below.drew ?_; with_reducible assumption) | (with_reducible refine ba _ _ ?_; with_reducible assumption) | (with_reducible refine Below.drew ?_; with_reducible refine ba _ _ ?_; with_reducible assumption) | exact Below.refl _ _ | exact (Below.refl _ _).drew | exact (Below.refl _ _).alloc (Nat.le_refl _) _ | (refine bc _ _ (by assumption) (by assumption)))
    clear hK K
    refine RegOk.put_ (m' := 8191) (by kernel_rfl) ?_
    try simp only [Act.put, List.setIfInBounds_toArray, List.set_cons_zero, List.set_cons_succ]
    refine hR.take (i := 13) (oi := ?ow589_13) (v := ?vw589_13) (m' := 16383) ?hw589_13 (by kernel_rfl) (by kernel_rfl) (fun _ _ _ h => h) (Or.inl ⟨?sw589_13, ?yw589_13⟩) (by assumption) ?nw589_13
    case hw589_13 => simp only [List.getElem?_toArray, List.getElem?_cons_succ, List.getElem?_cons_zero]; rfl
    case sw589_13 => rfl
    case yw589_13 => (intro w hSw; (try dsimp only at hSw); go_simp <;> with_reducible rfl)
    try simp only [Act.put, List.setIfInBounds_toArray, List.set_cons_zero, List.set_cons_succ]
    refine hR.take (i := 14) (oi := ?ow590_14) (v := ?vw590_14) (m' := 32767) ?hw590_14 (by kernel_rfl) (by kernel_rfl) (fun _ _ _ h => h) (Or.inl ⟨?sw590_14, ?yw590_14⟩) (by assumption) ?nw590_14
    case hw590_14 => simp only [List.getElem?_toArray, List.getElem?_cons_succ, List.getElem?_cons_zero]; rfl
    case sw590_14 => rfl
    case yw590_14 => (intro w hSw; (try dsimp only at hSw); go_simp <;> with_reducible rfl)
    try simp only [Act.put, List.setIfInBounds_toArray, List.set_cons_zero, List.set_cons_succ]
    refine hR.take (i := 15) (oi := ?ow591_15) (v := ?vw591_15) (m' := 65535) ?hw591_15 (by kernel_rfl) (by kernel_rfl) (fun _ _ _ h => h) (Or.inl ⟨?sw591_15, ?yw591_15⟩) (by assumption) ?nw591_15
    case hw591_15 => simp only [List.getElem?_toArray, List.getElem?_cons_succ, List.getElem?_cons_zero]; rfl
    case sw591_15 => rfl
    case yw591_15 => (intro w hSw; (try dsimp only at hSw); go_simp <;> with_reducible rfl)
    try simp only [Act.put, List.setIfInBounds_toArray, List.set_cons_zero, List.set_cons_succ]
    refine hR.take (i := 16) (oi := ?ow592_16) (v := ?vw592_16) (m' := 131071) ?hw592_16 (by kernel_rfl) (by kernel_rfl) (fun _ _ _ h => h) (Or.inl ⟨?sw592_16, ?yw592_16⟩) (by assumption) ?nw592_16
    case hw592_16 => simp only [List.getElem?_toArray, List.getElem?_cons_succ, List.getElem?_cons_zero]; rfl
    case sw592_16 => rfl
    case yw592_16 => (intro w hSw; (try dsimp only at hSw); go_simp <;> with_reducible rfl)
    try simp only [Act.put, List.setIfInBounds_toArray, List.set_cons_zero, List.set_cons_succ]
    refine hR.take (i := 17) (oi := ?ow593_17) (v := ?vw593_17) (m' := 262143) ?hw593_17 (by kernel_rfl) (by kernel_rfl) (fun _ _ _ h => h) (Or.inl ⟨?sw593_17, ?yw593_17⟩) (by assumption) ?nw593_17
    case hw593_17 => simp only [List.getElem?_toArray, List.getElem?_cons_succ, List.getElem?_cons_zero]; rfl
    case sw593_17 => rfl
    case yw593_17 => (intro w hSw; (try dsimp only at hSw); go_simp <;> with_reducible rfl)
    try simp only [Act.put, List.setIfInBounds_toArray, List.set_cons_zero, List.set_cons_succ]
    refine hR.all (by kernel_rfl) ?_ _
    refine NoPanic.normal ?_
    go_wp2_with fail
    go_ret2
    rw [hmf.out]
    have hz5 : w.heap.size ≤ w5.heap.size := Nat.le_trans b2.out.size hk5.size
    have hb5 : Below w.heap.size w w5 := b2.out.trans (hk5.mono b2.out.size)
    refine ⟨_, 1, [wrap64 (P : Int)], rfl, fun h => ?_, ?_, ?_⟩
    · have hP2 : P < 4611686018427387904 := of_decide_eq_true h
      rw [IntWalk.wrap64_in (P : Int) (by omega)]
    · first | exact sl_one _ hz5 | exact (sl_one _ hz5).drew
    · first | exact hb5.alloc hz5 _ | exact (hb5.alloc hz5 _).drew
end Go.Proofs.YtagadbdbbglddaaGreatDoor
