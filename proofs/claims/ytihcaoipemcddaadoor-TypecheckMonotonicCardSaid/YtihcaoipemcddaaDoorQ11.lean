/-
  Contracts of the type checker (XQ11): counters and pairs.
-/
import Derived.Test.YtihcaoipemcddaaDoorQ10
namespace Go.Proofs.YtihcaoipemcddaaDoor
open Go.RowKit

set_option maxRecDepth 100000 in
theorem bucketsP {w0 : World} {N base : Nat} {s : Int × Int} {l : List Cd} {A B : Option Addr} {c n d : Nat} {ys : List Int} (w : World) (h : Own Enc.i64 (fun _ => False) w base 2 (.slice B n d) ys) (hl : Sl cdE (fun b => b < N) w A c l) (hw : WidB N w) (hb : Below N w0 w) (hN : N ≤ w.heap.size) :
    Calls Tryd.prog 60 #[.slice B n d, .slice A l.length c, .agg #[.int .i64 s.1, .int .i64 s.2]] w fun e w' =>
      e = .returned (.func (.func 64) #[] #[.pointer (some ⟨w.heap.size + 2, 0, none⟩), .pointer (some ⟨w.heap.size + 1, 0, none⟩), .pointer (some ⟨w.heap.size, 0, none⟩)]) ∧
      Bk w0 N base (w.heap.size + 2) (w.heap.size + 1) w.heap.size s l A c (.slice B n d) ys w' ∧ Below w.heap.size w w' := by
  have H := Lib.hid h
  have HL := Lib.hid hl
  have HW := Lib.hid hw
  have HB := Lib.hid hb
  have lo := h.lt
  clear h hl hw hb
  go_enter Tryd.func60, Tryd.ntmps60
  go_wp2_with fail
  go_ret
  have hbel : Below w.heap.size w (((w.alloc (.cells #[.slice B n d] 27)).alloc (.cells #[.slice A l.length c] 44)).alloc (.cells #[.int .i64 s.1, .int .i64 s.2] 89)) := (by repeat' (first | with_reducible exact Below.refl _ _ | with_reducible assumption | with_reducible refine Below.setCell ?_ ?_ _ | with_reducible refine Below.drew ?_ | with_reducible refine below_drewN ?_ _ | with_reducible refine Below.alloc ?_ ?_ _ | (rintro _ ⟨⟩; simp <;> omega) | omega | (simp <;> omega)))
  refine ⟨rfl, ⟨H.out.call hbel, fun k hk => by have := lo k hk; omega, ?_, ?_, ?_, HB.out.trans (hbel.mono hN), HW.out.keep (hbel.mono hN), HL.out.keep (Below.agree hbel)⟩, hbel⟩
  · with_reducible refine heap_alloc_at ?_
    simp
  · refine (Below.heap_alloc _ _ _ (by simp)).trans ?_
    with_reducible refine heap_alloc_at ?_
    simp
  · refine (Below.heap_alloc _ _ _ (by simp; omega)).trans ((Below.heap_alloc _ _ _ (by simp)).trans ?_)
    with_reducible refine heap_alloc_at ?_
    rfl
/-- Bounds, and whether they are below the limit. -/
def BoundRes (w : World) (p : List Int × Bool) (e : Ending) (w' : World) : Prop :=
  ∃ B d xs, e = .returned (.tuple #[.slice B xs.length d, .bool p.2]) ∧ (p.2 = true → xs = p.1) ∧ Sl .i64 (fun b => w.heap.size ≤ b) w' B d xs ∧ Below w.heap.size w w'
def q11A : List FRow := [(0, ([], (7, [2]))), (1, ([0], (8, [6]))), (2, ([1], (9, [7]))), (3, ([2], (10, [8]))), (4, ([], (11, [2]))), (5, ([4], (12, [10]))), (6, ([5], (13, [11]))), (7, ([6], (14, [12]))), (8, ([], (15, [2]))), (9, ([8], (16, [14]))), (10, ([7, 9], (17, [13, 15]))), (11, ([3, 10, 10], (18, [9, 16]))), (12, ([], (19, [1]))), (13, ([11, 12, 11], (20, [17, 18]))), (14, ([13, 13, 0, 1, 2, 3, 4, 5, 6, 7, 8, 9, 10, 11, 12, 13], (5, [19]))), (15, ([14, 0, 1, 2, 3, 4, 5, 6, 7, 8, 9, 10, 11, 12, 13, 14], (6, [])))]
set_option maxRecDepth 100000 in
set_option maxHeartbeats 2000000 in
theorem countersP {q : Qy} {A : Option Addr} {c : Nat} {S : Nat → Prop} (rows : Int) (w : World) (hw : WidOk w) (h : Sl cdE.slice S w A c q.fs) (h0 : 0 < q.fs.length) (hc0 : 0 ≤ q.col) (hc3 : q.col ≤ 3) :
    Calls Tryd.prog 49 #[(.agg #[.int .i64 q.kind, .int .i64 q.col, .int .i64 q.k, .slice A q.fs.length c]), .int .i64 rows] w (BoundRes w (bucketsF (fl q 0) q.col rows, true)) := by
  have hm := h.max
  have H := Lib.hid h.old
  have HW := Lib.hid hw
  clear h hw
  go_enter Tryd.func49, Tryd.ntmps49
  go_upto_region 1 with fail
  refine wp_world (F := fun wx => Below w.heap.size w wx ∧ Hid (wx.heap[w.heap.size]? = some (.cells #[.int .i64 q.kind, .int .i64 q.col, .int .i64 q.k, .slice A q.fs.length c] 24 (0, 0)))) ⟨(Below.refl _ _).alloc (Nat.le_refl _) _, Lib.hid (heap_alloc_at rfl)⟩ ?_
  rintro wr ⟨bb, gq⟩
  have b0 := Lib.hid bb
  have H1 := Lib.hid (H.out.keep (Below.agree bb))
  have HW1 := mvW HW bb
  have hl : q.fs[0]? = some (fl q 0) := by unfold fl; rw [List.getD_eq_getElem?_getD, List.getElem?_eq_getElem h0]; rfl
  obtain ⟨b1, o1, B1, d1, rfl, -, l1, x1, hs1⟩ := flt_at H1.out hl
  simp only [Nat.add_zero] at x1
  have z1 := hold x1
  have hlb : Sl cdE (fun b => b < wr.heap.size) wr B1 d1 (fl q 0) := hs1.sub fun b h _ => Nat.lt_of_lt_of_le h.2 bb.size
  have HL := Lib.hid hlb
  have zq : ∀ W, Below wr.heap.size wr W → _ ∧ _ ∧ _ ∧ _ := fun W hW => row4 (mvQ gq hW)
  have br : Below wr.heap.size wr wr := Below.refl _ _
  have ba : ∀ W o, Below wr.heap.size wr W → Below wr.heap.size wr (W.alloc o) := fun W o h => h.alloc h.size o
  have bc : ∀ W W', Below wr.heap.size wr W → Below W.heap.size W W' → Below wr.heap.size wr W' := fun W W' h k => h.trans (k.mono h.size)
  have hi0 : (0 : Int) < (q.fs.length : Int) := by omega
  clear bb hl hs1 hlb x1 l1
  generalize fl q 0 = l at *
  refine wp_region_noPanic ?_
  refine wp_region_held_drew (S := fun X => Below wr.heap.size wr X) (by kernel_rfl) ?_ (fun hHeld => ?_)
  · (first | with_reducible assumption | (with_reducible refine Below.drew ?_; with_reducible assumption) | (with_reducible refine ba _ _ ?_; with_reducible assumption) | (with_reducible refine Below.drew ?_; with_reducible refine ba _ _ ?_; with_reducible assumption) | exact Below.refl _ _ | exact (Below.refl _ _).drew | exact (Below.refl _ _).alloc (Nat.le_refl _) _ | (refine bc _ _ (by assumption) (by assumption)))
  refine RegOk.begin_ (n := 16) (T := q11A) ⟨by kernel_rfl, by kernel_rfl, by kernel_rfl, by kernel_rfl⟩ fun hR => ?_
  refine hR.take (i := 0) (oi := ?ow97_0) (v := ?vw97_0) (m' := 1) ?hw97_0 (by kernel_rfl) (by kernel_rfl) (fun _ _ _ h => h) (Or.inl ⟨?sw97_0, ?yw97_0⟩) (by assumption) ?nw97_0
  case hw97_0 => simp only [List.getElem?_toArray, List.getElem?_cons_succ, List.getElem?_cons_zero]; rfl
  case sw97_0 => rfl
  case yw97_0 => (intro w hSw; (try dsimp only at hSw); go_simp <;> with_reducible rfl)
  try simp only [Act.put, List.setIfInBounds_toArray, List.set_cons_zero, List.set_cons_succ]
  refine hR.take (i := 1) (oi := ?ow98_1) (v := ?vw98_1) (m' := 3) ?hw98_1 (by kernel_rfl) (by kernel_rfl) (fun _ _ _ h => h) (Or.inl ⟨?sw98_1, ?yw98_1⟩) (by assumption) ?nw98_1
  case hw98_1 => simp only [List.getElem?_toArray, List.getElem?_cons_succ, List.getElem?_cons_zero]; rfl
  case sw98_1 => rfl
  case yw98_1 => (intro w hSw; (try dsimp only at hSw); go_simp <;> with_reducible rfl)
  try simp only [Act.put, List.setIfInBounds_toArray, List.set_cons_zero, List.set_cons_succ]
  refine hR.take (i := 2) (oi := ?ow99_2) (v := ?vw99_2) (m' := 7) ?hw99_2 (by kernel_rfl) (by kernel_rfl) (fun _ _ _ h => h) (Or.inl ⟨?sw99_2, ?yw99_2⟩) (by assumption) ?nw99_2
  case hw99_2 => simp only [List.getElem?_toArray, List.getElem?_cons_succ, List.getElem?_cons_zero]; rfl
  case sw99_2 => rfl
  case yw99_2 => (intro w hSw; (try dsimp only at hSw); go_simp <;> with_reducible rfl)
  try simp only [Act.put, List.setIfInBounds_toArray, List.set_cons_zero, List.set_cons_succ]
  refine hR.take (i := 3) (oi := ?ow100_3) (v := ?vw100_3) (m' := 15) ?hw100_3 (by kernel_rfl) (by kernel_rfl) (fun _ _ _ h => h) (Or.inl ⟨?sw100_3, ?yw100_3⟩) (by assumption) ?nw100_3
  case hw100_3 => simp only [List.getElem?_toArray, List.getElem?_cons_succ, List.getElem?_cons_zero]; rfl
  case sw100_3 => rfl
  case yw100_3 => (intro w hSw; (try dsimp only at hSw); go_simp <;> with_reducible rfl)
  try simp only [Act.put, List.setIfInBounds_toArray, List.set_cons_zero, List.set_cons_succ]
  refine hR.take (i := 4) (oi := ?ow101_4) (v := ?vw101_4) (m' := 31) ?hw101_4 (by kernel_rfl) (by kernel_rfl) (fun _ _ _ h => h) (Or.inl ⟨?sw101_4, ?yw101_4⟩) (by assumption) ?nw101_4
  case hw101_4 => simp only [List.getElem?_toArray, List.getElem?_cons_succ, List.getElem?_cons_zero]; rfl
  case sw101_4 => rfl
  case yw101_4 => (intro w hSw; (try dsimp only at hSw); go_simp <;> with_reducible rfl)
  try simp only [Act.put, List.setIfInBounds_toArray, List.set_cons_zero, List.set_cons_succ]
  refine hR.take (i := 5) (oi := ?ow102_5) (v := ?vw102_5) (m' := 63) ?hw102_5 (by kernel_rfl) (by kernel_rfl) (fun _ _ _ h => h) (Or.inl ⟨?sw102_5, ?yw102_5⟩) (by assumption) ?nw102_5
  case hw102_5 => simp only [List.getElem?_toArray, List.getElem?_cons_succ, List.getElem?_cons_zero]; rfl
  case sw102_5 => rfl
  case yw102_5 => (intro w hSw; (try dsimp only at hSw); go_simp <;> with_reducible rfl)
  try simp only [Act.put, List.setIfInBounds_toArray, List.set_cons_zero, List.set_cons_succ]
  refine hR.take (i := 6) (oi := ?ow103_6) (v := ?vw103_6) (m' := 127) ?hw103_6 (by kernel_rfl) (by kernel_rfl) (fun _ _ _ h => h) (Or.inl ⟨?sw103_6, ?yw103_6⟩) (by assumption) ?nw103_6
  case hw103_6 => simp only [List.getElem?_toArray, List.getElem?_cons_succ, List.getElem?_cons_zero]; rfl
  case sw103_6 => rfl
  case yw103_6 => (intro w hSw; (try dsimp only at hSw); go_simp <;> with_reducible rfl)
  try simp only [Act.put, List.setIfInBounds_toArray, List.set_cons_zero, List.set_cons_succ]
  refine hR.take (i := 7) (oi := ?ow104_7) (v := ?vw104_7) (m' := 255) ?hw104_7 (by kernel_rfl) (by kernel_rfl) (fun _ _ _ h => h) (Or.inl ⟨?sw104_7, ?yw104_7⟩) (by assumption) ?nw104_7
  case hw104_7 => simp only [List.getElem?_toArray, List.getElem?_cons_succ, List.getElem?_cons_zero]; rfl
  case sw104_7 => rfl
  case yw104_7 => (intro w hSw; (try dsimp only at hSw); go_simp <;> with_reducible rfl)
  try simp only [Act.put, List.setIfInBounds_toArray, List.set_cons_zero, List.set_cons_succ]
  refine hR.take (i := 8) (oi := ?ow105_8) (v := ?vw105_8) (m' := 511) ?hw105_8 (by kernel_rfl) (by kernel_rfl) (fun _ _ _ h => h) (Or.inl ⟨?sw105_8, ?yw105_8⟩) (by assumption) ?nw105_8
  case hw105_8 => simp only [List.getElem?_toArray, List.getElem?_cons_succ, List.getElem?_cons_zero]; rfl
  case sw105_8 => rfl
  case yw105_8 => (intro w hSw; (try dsimp only at hSw); go_simp <;> with_reducible rfl)
  try simp only [Act.put, List.setIfInBounds_toArray, List.set_cons_zero, List.set_cons_succ]
  refine hR.take (i := 9) (oi := ?ow106_9) (v := ?vw106_9) (m' := 1023) ?hw106_9 (by kernel_rfl) (by kernel_rfl) (fun _ _ _ h => h) (Or.inl ⟨?sw106_9, ?yw106_9⟩) (by assumption) ?nw106_9
  case hw106_9 => simp only [List.getElem?_toArray, List.getElem?_cons_succ, List.getElem?_cons_zero]; rfl
  case sw106_9 => rfl
  case yw106_9 => (intro w hSw; (try dsimp only at hSw); go_simp <;> with_reducible rfl)
  try simp only [Act.put, List.setIfInBounds_toArray, List.set_cons_zero, List.set_cons_succ]
  refine hR.take (i := 12) (oi := ?ow107_12) (v := ?vw107_12) (m' := 5119) ?hw107_12 (by kernel_rfl) (by kernel_rfl) (fun _ _ _ h => h) (Or.inl ⟨?sw107_12, ?yw107_12⟩) (by assumption) ?nw107_12
  case hw107_12 => simp only [List.getElem?_toArray, List.getElem?_cons_succ, List.getElem?_cons_zero]; rfl
  case sw107_12 => rfl
  case yw107_12 => (intro w hSw; (try dsimp only at hSw); go_simp <;> with_reducible rfl)
  try simp only [Act.put, List.setIfInBounds_toArray, List.set_cons_zero, List.set_cons_succ]
  refine hR.come (rs := [10]) (by kernel_rfl) (by simp) ?_
  refine AllReadyH.cons (o := ?o108_10) ?h108_10 (fun K hK => ?kw108_10) AllReadyH.nil
  case h108_10 => simp only [List.getElem?_toArray, List.getElem?_cons_succ, List.getElem?_cons_zero]; rfl
  go_simp
  go_at_call 59; refine (underP (l := l) q.col _ (HW1.out.keep (by (first | with_reducible assumption | (with_reducible refine Below.drew ?_; with_reducible assumption) | (with_reducible refine ba _ _ ?_; with_reducible assumption) | (with_reducible refine Below.drew ?_; with_reducible refine ba _ _ ?_; with_reducible assumption) | exact Below.refl _ _ | exact (Below.refl _ _).drew | exact (Below.refl _ _).alloc (Nat.le_refl _) _ | (refine bc _ _ (by assumption) (by assumption))))) (HL.out.keep (Below.agree (by (first | with_reducible assumption | (with_reducible refine Below.drew ?_; with_reducible assumption) | (with_reducible refine ba _ _ ?_; with_reducible assumption) | (with_reducible refine Below.drew ?_; with_reducible refine ba _ _ ?_; with_reducible assumption) | exact Below.refl _ _ | exact (Below.refl _ _).drew | exact (Below.refl _ _).alloc (Nat.le_refl _) _ | (refine bc _ _ (by assumption) (by assumption)))))) (by omega) (by omega)).mono ?_; rintro e w1 ⟨rfl, hb1⟩; have hk1 := bc _ _ (by (first | with_reducible assumption | (with_reducible refine Below.drew ?_; with_reducible assumption) | (with_reducible refine ba _ _ ?_; with_reducible assumption) | (with_reducible refine Below.drew ?_; with_reducible refine ba _ _ ?_; with_reducible assumption) | exact Below.refl _ _ | exact (Below.refl _ _).drew | exact (Below.refl _ _).alloc (Nat.le_refl _) _ | (refine bc _ _ (by assumption) (by assumption)))) hb1
  refine hK.out _ _ ?_ (fun hHeld => ?_)
  · (first | with_reducible assumption | (with_reducible refine Below.drew ?_; with_reducible assumption) | (with_reducible refine ba _ _ ?_; with_reducible assumption) | (with_reducible refine Below.drew ?_; with_reducible refine ba _ _ ?_; with_reducible assumption) | exact Below.refl _ _ | exact (Below.refl _ _).drew | exact (Below.refl _ _).alloc (Nat.le_refl _) _ | (refine bc _ _ (by assumption) (by assumption)))
  clear hK K
  refine RegOk.put_ (m' := 6143) (by kernel_rfl) ?_
  try simp only [Act.put, List.setIfInBounds_toArray, List.set_cons_zero, List.set_cons_succ]
  refine hR.come (rs := [11]) (by kernel_rfl) (by simp) ?_
  refine AllReadyH.cons (o := ?o109_11) ?h109_11 (fun K hK => ?kw109_11) AllReadyH.nil
  case h109_11 => simp only [List.getElem?_toArray, List.getElem?_cons_succ, List.getElem?_cons_zero]; rfl
  go_simp
  go_at_call 60; refine (bucketsP (w0 := wr) (N := wr.heap.size) (base := w1.heap.size) (ys := []) _ (Own.nil_ _ _ _ _ _) (HL.out.keep (Below.agree hk1)) ((HW1.out.toB (Nat.le_refl _)).keep hk1) hk1 hk1.size).mono ?_; rintro e w2 ⟨rfl, hBk, hb2⟩; have hk2 := bc _ _ hk1 hb2; have hz2 := hb2.size
  refine hK.out _ _ ?_ (fun hHeld => ?_)
  · (first | with_reducible assumption | (with_reducible refine Below.drew ?_; with_reducible assumption) | (with_reducible refine ba _ _ ?_; with_reducible assumption) | (with_reducible refine Below.drew ?_; with_reducible refine ba _ _ ?_; with_reducible assumption) | exact Below.refl _ _ | exact (Below.refl _ _).drew | exact (Below.refl _ _).alloc (Nat.le_refl _) _ | (refine bc _ _ (by assumption) (by assumption)))
  clear hK K
  refine RegOk.put_ (m' := 8191) (by kernel_rfl) ?_
  try simp only [Act.put, List.setIfInBounds_toArray, List.set_cons_zero, List.set_cons_succ]
  refine hR.come (rs := [13]) (by kernel_rfl) (by simp) ?_
  refine AllReadyH.cons (o := ?o110_13) ?h110_13 (fun K hK => ?kw110_13) AllReadyH.nil
  case h110_13 => simp only [List.getElem?_toArray, List.getElem?_cons_succ, List.getElem?_cons_zero]; rfl
  go_simp
  go_at_call 64; refine (buckets1P rows _ hBk hk2.size hk1.size hz2 hk1.size (by omega) (by omega) (by simp)).mono ?_; rintro e w3 ⟨B3, n3, d3, rfl, hn3, hBk3⟩; have hk3 := hBk3.bel
  refine hK.out _ _ ?_ (fun hHeld => ?_)
  · (first | with_reducible assumption | (with_reducible refine Below.drew ?_; with_reducible assumption) | (with_reducible refine ba _ _ ?_; with_reducible assumption) | (with_reducible refine Below.drew ?_; with_reducible refine ba _ _ ?_; with_reducible assumption) | exact Below.refl _ _ | exact (Below.refl _ _).drew | exact (Below.refl _ _).alloc (Nat.le_refl _) _ | (refine bc _ _ (by assumption) (by assumption)))
  clear hK K
  refine RegOk.put_ (m' := 16383) (by kernel_rfl) ?_
  try simp only [Act.put, List.setIfInBounds_toArray, List.set_cons_zero, List.set_cons_succ]
  refine hR.take (i := 14) (oi := ?ow111_14) (v := ?vw111_14) (m' := 32767) ?hw111_14 (by kernel_rfl) (by kernel_rfl) (fun _ _ _ h => h) (Or.inl ⟨?sw111_14, ?yw111_14⟩) (by assumption) ?nw111_14
  case hw111_14 => simp only [List.getElem?_toArray, List.getElem?_cons_succ, List.getElem?_cons_zero]; rfl
  case sw111_14 => rfl
  case yw111_14 => (intro w hSw; (try dsimp only at hSw); go_simp <;> with_reducible rfl)
  try simp only [Act.put, List.setIfInBounds_toArray, List.set_cons_zero, List.set_cons_succ]
  refine hR.take (i := 15) (oi := ?ow112_15) (v := ?vw112_15) (m' := 65535) ?hw112_15 (by kernel_rfl) (by kernel_rfl) (fun _ _ _ h => h) (Or.inl ⟨?sw112_15, ?yw112_15⟩) (by assumption) ?nw112_15
  case hw112_15 => simp only [List.getElem?_toArray, List.getElem?_cons_succ, List.getElem?_cons_zero]; rfl
  case sw112_15 => rfl
  case yw112_15 => (intro w hSw; (try dsimp only at hSw); go_simp <;> with_reducible rfl)
  try simp only [Act.put, List.setIfInBounds_toArray, List.set_cons_zero, List.set_cons_succ]
  refine hR.all (by kernel_rfl) ?_ _
  refine NoPanic.normal ?_
  go_wp2_with fail
  have hq3 := hBk3.own
  rw [List.nil_append] at hq3 hn3
  go_ret2
  refine ⟨B3, d3, bucketsF l q.col rows, by rw [hn3]; rfl, fun _ => rfl, ?_, ?_⟩
  · exact (hq3.toSl (T := fun b => w.heap.size ≤ b) (fun _ h _ => h.elim) (fun b hb _ _ => by have := b0.out.size; have := hk1.size; omega)).drew
  · exact b0.out.trans (hk3.mono b0.out.size)
/-- What pairs has gathered: the bounds of the first j filters. -/
def pairT (q : Qy) (rows : Int) (j : Nat) : List Int := (q.fs.take j).flatMap fun l => bucketsF l 0 rows
theorem pairT_snoc {q : Qy} {rows : Int} {j : Nat} {l : List Cd} (h : q.fs[j]? = some l) : pairT q rows (j + 1) = pairT q rows j ++ bucketsF l 0 rows := by
  unfold pairT
  rw [take_snocR h, List.flatMap_append]
  simp
theorem pairT_len (q : Qy) (rows : Int) (j : Nat) : (pairT q rows j).length ≤ 16 * j := by
  unfold pairT
  rw [List.length_flatMap]
  have h : ∀ l : List (List Cd), (l.map fun x => (bucketsF x 0 rows).length).sum = 16 * l.length := by
    intro l
    induction l with
    | nil => rfl
    | cons x l ih => simp only [List.map_cons, List.sum_cons, ih, List.length_cons]; simp [bucketsF]; omega
  rw [h, List.length_take]
  omega
set_option maxRecDepth 100000 in
set_option maxHeartbeats 4000000 in
theorem pairsP {q : Qy} {A : Option Addr} {c : Nat} {S : Nat → Prop} (rows : Int) (w : World) (hw : WidOk w) (h : Sl cdE.slice S w A c q.fs) (h2 : q.fs.length ≤ 2) :
    Calls Tryd.prog 50 #[(.agg #[.int .i64 q.kind, .int .i64 q.col, .int .i64 q.k, .slice A q.fs.length c]), .int .i64 rows] w (BoundRes w (pairT q rows q.fs.length, true)) := by
  have hm := h.max
  have H := Lib.hid h.old
  have HW := Lib.hid hw
  clear h hw
  go_enter Tryd.func50, Tryd.ntmps50
  go_upto_region 1 with fail
  refine wp_world (F := fun wx => Below w.heap.size w wx ∧ Hid (wx.heap[w.heap.size]? = some (.cells #[.int .i64 q.kind, .int .i64 q.col, .int .i64 q.k, .slice A q.fs.length c] 24 (0, 0)))) ⟨(Below.refl _ _).alloc (Nat.le_refl _) _, Lib.hid (heap_alloc_at rfl)⟩ ?_
  rintro w1 ⟨bb, gq⟩
  have b0 := Lib.hid bb
  have hw1 := bb.size
  have H1 := Lib.hid (H.out.keep (Below.agree bb))
  have HW1 := mvW HW bb
  obtain ⟨x0, x1, x2, x3⟩ := row4 gq
  clear bb
  go_wp2_with fail
  go_loopw [6, 12] (fun v i wr => ∃ (j : Nat) (B : Option Addr) (d : Nat) (ys : List Int), j ≤ q.fs.length ∧ i = .int .i64 j ∧ ys = pairT q rows j ∧ v = .slice B ys.length d ∧ Own Enc.i64 (fun _ => False) wr w1.heap.size 2 (.slice B ys.length d) ys ∧ Below w1.heap.size w1 wr) (fun _ i _ => q.fs.length - (intOf i).toNat)
  case atStart => exact ⟨0, none, 0, [], Nat.zero_le _, rfl, rfl, rfl, Own.nil_ _ _ _ _ _, Below.refl _ _⟩
  case round =>
    obtain ⟨j, B, d, ys, hj, rfl, hys, rfl, ho, hb⟩ := hrel
    have Hys := Lib.hid hys
    have HO := Lib.hid ho
    have HB := Lib.hid hb
    have hl16 : ys.length ≤ 32 := by have := pairT_len q rows j; rw [hys]; omega
    have hzr := hb.size
    have H2 := Lib.hid ((H1.out.keep (Below.agree hb)).sub (T := fun b => b < w1.heap.size) fun b h _ => Nat.lt_of_lt_of_le h.2 hw1)
    have hj0 : (0 : Int) ≤ (j : Int) := by omega
    clear hys ho hb
    by_cases hlt : j < q.fs.length
    · have hj1 : (j : Int) < (q.fs.length : Int) := by omega
      obtain ⟨l, hl⟩ : ∃ l, q.fs[j]? = some l := ⟨_, List.getElem?_eq_getElem hlt⟩
      obtain ⟨b5, o5, B5, d5, rfl, -, l5, z5, hs5⟩ := flt_at H2.out hl
      have Hs5 := Lib.hid hs5
      have hS := Lib.hid (pairT_snoc (rows := rows) hl)
      have HW2 := mvW HW1 HB.out
      clear hl hs5
      go_wp2_with (first
        | (go_at_call 59; refine (underP (l := l) 0 _ HW2.out Hs5.out (by omega) (by omega)).mono ?_; rintro e w4 ⟨rfl, hb4⟩; have hk4 := HB.out.trans (hb4.mono hzr); have hz4 := hb4.size)
        | (go_at_call 60; refine (bucketsP (w0 := w1) (N := w1.heap.size) (base := w1.heap.size) (s := underF l 0) (l := l) (ys := ys) _ (HO.out.call hb4) (Hs5.out.keep (Below.agree hb4)) ((HW1.out.toB (Nat.le_refl _)).keep hk4) hk4 hk4.size).mono ?_; rintro e w5 ⟨rfl, hBk, hb5⟩; have hz5 := hb5.size; have hk5 := hk4.trans (hb5.mono hk4.size))
        | (go_at_call 64; refine (buckets1P rows _ hBk hk5.size (Nat.le_refl _) hk5.size hk4.size (by omega) (by omega) (by omega)).mono ?_; rintro e w6 ⟨B6, n6, d6, rfl, hn6, hBk6⟩))
      go_roundw
      case rel =>
        have hq := hBk6.own
        exact ⟨j + 1, B6, d6, ys ++ bucketsF l 0 rows, by omega, by go_num, by rw [hS.out, Hys.out], by rw [List.length_append]; rfl, by rw [hn6] at hq; rw [List.length_append] at hq ⊢; exact hq, hBk6.bel⟩
      case measure => simp [intOf]; omega
    · have hj1 : ¬ (j : Int) < (q.fs.length : Int) := by omega
      have hjl : j = q.fs.length := by omega
      go_wp2_with fail
      go_ret2
      refine ⟨B, d, ys, rfl, fun _ => by rw [Hys.out, hjl], ?_, b0.out.trans (HB.out.mono hw1)⟩
      exact HO.out.toSl (fun _ h _ => h.elim) (fun b hb _ _ => by omega)
end Go.Proofs.YtihcaoipemcddaaDoor
