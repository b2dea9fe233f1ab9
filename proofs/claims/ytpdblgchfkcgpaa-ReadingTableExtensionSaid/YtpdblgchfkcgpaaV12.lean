/-
  Texts of this claim, merged: Ey. Conditions: as each theorem says.
-/
import Derived.Deep.Upon
import Derived.Test.YtpdblgchfkcgpaaV1
import Derived.Test.YtpdblgchfkcgpaaV2
import Derived.Test.YtpdblgchfkcgpaaV7
import Derived.Test.YtpdblgchfkcgpaaV10
import Derived.Test.YtpdblgchfkcgpaaV11
set_option linter.unusedSimpArgs false
set_option linter.unusedVariables false
namespace Go.Proofs.Ytpdblgchfkcgpaa
open Go.RowKit

def extE : Enc ZQ := ⟨2, fun _ _ cs x => cs = [.int .u64 (x.u % pF), .int .u64 (x.v % pF)], by rintro _ _ _ _ rfl; rfl, fun h _ => h, fun h _ => h, by rintro _ _ _ _ rfl u hu; simp at hu; rcases hu with rfl | rfl <;> rfl⟩
theorem extE_flat : extE.Flat := fun h => h
theorem extT : SlT Try.prog 23 40 extE 16 := ⟨Try.underlying23, by kernel_rfl, by decide⟩
theorem ext_at {S : Nat → Prop} {w : World} {A : Option Addr} {c i : Nat} {l : List ZQ} {r : ZQ} (h : Sl extE S w A c l) (hi : l[i]? = some r) :
    ∃ b o, A = some ⟨b, o, none⟩ ∧ S b ∧ b < w.heap.size ∧ w.cell? ⟨b, o + i * 2, none⟩ = some (.int .u64 (r.u % pF)) ∧ w.cell? ⟨b, o + i * 2 + 1, none⟩ = some (.int .u64 (r.v % pF)) := by
  obtain ⟨b, o, cs, hA, hS, hb, hr, hc⟩ := h.at' hi (by decide)
  cases hr
  exact ⟨b, o, hA, hS, hb, hc 0 _ rfl, hc 1 _ rfl⟩
theorem Gk.cell_ {k : Nat} {w X : World} (h : Gk k w X) {b o : Nat} {v : Value} (hc : w.cell? ⟨b, o, none⟩ = some v) (hb : b < w.heap.size) (hne : b ≠ k) : X.cell? ⟨b, o, none⟩ = some v :=
  (World.cell?_of_block (a := ⟨b, o, none⟩) (h.g.block b hb (by intro e; injection e with e; exact hne e))).trans hc
def eyF : List FRow := [(0, ([], (8, [2]))), (1, ([], (9, [3]))), (2, ([0, 1], (10, [7, 8]))), (3, ([], (11, [5]))), (4, ([], (12, [2]))), (5, ([3, 4, 2], (13, [10, 11]))), (6, ([], (14, [5]))), (7, ([], (15, [3]))), (8, ([6, 7, 5], (16, [13, 14]))), (9, ([5, 8, 8], (17, [12, 15]))), (10, ([2, 9, 9], (18, [9, 16]))), (11, ([10, 10, 0, 1, 2, 3, 4, 5, 6, 7, 8, 9, 10], (0, [4, 17])))]
def eyQ : List FRow := [(0, ([], (15, [5]))), (1, ([], (16, [0]))), (2, ([], (17, [6]))), (3, ([1, 2], (18, [15, 16]))), (4, ([3], (19, [17]))), (5, ([], (20, [1]))), (6, ([], (21, [6]))), (7, ([5, 6], (22, [19, 20]))), (8, ([7], (23, [21]))), (9, ([4, 8], (24, [18, 22]))), (10, ([0, 9, 9], (25, [14, 23]))), (11, ([10, 10, 0, 1, 2, 3, 4, 5, 6, 7, 8, 9, 10], (0, [5, 24])))]
set_option maxRecDepth 100000 in
set_option maxHeartbeats 8000000 in
theorem facX (x y : ZQ) (w : World) : Calls Try.prog 58 #[.agg #[.int .u64 (x.u % pF), .int .u64 (x.v % pF)], .agg #[.int .u64 (y.u % pF), .int .u64 (y.v % pF)]] w fun e w' => e = .returned (.agg #[.int .u64 ((x.fac y).u % pF), .int .u64 ((x.fac y).v % pF)]) ∧ Below w.heap.size w w' := by
  obtain ⟨m1, hm1⟩ : ∃ r, (x.mul y).u % pF = r := ⟨_, rfl⟩
  obtain ⟨n1, hn1⟩ : ∃ r, (x.mul y).v % pF = r := ⟨_, rfl⟩
  have M1 := Lib.hid hm1
  have N1 := Lib.hid hn1
  clear hm1 hn1
  obtain ⟨m2, hm2⟩ : ∃ r, (ZQ.one.sub x).u % pF = r := ⟨_, rfl⟩
  obtain ⟨n2, hn2⟩ : ∃ r, (ZQ.one.sub x).v % pF = r := ⟨_, rfl⟩
  have M2 := Lib.hid hm2
  have N2 := Lib.hid hn2
  clear hm2 hn2
  obtain ⟨m3, hm3⟩ : ∃ r, (ZQ.one.sub y).u % pF = r := ⟨_, rfl⟩
  obtain ⟨n3, hn3⟩ : ∃ r, (ZQ.one.sub y).v % pF = r := ⟨_, rfl⟩
  have M3 := Lib.hid hm3
  have N3 := Lib.hid hn3
  clear hm3 hn3
  obtain ⟨m4, hm4⟩ : ∃ r, ((ZQ.one.sub x).mul (ZQ.one.sub y)).u % pF = r := ⟨_, rfl⟩
  obtain ⟨n4, hn4⟩ : ∃ r, ((ZQ.one.sub x).mul (ZQ.one.sub y)).v % pF = r := ⟨_, rfl⟩
  have M4 := Lib.hid hm4
  have N4 := Lib.hid hn4
  clear hm4 hn4
  obtain ⟨r, hr⟩ : ∃ r, ((x.mul y).add ((ZQ.one.sub x).mul (ZQ.one.sub y))).u % pF = r := ⟨_, rfl⟩
  obtain ⟨s, hs⟩ : ∃ r, ((x.mul y).add ((ZQ.one.sub x).mul (ZQ.one.sub y))).v % pF = r := ⟨_, rfl⟩
  show Calls _ _ _ _ fun e w' => e = .returned (.agg #[.int .u64 (((x.mul y).add ((ZQ.one.sub x).mul (ZQ.one.sub y))).u % pF), .int .u64 (((x.mul y).add ((ZQ.one.sub x).mul (ZQ.one.sub y))).v % pF)]) ∧ Below w.heap.size w w'
  have HR := Lib.hid hr
  have HS := Lib.hid hs
  rw [hr, hs]
  clear hr hs
  have O1 := Lib.hid (show ZQ.one.u % pF = 1 from rfl)
  have O2 := Lib.hid (show ZQ.one.v % pF = 0 from rfl)
  go_enter Try.func58, Try.ntmps58
  go_upto_region 1 with fail
  refine wp_world (F := fun wx => Hid (B3 w (.cells #[.int .u64 (x.u % pF), .int .u64 (x.v % pF)] 40 (0, 0)) (.cells #[.int .u64 (y.u % pF), .int .u64 (y.v % pF)] 40 (0, 0)) (.cells #[.int .u64 0, .int .u64 0] 40 (0, 0)) wx)) (Lib.hid (B3.start w _ _ _)) ?_
  intro w0 HB
  go_upto_region 2 with (go_at_call 57; refine (oneX _).mono ?_; rintro e wO ⟨rfl, hbO⟩; have HBO := Lib.hid hbO; clear hbO)
  have bo : Below w0.heap.size w0 (wO.alloc (.cells #[.int .u64 1, .int .u64 0] 40)) := HBO.out.alloc HBO.out.size _
  refine wp_world (F := fun wx => Hid (Below w.heap.size w wx) ∧ Hid (wx.heap[w.heap.size]? = some (.cells #[.int .u64 (x.u % pF), .int .u64 (x.v % pF)] 40 (0, 0))) ∧ Hid (wx.heap[w.heap.size + 1]? = some (.cells #[.int .u64 (y.u % pF), .int .u64 (y.v % pF)] 40 (0, 0))) ∧ Hid (wx.heap[w.heap.size + 1 + 1]? = some (.cells #[.int .u64 0, .int .u64 0] 40 (0, 0))) ∧ Hid (wx.heap[wO.heap.size]? = some (.cells #[.int .u64 1, .int .u64 0] 40 (0, 0)))) ⟨Lib.hid (HB.out.bel.trans (bo.mono HB.out.bel.size)), mvQ (Lib.hid HB.out.r1) bo, mvQ (Lib.hid HB.out.r2) bo, mvQ (Lib.hid HB.out.r3) bo, Lib.hid (heap_alloc_at rfl)⟩ ?_
  rintro w1 ⟨bel, R1, R2, R3, R4⟩
  have hlo := HBO.out.size
  have hl3 := heap_lt HB.out.r3
  obtain ⟨go, hgo⟩ : ∃ g, g = wO.heap.size := ⟨_, rfl⟩
  rw [← hgo] at R4 ⊢
  have hne4 : go ≠ w.heap.size + 1 + 1 := by omega
  clear hgo bo HBO HB hlo hl3
  obtain ⟨g3, hg3⟩ : ∃ g, g = w.heap.size + 1 + 1 := ⟨_, rfl⟩
  have z1 : ∀ W, Gk (w.heap.size + 1 + 1) w1 W → _ ∧ _ ∧ _ := fun W hW => pair2 (Lib.hid (hW.row R1.out (by omega)))
  have z2 : ∀ W, Gk (w.heap.size + 1 + 1) w1 W → _ ∧ _ ∧ _ := fun W hW => pair2 (Lib.hid (hW.row R2.out (by omega)))
  have z4 : ∀ W, Gk (w.heap.size + 1 + 1) w1 W → _ ∧ _ ∧ _ := fun W hW => pair2 (Lib.hid (hW.row R4.out hne4))
  refine wp_region_noPanic ?_
  refine wp_region_held_drew (S := fun X => Gk (w.heap.size + 1 + 1) w1 X) (by kernel_rfl) ?_ (fun hHeld => ?_)
  · (first | (repeat' (first | with_reducible assumption | with_reducible exact Gk.refl _ _ | with_reducible refine Gk.drew ?_ | with_reducible refine Gk.set ?_ _ _ | with_reducible refine Gk.alloc ?_ _ | with_reducible refine Gk.call ?_ (by assumption))) | (first | with_reducible assumption | (with_reducible refine Below.drew ?_; with_reducible assumption) | (with_reducible refine ba _ _ ?_; with_reducible assumption) | (with_reducible refine Below.drew ?_; with_reducible refine ba _ _ ?_; with_reducible assumption) | exact Below.refl _ _ | exact (Below.refl _ _).drew | exact (Below.refl _ _).alloc (Nat.le_refl _) _ | (refine bc _ _ (by assumption) (by assumption))))
  refine RegOk.begin_ (n := 12) (T := eyF) ⟨by kernel_rfl, by kernel_rfl, by kernel_rfl, by kernel_rfl⟩ fun hR => ?_
  refine hR.take (i := 0) (oi := ?ow59_0) (v := ?vw59_0) (m' := 1) ?hw59_0 (by kernel_rfl) (by kernel_rfl) (fun _ _ _ h => h) (Or.inl ⟨?sw59_0, ?yw59_0⟩) (by assumption) ?nw59_0
  case hw59_0 => simp only [List.getElem?_toArray, List.getElem?_cons_succ, List.getElem?_cons_zero]; rfl
  case sw59_0 => rfl
  case yw59_0 => (intro w hSw; (try dsimp only at hSw); go_simp <;> with_reducible rfl)
  try simp only [Act.put, List.setIfInBounds_toArray, List.set_cons_zero, List.set_cons_succ]
  refine hR.take (i := 1) (oi := ?ow60_1) (v := ?vw60_1) (m' := 3) ?hw60_1 (by kernel_rfl) (by kernel_rfl) (fun _ _ _ h => h) (Or.inl ⟨?sw60_1, ?yw60_1⟩) (by assumption) ?nw60_1
  case hw60_1 => simp only [List.getElem?_toArray, List.getElem?_cons_succ, List.getElem?_cons_zero]; rfl
  case sw60_1 => rfl
  case yw60_1 => (intro w hSw; (try dsimp only at hSw); go_simp <;> with_reducible rfl)
  try simp only [Act.put, List.setIfInBounds_toArray, List.set_cons_zero, List.set_cons_succ]
  refine hR.take (i := 3) (oi := ?ow61_3) (v := ?vw61_3) (m' := 11) ?hw61_3 (by kernel_rfl) (by kernel_rfl) (fun _ _ _ h => h) (Or.inl ⟨?sw61_3, ?yw61_3⟩) (by assumption) ?nw61_3
  case hw61_3 => simp only [List.getElem?_toArray, List.getElem?_cons_succ, List.getElem?_cons_zero]; rfl
  case sw61_3 => rfl
  case yw61_3 => (intro w hSw; (try dsimp only at hSw); go_simp <;> with_reducible rfl)
  try simp only [Act.put, List.setIfInBounds_toArray, List.set_cons_zero, List.set_cons_succ]
  refine hR.take (i := 4) (oi := ?ow62_4) (v := ?vw62_4) (m' := 27) ?hw62_4 (by kernel_rfl) (by kernel_rfl) (fun _ _ _ h => h) (Or.inl ⟨?sw62_4, ?yw62_4⟩) (by assumption) ?nw62_4
  case hw62_4 => simp only [List.getElem?_toArray, List.getElem?_cons_succ, List.getElem?_cons_zero]; rfl
  case sw62_4 => rfl
  case yw62_4 => (intro w hSw; (try dsimp only at hSw); go_simp <;> with_reducible rfl)
  try simp only [Act.put, List.setIfInBounds_toArray, List.set_cons_zero, List.set_cons_succ]
  refine hR.take (i := 6) (oi := ?ow63_6) (v := ?vw63_6) (m' := 91) ?hw63_6 (by kernel_rfl) (by kernel_rfl) (fun _ _ _ h => h) (Or.inl ⟨?sw63_6, ?yw63_6⟩) (by assumption) ?nw63_6
  case hw63_6 => simp only [List.getElem?_toArray, List.getElem?_cons_succ, List.getElem?_cons_zero]; rfl
  case sw63_6 => rfl
  case yw63_6 => (intro w hSw; (try dsimp only at hSw); go_simp <;> with_reducible rfl)
  try simp only [Act.put, List.setIfInBounds_toArray, List.set_cons_zero, List.set_cons_succ]
  refine hR.take (i := 7) (oi := ?ow64_7) (v := ?vw64_7) (m' := 219) ?hw64_7 (by kernel_rfl) (by kernel_rfl) (fun _ _ _ h => h) (Or.inl ⟨?sw64_7, ?yw64_7⟩) (by assumption) ?nw64_7
  case hw64_7 => simp only [List.getElem?_toArray, List.getElem?_cons_succ, List.getElem?_cons_zero]; rfl
  case sw64_7 => rfl
  case yw64_7 => (intro w hSw; (try dsimp only at hSw); go_simp <;> with_reducible rfl)
  try simp only [Act.put, List.setIfInBounds_toArray, List.set_cons_zero, List.set_cons_succ]
  refine hR.come (rs := [2]) (by kernel_rfl) (by simp) ?_
  refine AllReadyH.cons (o := ?o65_2) ?h65_2 (fun K hK => ?kw65_2) AllReadyH.nil
  case h65_2 => simp only [List.getElem?_toArray, List.getElem?_cons_succ, List.getElem?_cons_zero]; rfl
  go_simp
  go_at_call 10; (with_reducible refine (mulN (x := x) (y := y) rfl rfl rfl rfl M1.out N1.out _).mono ?_); rintro e wA ⟨rfl, hbA⟩; have hA : Below w1.heap.size w1 wA := (Below.refl _ _).drew.trans hbA; have gA : Gk (w.heap.size + 1 + 1) w1 wA := Gk.ofBelow hA
  refine hK.out _ _ ?_ (fun hHeld => ?_)
  · (first | (repeat' (first | with_reducible assumption | with_reducible exact Gk.refl _ _ | with_reducible refine Gk.drew ?_ | with_reducible refine Gk.set ?_ _ _ | with_reducible refine Gk.alloc ?_ _ | with_reducible refine Gk.call ?_ (by assumption))) | (first | with_reducible assumption | (with_reducible refine Below.drew ?_; with_reducible assumption) | (with_reducible refine ba _ _ ?_; with_reducible assumption) | (with_reducible refine Below.drew ?_; with_reducible refine ba _ _ ?_; with_reducible assumption) | exact Below.refl _ _ | exact (Below.refl _ _).drew | exact (Below.refl _ _).alloc (Nat.le_refl _) _ | (refine bc _ _ (by assumption) (by assumption))))
  clear hK K
  refine RegOk.put_ (m' := 223) (by kernel_rfl) ?_
  try simp only [Act.put, List.setIfInBounds_toArray, List.set_cons_zero, List.set_cons_succ]
  refine hR.come (rs := [5]) (by kernel_rfl) (by simp) ?_
  refine AllReadyH.cons (o := ?o66_5) ?h66_5 (fun K hK => ?kw66_5) AllReadyH.nil
  case h66_5 => simp only [List.getElem?_toArray, List.getElem?_cons_succ, List.getElem?_cons_zero]; rfl
  go_simp
  go_at_call 62; (with_reducible refine (subN (x := ZQ.one) (y := x) O1.out O2.out rfl rfl M2.out N2.out _).mono ?_); rintro e wB ⟨rfl, hbB⟩; have hB := hA.trans (hbB.mono hA.size); have gB : Gk (w.heap.size + 1 + 1) w1 wB := Gk.ofBelow hB
  refine hK.out _ _ ?_ (fun hHeld => ?_)
  · (first | (repeat' (first | with_reducible assumption | with_reducible exact Gk.refl _ _ | with_reducible refine Gk.drew ?_ | with_reducible refine Gk.set ?_ _ _ | with_reducible refine Gk.alloc ?_ _ | with_reducible refine Gk.call ?_ (by assumption))) | (first | with_reducible assumption | (with_reducible refine Below.drew ?_; with_reducible assumption) | (with_reducible refine ba _ _ ?_; with_reducible assumption) | (with_reducible refine Below.drew ?_; with_reducible refine ba _ _ ?_; with_reducible assumption) | exact Below.refl _ _ | exact (Below.refl _ _).drew | exact (Below.refl _ _).alloc (Nat.le_refl _) _ | (refine bc _ _ (by assumption) (by assumption))))
  clear hK K
  refine RegOk.put_ (m' := 255) (by kernel_rfl) ?_
  try simp only [Act.put, List.setIfInBounds_toArray, List.set_cons_zero, List.set_cons_succ]
  refine hR.come (rs := [8]) (by kernel_rfl) (by simp) ?_
  refine AllReadyH.cons (o := ?o67_8) ?h67_8 (fun K hK => ?kw67_8) AllReadyH.nil
  case h67_8 => simp only [List.getElem?_toArray, List.getElem?_cons_succ, List.getElem?_cons_zero]; rfl
  go_simp
  go_at_call 62; (with_reducible refine (subN (x := ZQ.one) (y := y) O1.out O2.out rfl rfl M3.out N3.out _).mono ?_); rintro e wC ⟨rfl, hbC⟩; have hC := hB.trans (hbC.mono hB.size); have gC : Gk (w.heap.size + 1 + 1) w1 wC := Gk.ofBelow hC
  refine hK.out _ _ ?_ (fun hHeld => ?_)
  · (first | (repeat' (first | with_reducible assumption | with_reducible exact Gk.refl _ _ | with_reducible refine Gk.drew ?_ | with_reducible refine Gk.set ?_ _ _ | with_reducible refine Gk.alloc ?_ _ | with_reducible refine Gk.call ?_ (by assumption))) | (first | with_reducible assumption | (with_reducible refine Below.drew ?_; with_reducible assumption) | (with_reducible refine ba _ _ ?_; with_reducible assumption) | (with_reducible refine Below.drew ?_; with_reducible refine ba _ _ ?_; with_reducible assumption) | exact Below.refl _ _ | exact (Below.refl _ _).drew | exact (Below.refl _ _).alloc (Nat.le_refl _) _ | (refine bc _ _ (by assumption) (by assumption))))
  clear hK K
  refine RegOk.put_ (m' := 511) (by kernel_rfl) ?_
  try simp only [Act.put, List.setIfInBounds_toArray, List.set_cons_zero, List.set_cons_succ]
  refine hR.come (rs := [9]) (by kernel_rfl) (by simp) ?_
  refine AllReadyH.cons (o := ?o68_9) ?h68_9 (fun K hK => ?kw68_9) AllReadyH.nil
  case h68_9 => simp only [List.getElem?_toArray, List.getElem?_cons_succ, List.getElem?_cons_zero]; rfl
  go_simp
  go_at_call 10; (with_reducible refine (mulN (x := ZQ.one.sub x) (y := ZQ.one.sub y) M2.out N2.out M3.out N3.out M4.out N4.out _).mono ?_); rintro e wD ⟨rfl, hbD⟩; have hD := hC.trans (hbD.mono hC.size); have gD : Gk (w.heap.size + 1 + 1) w1 wD := Gk.ofBelow hD
  refine hK.out _ _ ?_ (fun hHeld => ?_)
  · (first | (repeat' (first | with_reducible assumption | with_reducible exact Gk.refl _ _ | with_reducible refine Gk.drew ?_ | with_reducible refine Gk.set ?_ _ _ | with_reducible refine Gk.alloc ?_ _ | with_reducible refine Gk.call ?_ (by assumption))) | (first | with_reducible assumption | (with_reducible refine Below.drew ?_; with_reducible assumption) | (with_reducible refine ba _ _ ?_; with_reducible assumption) | (with_reducible refine Below.drew ?_; with_reducible refine ba _ _ ?_; with_reducible assumption) | exact Below.refl _ _ | exact (Below.refl _ _).drew | exact (Below.refl _ _).alloc (Nat.le_refl _) _ | (refine bc _ _ (by assumption) (by assumption))))
  clear hK K
  refine RegOk.put_ (m' := 1023) (by kernel_rfl) ?_
  try simp only [Act.put, List.setIfInBounds_toArray, List.set_cons_zero, List.set_cons_succ]
  refine hR.come (rs := [10]) (by kernel_rfl) (by simp) ?_
  refine AllReadyH.cons (o := ?o69_10) ?h69_10 (fun K hK => ?kw69_10) AllReadyH.nil
  case h69_10 => simp only [List.getElem?_toArray, List.getElem?_cons_succ, List.getElem?_cons_zero]; rfl
  go_simp
  go_at_call 9; (with_reducible refine (addN (x := x.mul y) (y := (ZQ.one.sub x).mul (ZQ.one.sub y)) M1.out N1.out M4.out N4.out HR.out HS.out _).mono ?_); rintro e wE ⟨rfl, hbE⟩; have hE := hD.trans (hbE.mono hD.size); have gE : Gk (w.heap.size + 1 + 1) w1 wE := Gk.ofBelow hE; have RE := mvQ R3 hE; obtain ⟨b0, b1, lb⟩ := pair2 RE; have fb := frzX RE
  refine hK.out _ _ ?_ (fun hHeld => ?_)
  · (first | (repeat' (first | with_reducible assumption | with_reducible exact Gk.refl _ _ | with_reducible refine Gk.drew ?_ | with_reducible refine Gk.set ?_ _ _ | with_reducible refine Gk.alloc ?_ _ | with_reducible refine Gk.call ?_ (by assumption))) | (first | with_reducible assumption | (with_reducible refine Below.drew ?_; with_reducible assumption) | (with_reducible refine ba _ _ ?_; with_reducible assumption) | (with_reducible refine Below.drew ?_; with_reducible refine ba _ _ ?_; with_reducible assumption) | exact Below.refl _ _ | exact (Below.refl _ _).drew | exact (Below.refl _ _).alloc (Nat.le_refl _) _ | (refine bc _ _ (by assumption) (by assumption))))
  clear hK K
  refine RegOk.put_ (m' := 2047) (by kernel_rfl) ?_
  try simp only [Act.put, List.setIfInBounds_toArray, List.set_cons_zero, List.set_cons_succ]
  refine hR.come (rs := [11]) (by kernel_rfl) (by simp) ?_
  refine AllReadyH.cons (o := ?o70_11) ?h70_11 (fun K hK => ?kw70_11) AllReadyH.nil
  case h70_11 => simp only [List.getElem?_toArray, List.getElem?_cons_succ, List.getElem?_cons_zero]; rfl
  go_simp <;> (try go_wp2_with fail)
  refine hK.out _ _ ?_ (fun hHeld => ?_)
  · (first | (repeat' (first | with_reducible assumption | with_reducible exact Gk.refl _ _ | with_reducible refine Gk.drew ?_ | with_reducible refine Gk.set ?_ _ _ | with_reducible refine Gk.alloc ?_ _ | with_reducible refine Gk.call ?_ (by assumption))) | (first | with_reducible assumption | (with_reducible refine Below.drew ?_; with_reducible assumption) | (with_reducible refine ba _ _ ?_; with_reducible assumption) | (with_reducible refine Below.drew ?_; with_reducible refine ba _ _ ?_; with_reducible assumption) | exact Below.refl _ _ | exact (Below.refl _ _).drew | exact (Below.refl _ _).alloc (Nat.le_refl _) _ | (refine bc _ _ (by assumption) (by assumption))))
  clear hK K
  refine RegOk.put_ (m' := 4095) (by kernel_rfl) ?_
  try simp only [Act.put, List.setIfInBounds_toArray, List.set_cons_zero, List.set_cons_succ]
  refine hR.all (by kernel_rfl) ?_ _
  refine NoPanic.normal ?_
  go_wp2_with fail
  obtain ⟨t0, t1, -⟩ := pair2 (Lib.hid (setpair (u := .int .u64 r) (v := .int .u64 s) RE.out))
  refine bodyPost_ret (v := .agg #[.int .u64 r, .int .u64 s]) (by simp [results, Try.results58, go_sem, *]) rfl ⟨rfl, Gk.below (w := w1) (k := w.heap.size + 1 + 1) ?_ bel.out (by omega) bel.out.size⟩
  (repeat' (first | with_reducible assumption | with_reducible exact Gk.refl _ _ | with_reducible refine Gk.drew ?_ | with_reducible refine Gk.set ?_ _ _ | with_reducible refine Gk.alloc ?_ _ | with_reducible refine Gk.call ?_ (by assumption)))
theorem facN {x y : ZQ} {a b c d r s : Int} (ha : x.u % pF = a) (hb : x.v % pF = b) (hc : y.u % pF = c) (hd : y.v % pF = d) (hr : (x.fac y).u % pF = r) (hs : (x.fac y).v % pF = s) (w : World) : Calls Try.prog 58 #[.agg #[.int .u64 a, .int .u64 b], .agg #[.int .u64 c, .int .u64 d]] w fun e w' => e = .returned (.agg #[.int .u64 r, .int .u64 s]) ∧ Below w.heap.size w w' := by
  subst ha; subst hb; subst hc; subst hd; subst hr; subst hs; exact facX x y w
def eqTo (vs ps : List ZQ) : Nat → ZQ
  | 0 => ZQ.one
  | k + 1 => (eqTo vs ps k).mul ((vs.getD k ZQ.zero).fac (ps.getD k ZQ.zero))
set_option maxRecDepth 100000 in
set_option maxHeartbeats 8000000 in
theorem eqP {vs ps : List ZQ} {A B : Option Addr} {c d : Nat} {S U : Nat → Prop} (w : World) (hl : ps.length = vs.length) (h : Sl extE S w A c vs) (k : Sl extE U w B d ps) :
    Calls Try.prog 38 #[.slice A vs.length c, .slice B ps.length d] w fun e w' => e = .returned (.agg #[.int .u64 ((eqTo vs ps vs.length).u % pF), .int .u64 ((eqTo vs ps vs.length).v % pF)]) ∧ Below w.heap.size w w' := by
  have hm := h.max
  have H := Lib.hid h.old
  have K := Lib.hid k.old
  clear h k
  rw [hl]
  have HL := Lib.hid hl
  clear hl
  go_enter Try.func38, Try.ntmps38
  go_upto_region 2 with (go_at_call 57; refine (oneX _).mono ?_; rintro e wO ⟨rfl, hbO⟩; have HBO := Lib.hid hbO; clear hbO)
  refine wp_world (F := fun wx => Hid (Below w.heap.size w wx) ∧ Hid (wx.heap[w.heap.size]? = some (.cells #[.int .u64 0, .int .u64 0] 40 (0, 0))) ∧ Hid (wx.heap[wO.heap.size]? = some (.cells #[.int .u64 1, .int .u64 0] 40 (0, 0)))) ⟨Lib.hid (((Below.refl w.heap.size w).alloc (Nat.le_refl _) _).trans ((HBO.out.mono (by simp)).alloc (by have := HBO.out.size; simp at this; omega) _)), Lib.hid ((Below.heap_alloc _ _ _ (by have := HBO.out.size; simp at this; omega)).trans ((HBO.out.block _ (by simp)).trans (heap_alloc_at rfl))), Lib.hid (heap_alloc_at rfl)⟩ ?_
  rintro w1 ⟨bel, R1, R2⟩
  have hgo : w.heap.size < wO.heap.size := by have := HBO.out.size; simp at this; omega
  obtain ⟨go, hg⟩ : ∃ g, g = wO.heap.size := ⟨_, rfl⟩
  rw [← hg] at R2 hgo ⊢
  clear hg HBO
  go_wp2_with fail
  go_loopw [6] (fun i wr => ∃ j : Nat, j ≤ vs.length ∧ i = .int .i64 j ∧ Hid (Below w.heap.size w wr) ∧ Hid (wr.heap[w.heap.size]? = some (.cells #[.int .u64 0, .int .u64 0] 40 (0, 0))) ∧ Hid (wr.heap[go]? = some (.cells #[.int .u64 ((eqTo vs ps j).u % pF), .int .u64 ((eqTo vs ps j).v % pF)] 40 (0, 0)))) (fun i _ => vs.length - (intOf i).toNat)
  case atStart => exact ⟨0, Nat.zero_le _, rfl, bel, R1, R2⟩
  case round =>
    obtain ⟨j, hj, rfl, HBr, HZ, HE⟩ := hrel
    have hj0 : (0 : Int) ≤ (j : Int) := by omega
    have lg := heap_lt HE.out
    by_cases hlt : j < vs.length
    · have hj1 : (j : Int) < (vs.length : Int) := by omega
      obtain ⟨x, hx⟩ : ∃ x, vs[j]? = some x := ⟨_, List.getElem?_eq_getElem hlt⟩
      obtain ⟨y, hy⟩ : ∃ y, ps[j]? = some y := ⟨_, List.getElem?_eq_getElem (by rw [HL.out]; exact hlt)⟩
      obtain ⟨b1, o1, rfl, ⟨-, hb1⟩, l1, x0, x1⟩ := ext_at (H.out.keep (Below.agree HBr.out)) hx
      obtain ⟨b2, o2, rfl, ⟨-, hb2⟩, l2, y0, y1⟩ := ext_at (K.out.keep (Below.agree HBr.out)) hy
      have zx : ∀ W, Gk go wr W → _ ∧ _ := fun W hW => ⟨hW.cell_ x0 l1 (by omega), hW.cell_ x1 l1 (by omega)⟩
      have zy : ∀ W, Gk go wr W → _ ∧ _ := fun W hW => ⟨hW.cell_ y0 l2 (by omega), hW.cell_ y1 l2 (by omega)⟩
      have hstep : eqTo vs ps (j + 1) = (eqTo vs ps j).mul (x.fac y) := by
        show (eqTo vs ps j).mul ((vs.getD j ZQ.zero).fac (ps.getD j ZQ.zero)) = _
        rw [List.getD_eq_getElem?_getD, List.getD_eq_getElem?_getD, hx, hy]; rfl
      obtain ⟨m, hm1⟩ : ∃ r, (x.fac y).u % pF = r := ⟨_, rfl⟩
      obtain ⟨n, hn1⟩ : ∃ r, (x.fac y).v % pF = r := ⟨_, rfl⟩
      obtain ⟨q, hq⟩ : ∃ q, eqTo vs ps j = q := ⟨_, rfl⟩
      rw [hq] at hstep HE
      obtain ⟨e0, e1, -⟩ := pair2 HE
      obtain ⟨r, hr⟩ : ∃ r, (q.mul (x.fac y)).u % pF = r := ⟨_, rfl⟩
      obtain ⟨s, hs⟩ : ∃ r, (q.mul (x.fac y)).v % pF = r := ⟨_, rfl⟩
      have HM := Lib.hid hm1
      have HN := Lib.hid hn1
      have HR := Lib.hid hr
      have HS := Lib.hid hs
      have HST := Lib.hid hstep
      clear hm1 hn1 hr hs hstep hx hy x0 x1 y0 y1 hq
      go_upto_region 5 with fail
      refine wp_region_noPanic ?_
      refine wp_region_held_drew (S := fun X => Gk go wr X) (by kernel_rfl) ?_ (fun hHeld => ?_)
      · (first | (repeat' (first | with_reducible assumption | with_reducible exact Gk.refl _ _ | with_reducible refine Gk.drew ?_ | with_reducible refine Gk.set ?_ _ _ | with_reducible refine Gk.alloc ?_ _ | with_reducible refine Gk.call ?_ (by assumption))) | (first | with_reducible assumption | (with_reducible refine Below.drew ?_; with_reducible assumption) | (with_reducible refine ba _ _ ?_; with_reducible assumption) | (with_reducible refine Below.drew ?_; with_reducible refine ba _ _ ?_; with_reducible assumption) | exact Below.refl _ _ | exact (Below.refl _ _).drew | exact (Below.refl _ _).alloc (Nat.le_refl _) _ | (refine bc _ _ (by assumption) (by assumption))))
      refine RegOk.begin_ (n := 12) (T := eyQ) ⟨by kernel_rfl, by kernel_rfl, by kernel_rfl, by kernel_rfl⟩ fun hR => ?_
      refine hR.take (i := 1) (oi := ?ow71_1) (v := ?vw71_1) (m' := 2) ?hw71_1 (by kernel_rfl) (by kernel_rfl) (fun _ _ _ h => h) (Or.inl ⟨?sw71_1, ?yw71_1⟩) (by assumption) ?nw71_1
      case hw71_1 => simp only [List.getElem?_toArray, List.getElem?_cons_succ, List.getElem?_cons_zero]; rfl
      case sw71_1 => rfl
      case yw71_1 => (intro w hSw; (try dsimp only at hSw); go_simp <;> with_reducible rfl)
      try simp only [Act.put, List.setIfInBounds_toArray, List.set_cons_zero, List.set_cons_succ]
      refine hR.take (i := 2) (oi := ?ow72_2) (v := ?vw72_2) (m' := 6) ?hw72_2 (by kernel_rfl) (by kernel_rfl) (fun _ _ _ h => h) (Or.inl ⟨?sw72_2, ?yw72_2⟩) (by assumption) ?nw72_2
      case hw72_2 => simp only [List.getElem?_toArray, List.getElem?_cons_succ, List.getElem?_cons_zero]; rfl
      case sw72_2 => rfl
      case yw72_2 => (intro w hSw; (try dsimp only at hSw); go_simp <;> with_reducible rfl)
      try simp only [Act.put, List.setIfInBounds_toArray, List.set_cons_zero, List.set_cons_succ]
      refine hR.take (i := 3) (oi := ?ow73_3) (v := ?vw73_3) (m' := 14) ?hw73_3 (by kernel_rfl) (by kernel_rfl) (fun _ _ _ h => h) (Or.inl ⟨?sw73_3, ?yw73_3⟩) (by assumption) ?nw73_3
      case hw73_3 => simp only [List.getElem?_toArray, List.getElem?_cons_succ, List.getElem?_cons_zero]; rfl
      case sw73_3 => rfl
      case yw73_3 => (intro w hSw; (try dsimp only at hSw); go_simp <;> with_reducible rfl)
      try simp only [Act.put, List.setIfInBounds_toArray, List.set_cons_zero, List.set_cons_succ]
      refine hR.take (i := 4) (oi := ?ow74_4) (v := ?vw74_4) (m' := 30) ?hw74_4 (by kernel_rfl) (by kernel_rfl) (fun _ _ _ h => h) (Or.inl ⟨?sw74_4, ?yw74_4⟩) (by assumption) ?nw74_4
      case hw74_4 => simp only [List.getElem?_toArray, List.getElem?_cons_succ, List.getElem?_cons_zero]; rfl
      case sw74_4 => rfl
      case yw74_4 => (intro w hSw; (try dsimp only at hSw); go_simp <;> with_reducible rfl)
      try simp only [Act.put, List.setIfInBounds_toArray, List.set_cons_zero, List.set_cons_succ]
      refine hR.take (i := 5) (oi := ?ow75_5) (v := ?vw75_5) (m' := 62) ?hw75_5 (by kernel_rfl) (by kernel_rfl) (fun _ _ _ h => h) (Or.inl ⟨?sw75_5, ?yw75_5⟩) (by assumption) ?nw75_5
      case hw75_5 => simp only [List.getElem?_toArray, List.getElem?_cons_succ, List.getElem?_cons_zero]; rfl
      case sw75_5 => rfl
      case yw75_5 => (intro w hSw; (try dsimp only at hSw); go_simp <;> with_reducible rfl)
      try simp only [Act.put, List.setIfInBounds_toArray, List.set_cons_zero, List.set_cons_succ]
      refine hR.take (i := 6) (oi := ?ow76_6) (v := ?vw76_6) (m' := 126) ?hw76_6 (by kernel_rfl) (by kernel_rfl) (fun _ _ _ h => h) (Or.inl ⟨?sw76_6, ?yw76_6⟩) (by assumption) ?nw76_6
      case hw76_6 => simp only [List.getElem?_toArray, List.getElem?_cons_succ, List.getElem?_cons_zero]; rfl
      case sw76_6 => rfl
      case yw76_6 => (intro w hSw; (try dsimp only at hSw); go_simp <;> with_reducible rfl)
      try simp only [Act.put, List.setIfInBounds_toArray, List.set_cons_zero, List.set_cons_succ]
      refine hR.take (i := 7) (oi := ?ow77_7) (v := ?vw77_7) (m' := 254) ?hw77_7 (by kernel_rfl) (by kernel_rfl) (fun _ _ _ h => h) (Or.inl ⟨?sw77_7, ?yw77_7⟩) (by assumption) ?nw77_7
      case hw77_7 => simp only [List.getElem?_toArray, List.getElem?_cons_succ, List.getElem?_cons_zero]; rfl
      case sw77_7 => rfl
      case yw77_7 => (intro w hSw; (try dsimp only at hSw); go_simp <;> with_reducible rfl)
      try simp only [Act.put, List.setIfInBounds_toArray, List.set_cons_zero, List.set_cons_succ]
      refine hR.take (i := 8) (oi := ?ow78_8) (v := ?vw78_8) (m' := 510) ?hw78_8 (by kernel_rfl) (by kernel_rfl) (fun _ _ _ h => h) (Or.inl ⟨?sw78_8, ?yw78_8⟩) (by assumption) ?nw78_8
      case hw78_8 => simp only [List.getElem?_toArray, List.getElem?_cons_succ, List.getElem?_cons_zero]; rfl
      case sw78_8 => rfl
      case yw78_8 => (intro w hSw; (try dsimp only at hSw); go_simp <;> with_reducible rfl)
      try simp only [Act.put, List.setIfInBounds_toArray, List.set_cons_zero, List.set_cons_succ]
      refine hR.come (rs := [0, 9]) (by kernel_rfl) (by simp) ?_
      refine AllReadyH.cons (o := ?o79_0) ?h79_0 (fun K hK => ?kw79_0) (AllReadyH.cons (o := ?o79_9) ?h79_9 (fun K hK => ?kw79_9) AllReadyH.nil)
      case h79_0 => simp only [List.getElem?_toArray, List.getElem?_cons_succ, List.getElem?_cons_zero]; rfl
      case h79_9 => simp only [List.getElem?_toArray, List.getElem?_cons_succ, List.getElem?_cons_zero]; rfl
      case kw79_0 =>
        go_simp <;> (try go_wp2_with fail)
        refine hK.out _ _ ?_ (fun hHeld => ?_)
        · (first | (repeat' (first | with_reducible assumption | with_reducible exact Gk.refl _ _ | with_reducible refine Gk.drew ?_ | with_reducible refine Gk.set ?_ _ _ | with_reducible refine Gk.alloc ?_ _ | with_reducible refine Gk.call ?_ (by assumption))) | (first | with_reducible assumption | (with_reducible refine Below.drew ?_; with_reducible assumption) | (with_reducible refine ba _ _ ?_; with_reducible assumption) | (with_reducible refine Below.drew ?_; with_reducible refine ba _ _ ?_; with_reducible assumption) | exact Below.refl _ _ | exact (Below.refl _ _).drew | exact (Below.refl _ _).alloc (Nat.le_refl _) _ | (refine bc _ _ (by assumption) (by assumption))))
        clear hK K
        refine RegOk.put_ (m' := 511) (by kernel_rfl) ?_
        try simp only [Act.put, List.setIfInBounds_toArray, List.set_cons_zero, List.set_cons_succ]
        refine hR.come (rs := [9]) (by kernel_rfl) (by simp) ?_
        refine AllReadyH.cons (o := ?o80_9) ?h80_9 (fun K hK => ?kw80_9) AllReadyH.nil
        case h80_9 => simp only [List.getElem?_toArray, List.getElem?_cons_succ, List.getElem?_cons_zero]; rfl
        go_simp
        go_at_call 58; (with_reducible refine (facN (x := x) (y := y) rfl rfl rfl rfl HM.out HN.out _).mono ?_); rintro e wA ⟨rfl, hbA⟩; have hA : Below wr.heap.size wr wA := (Below.refl _ _).drew.trans hbA; have gA : Gk go wr wA := Gk.ofBelow hA; obtain ⟨a0, a1, -⟩ := pair2 (mvQ HE hA)
        refine hK.out _ _ ?_ (fun hHeld => ?_)
        · (first | (repeat' (first | with_reducible assumption | with_reducible exact Gk.refl _ _ | with_reducible refine Gk.drew ?_ | with_reducible refine Gk.set ?_ _ _ | with_reducible refine Gk.alloc ?_ _ | with_reducible refine Gk.call ?_ (by assumption))) | (first | with_reducible assumption | (with_reducible refine Below.drew ?_; with_reducible assumption) | (with_reducible refine ba _ _ ?_; with_reducible assumption) | (with_reducible refine Below.drew ?_; with_reducible refine ba _ _ ?_; with_reducible assumption) | exact Below.refl _ _ | exact (Below.refl _ _).drew | exact (Below.refl _ _).alloc (Nat.le_refl _) _ | (refine bc _ _ (by assumption) (by assumption))))
        clear hK K
        refine RegOk.put_ (m' := 1023) (by kernel_rfl) ?_
        try simp only [Act.put, List.setIfInBounds_toArray, List.set_cons_zero, List.set_cons_succ]
        refine hR.come (rs := [10]) (by kernel_rfl) (by simp) ?_
        refine AllReadyH.cons (o := ?o81_10) ?h81_10 (fun K hK => ?kw81_10) AllReadyH.nil
        case h81_10 => simp only [List.getElem?_toArray, List.getElem?_cons_succ, List.getElem?_cons_zero]; rfl
        go_simp
        go_at_call 10; (with_reducible refine (mulN (x := q) (y := x.fac y) rfl rfl HM.out HN.out HR.out HS.out _).mono ?_); rintro e wB ⟨rfl, hbB⟩; have hB := hA.trans (hbB.mono hA.size); have gB : Gk go wr wB := Gk.ofBelow hB; have RB := mvQ HE hB; obtain ⟨b0, b1', lb⟩ := pair2 RB; have fb := frzX RB
        refine hK.out _ _ ?_ (fun hHeld => ?_)
        · (first | (repeat' (first | with_reducible assumption | with_reducible exact Gk.refl _ _ | with_reducible refine Gk.drew ?_ | with_reducible refine Gk.set ?_ _ _ | with_reducible refine Gk.alloc ?_ _ | with_reducible refine Gk.call ?_ (by assumption))) | (first | with_reducible assumption | (with_reducible refine Below.drew ?_; with_reducible assumption) | (with_reducible refine ba _ _ ?_; with_reducible assumption) | (with_reducible refine Below.drew ?_; with_reducible refine ba _ _ ?_; with_reducible assumption) | exact Below.refl _ _ | exact (Below.refl _ _).drew | exact (Below.refl _ _).alloc (Nat.le_refl _) _ | (refine bc _ _ (by assumption) (by assumption))))
        clear hK K
        refine RegOk.put_ (m' := 2047) (by kernel_rfl) ?_
        try simp only [Act.put, List.setIfInBounds_toArray, List.set_cons_zero, List.set_cons_succ]
        refine hR.come (rs := [11]) (by kernel_rfl) (by simp) ?_
        refine AllReadyH.cons (o := ?o82_11) ?h82_11 (fun K hK => ?kw82_11) AllReadyH.nil
        case h82_11 => simp only [List.getElem?_toArray, List.getElem?_cons_succ, List.getElem?_cons_zero]; rfl
        go_simp <;> (try go_wp2_with fail)
        refine hK.out _ _ ?_ (fun hHeld => ?_)
        · (first | (repeat' (first | with_reducible assumption | with_reducible exact Gk.refl _ _ | with_reducible refine Gk.drew ?_ | with_reducible refine Gk.set ?_ _ _ | with_reducible refine Gk.alloc ?_ _ | with_reducible refine Gk.call ?_ (by assumption))) | (first | with_reducible assumption | (with_reducible refine Below.drew ?_; with_reducible assumption) | (with_reducible refine ba _ _ ?_; with_reducible assumption) | (with_reducible refine Below.drew ?_; with_reducible refine ba _ _ ?_; with_reducible assumption) | exact Below.refl _ _ | exact (Below.refl _ _).drew | exact (Below.refl _ _).alloc (Nat.le_refl _) _ | (refine bc _ _ (by assumption) (by assumption))))
        clear hK K
        refine RegOk.put_ (m' := 4095) (by kernel_rfl) ?_
        try simp only [Act.put, List.setIfInBounds_toArray, List.set_cons_zero, List.set_cons_succ]
        refine hR.all (by kernel_rfl) ?_ _
        refine NoPanic.normal ?_
        go_wp2_with fail
        go_roundw
        case rel =>
          refine ⟨j + 1, by omega, by go_num, Lib.hid (Gk.below (w := wr) (k := go) ?_ HBr.out (by omega) HBr.out.size), Lib.hid (Gk.row (k := go) (w := wr) ?_ HZ.out (by omega)), Lib.hid (by rw [HST.out, HR.out, HS.out]; exact setpair RB.out)⟩
          · (repeat' (first | with_reducible assumption | with_reducible exact Gk.refl _ _ | with_reducible refine Gk.drew ?_ | with_reducible refine Gk.set ?_ _ _ | with_reducible refine Gk.alloc ?_ _ | with_reducible refine Gk.call ?_ (by assumption)))
          · (repeat' (first | with_reducible assumption | with_reducible exact Gk.refl _ _ | with_reducible refine Gk.drew ?_ | with_reducible refine Gk.set ?_ _ _ | with_reducible refine Gk.alloc ?_ _ | with_reducible refine Gk.call ?_ (by assumption)))
        case measure => simp [intOf]; omega
      case kw79_9 =>
        go_simp
        go_at_call 58; (with_reducible refine (facN (x := x) (y := y) rfl rfl rfl rfl HM.out HN.out _).mono ?_); rintro e wA ⟨rfl, hbA⟩; have hA : Below wr.heap.size wr wA := (Below.refl _ _).drew.trans hbA; have gA : Gk go wr wA := Gk.ofBelow hA; obtain ⟨a0, a1, -⟩ := pair2 (mvQ HE hA)
        refine hK.out _ _ ?_ (fun hHeld => ?_)
        · (first | (repeat' (first | with_reducible assumption | with_reducible exact Gk.refl _ _ | with_reducible refine Gk.drew ?_ | with_reducible refine Gk.set ?_ _ _ | with_reducible refine Gk.alloc ?_ _ | with_reducible refine Gk.call ?_ (by assumption))) | (first | with_reducible assumption | (with_reducible refine Below.drew ?_; with_reducible assumption) | (with_reducible refine ba _ _ ?_; with_reducible assumption) | (with_reducible refine Below.drew ?_; with_reducible refine ba _ _ ?_; with_reducible assumption) | exact Below.refl _ _ | exact (Below.refl _ _).drew | exact (Below.refl _ _).alloc (Nat.le_refl _) _ | (refine bc _ _ (by assumption) (by assumption))))
        clear hK K
        refine RegOk.put_ (m' := 1022) (by kernel_rfl) ?_
        try simp only [Act.put, List.setIfInBounds_toArray, List.set_cons_zero, List.set_cons_succ]
        refine hR.come (rs := [0]) (by kernel_rfl) (by simp) ?_
        refine AllReadyH.cons (o := ?o83_0) ?h83_0 (fun K hK => ?kw83_0) AllReadyH.nil
        case h83_0 => simp only [List.getElem?_toArray, List.getElem?_cons_succ, List.getElem?_cons_zero]; rfl
        go_simp <;> (try go_wp2_with fail)
        refine hK.out _ _ ?_ (fun hHeld => ?_)
        · (first | (repeat' (first | with_reducible assumption | with_reducible exact Gk.refl _ _ | with_reducible refine Gk.drew ?_ | with_reducible refine Gk.set ?_ _ _ | with_reducible refine Gk.alloc ?_ _ | with_reducible refine Gk.call ?_ (by assumption))) | (first | with_reducible assumption | (with_reducible refine Below.drew ?_; with_reducible assumption) | (with_reducible refine ba _ _ ?_; with_reducible assumption) | (with_reducible refine Below.drew ?_; with_reducible refine ba _ _ ?_; with_reducible assumption) | exact Below.refl _ _ | exact (Below.refl _ _).drew | exact (Below.refl _ _).alloc (Nat.le_refl _) _ | (refine bc _ _ (by assumption) (by assumption))))
        clear hK K
        refine RegOk.put_ (m' := 1023) (by kernel_rfl) ?_
        try simp only [Act.put, List.setIfInBounds_toArray, List.set_cons_zero, List.set_cons_succ]
        refine hR.come (rs := [10]) (by kernel_rfl) (by simp) ?_
        refine AllReadyH.cons (o := ?o84_10) ?h84_10 (fun K hK => ?kw84_10) AllReadyH.nil
        case h84_10 => simp only [List.getElem?_toArray, List.getElem?_cons_succ, List.getElem?_cons_zero]; rfl
        go_simp
        go_at_call 10; (with_reducible refine (mulN (x := q) (y := x.fac y) rfl rfl HM.out HN.out HR.out HS.out _).mono ?_); rintro e wB ⟨rfl, hbB⟩; have hB := hA.trans (hbB.mono hA.size); have gB : Gk go wr wB := Gk.ofBelow hB; have RB := mvQ HE hB; obtain ⟨b0, b1', lb⟩ := pair2 RB; have fb := frzX RB
        refine hK.out _ _ ?_ (fun hHeld => ?_)
        · (first | (repeat' (first | with_reducible assumption | with_reducible exact Gk.refl _ _ | with_reducible refine Gk.drew ?_ | with_reducible refine Gk.set ?_ _ _ | with_reducible refine Gk.alloc ?_ _ | with_reducible refine Gk.call ?_ (by assumption))) | (first | with_reducible assumption | (with_reducible refine Below.drew ?_; with_reducible assumption) | (with_reducible refine ba _ _ ?_; with_reducible assumption) | (with_reducible refine Below.drew ?_; with_reducible refine ba _ _ ?_; with_reducible assumption) | exact Below.refl _ _ | exact (Below.refl _ _).drew | exact (Below.refl _ _).alloc (Nat.le_refl _) _ | (refine bc _ _ (by assumption) (by assumption))))
        clear hK K
        refine RegOk.put_ (m' := 2047) (by kernel_rfl) ?_
        try simp only [Act.put, List.setIfInBounds_toArray, List.set_cons_zero, List.set_cons_succ]
        refine hR.come (rs := [11]) (by kernel_rfl) (by simp) ?_
        refine AllReadyH.cons (o := ?o85_11) ?h85_11 (fun K hK => ?kw85_11) AllReadyH.nil
        case h85_11 => simp only [List.getElem?_toArray, List.getElem?_cons_succ, List.getElem?_cons_zero]; rfl
        go_simp <;> (try go_wp2_with fail)
        refine hK.out _ _ ?_ (fun hHeld => ?_)
        · (first | (repeat' (first | with_reducible assumption | with_reducible exact Gk.refl _ _ | with_reducible refine Gk.drew ?_ | with_reducible refine Gk.set ?_ _ _ | with_reducible refine Gk.alloc ?_ _ | with_reducible refine Gk.call ?_ (by assumption))) | (first | with_reducible assumption | (with_reducible refine Below.drew ?_; with_reducible assumption) | (with_reducible refine ba _ _ ?_; with_reducible assumption) | (with_reducible refine Below.drew ?_; with_reducible refine ba _ _ ?_; with_reducible assumption) | exact Below.refl _ _ | exact (Below.refl _ _).drew | exact (Below.refl _ _).alloc (Nat.le_refl _) _ | (refine bc _ _ (by assumption) (by assumption))))
        clear hK K
        refine RegOk.put_ (m' := 4095) (by kernel_rfl) ?_
        try simp only [Act.put, List.setIfInBounds_toArray, List.set_cons_zero, List.set_cons_succ]
        refine hR.all (by kernel_rfl) ?_ _
        refine NoPanic.normal ?_
        go_wp2_with fail
        go_roundw
        case rel =>
          refine ⟨j + 1, by omega, by go_num, Lib.hid (Gk.below (w := wr) (k := go) ?_ HBr.out (by omega) HBr.out.size), Lib.hid (Gk.row (k := go) (w := wr) ?_ HZ.out (by omega)), Lib.hid (by rw [HST.out, HR.out, HS.out]; exact setpair RB.out)⟩
          · (repeat' (first | with_reducible assumption | with_reducible exact Gk.refl _ _ | with_reducible refine Gk.drew ?_ | with_reducible refine Gk.set ?_ _ _ | with_reducible refine Gk.alloc ?_ _ | with_reducible refine Gk.call ?_ (by assumption)))
          · (repeat' (first | with_reducible assumption | with_reducible exact Gk.refl _ _ | with_reducible refine Gk.drew ?_ | with_reducible refine Gk.set ?_ _ _ | with_reducible refine Gk.alloc ?_ _ | with_reducible refine Gk.call ?_ (by assumption)))
        case measure => simp [intOf]; omega
    · have hj1 : ¬ (j : Int) < (vs.length : Int) := by omega
      obtain rfl : j = vs.length := by omega
      obtain ⟨q, hq⟩ : ∃ q, eqTo vs ps vs.length = q := ⟨_, rfl⟩
      rw [hq] at HE
      have HQ := Lib.hid hq
      clear hq
      obtain ⟨r, hr⟩ : ∃ r, q.u % pF = r := ⟨_, rfl⟩
      obtain ⟨s, hs⟩ : ∃ r, q.v % pF = r := ⟨_, rfl⟩
      rw [hr, hs] at HE
      have HR := Lib.hid hr
      have HS := Lib.hid hs
      clear hr hs
      obtain ⟨e0, e1, -⟩ := pair2 HE
      obtain ⟨c0, c1, lc⟩ := pair2 HZ
      have fc := frzX HZ
      have hne : go ≠ w.heap.size := by omega
      go_wp2_with fail
      obtain ⟨t0, t1, -⟩ := pair2 (Lib.hid (setpair (u := .int .u64 r) (v := .int .u64 s) HZ.out))
      refine bodyPost_ret (v := .agg #[.int .u64 r, .int .u64 s]) (by simp [results, Try.results38, go_sem, *]) rfl ⟨by rw [HQ.out, HR.out, HS.out], ?_⟩
      have hb := HBr.out
      exact (by repeat' (first | with_reducible exact Below.refl _ _ | with_reducible assumption | with_reducible refine Below.setCell ?_ ?_ _ | with_reducible refine Below.drew ?_ | with_reducible refine below_drewN ?_ _ | with_reducible refine Below.alloc ?_ ?_ _ | (rintro _ ⟨⟩; simp <;> omega) | omega | (simp <;> omega)))
end Go.Proofs.Ytpdblgchfkcgpaa
