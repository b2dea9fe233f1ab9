/-
  Texts of this claim, merged: Ew, Ep. Conditions: as each theorem says.
-/
import Derived.Deep.Upon
import Derived.Test.YtpdblgchfkcgpaaV1
import Derived.Test.YtpdblgchfkcgpaaV2
import Derived.Test.YtpdblgchfkcgpaaV7
import Derived.Test.YtpdblgchfkcgpaaV10
import Derived.Test.YtpdblgchfkcgpaaV11
import Derived.Test.YtpdblgchfkcgpaaV12
import Derived.Test.YtpdblgchfkcgpaaV13
import Derived.Test.YtpdblgchfkcgpaaV3
import Derived.Test.YtpdblgchfkcgpaaV4
import Derived.Test.YtpdblgchfkcgpaaV5
import Derived.Test.YtpdblgchfkcgpaaV6
set_option linter.unusedSimpArgs false
set_option linter.unusedVariables false
namespace Go.Proofs.Ytpdblgchfkcgpaa
open Go.RowKit

def evalTo (ts ps : List ZQ) : Nat → ZQ
  | 0 => ZQ.zero
  | k + 1 => (evalTo ts ps k).add ((ts.getD k ZQ.zero).mul (eqI k ps))
def ewV : List FRow := [(0, ([], (15, [5]))), (1, ([], (16, [0]))), (2, ([], (17, [6]))), (3, ([1, 2], (18, [15, 16]))), (4, ([3], (19, [17]))), (5, ([], (20, [6]))), (6, ([], (21, [1]))), (7, ([5, 6], (22, [19, 20]))), (8, ([4, 7, 7], (23, [18, 21]))), (9, ([0, 8, 8], (24, [14, 22]))), (10, ([9, 9, 0, 1, 2, 3, 4, 5, 6, 7, 8, 9], (0, [5, 23])))]
set_option maxRecDepth 100000 in
set_option maxHeartbeats 8000000 in
theorem evalP {ts ps : List ZQ} {A B : Option Addr} {c d nt np : Nat} {S U : Nat → Prop} (w : World) (hnt : ts.length = nt) (hnp : ps.length = np) (ht : nt ≤ 1000) (hp : np ≤ 20) (h : Sl extE S w A c ts) (k : Sl extE U w B d ps) :
    Calls Try.prog 12 #[.slice A nt c, .slice B np d] w fun e w' => e = .returned (.agg #[.int .u64 ((evalTo ts ps nt).u % pF), .int .u64 ((evalTo ts ps nt).v % pF)]) ∧ Below w.heap.size w w' := by
  have H := Lib.hid h.old
  have KS := Lib.hid k.old
  have HNT := Lib.hid hnt
  have HNP := Lib.hid hnp
  clear h k hnt hnp
  go_enter Try.func12, Try.ntmps12
  go_upto_region 2 with fail
  refine wp_world (F := fun wx => Hid (Below w.heap.size w wx) ∧ Hid (wx.heap[w.heap.size]? = some (.cells #[.int .u64 0, .int .u64 0] 40 (0, 0))) ∧ Hid (wx.heap[w.heap.size + 1]? = some (.cells #[.int .u64 0, .int .u64 0] 40 (0, 0)))) ⟨Lib.hid (by repeat' (first | with_reducible exact Below.refl _ _ | with_reducible assumption | with_reducible refine Below.setCell ?_ ?_ _ | with_reducible refine Below.drew ?_ | with_reducible refine below_drewN ?_ _ | with_reducible refine Below.alloc ?_ ?_ _ | (rintro _ ⟨⟩; simp <;> omega) | omega | (simp <;> omega))), Lib.hid ((Below.heap_alloc _ _ _ (by simp)).trans (heap_alloc_at rfl)), Lib.hid (heap_alloc_at (by simp))⟩ ?_
  rintro w1 ⟨bel, R1, R2⟩
  obtain ⟨go, hg⟩ : ∃ g, g = w.heap.size + 1 := ⟨_, rfl⟩
  rw [← hg] at R2 ⊢
  have hgo : w.heap.size < go := by omega
  clear hg
  go_wp2_with fail
  go_loopw [6] (fun i wr => ∃ j : Nat, j ≤ nt ∧ i = .int .i64 j ∧ Hid (Below w.heap.size w wr) ∧ Hid (wr.heap[w.heap.size]? = some (.cells #[.int .u64 0, .int .u64 0] 40 (0, 0))) ∧ Hid (wr.heap[go]? = some (.cells #[.int .u64 ((evalTo ts ps j).u % pF), .int .u64 ((evalTo ts ps j).v % pF)] 40 (0, 0)))) (fun i _ => nt - (intOf i).toNat)
  case atStart => exact ⟨0, Nat.zero_le _, rfl, bel, R1, R2⟩
  case round =>
    obtain ⟨j, hj, rfl, HBr, HZ, HE⟩ := hrel
    have hj0 : (0 : Int) ≤ (j : Int) := by omega
    have lg := heap_lt HE.out
    by_cases hlt : j < nt
    · have hj1 : (j : Int) < (nt : Int) := by omega
      obtain ⟨x, hx⟩ : ∃ x, ts[j]? = some x := ⟨_, List.getElem?_eq_getElem (by rw [HNT.out]; exact hlt)⟩
      obtain ⟨b1, o1, rfl, ⟨-, hb1⟩, l1, x0, x1⟩ := ext_at (H.out.keep (Below.agree HBr.out)) hx
      have zx : ∀ W, Gk go wr W → _ ∧ _ := fun W hW => ⟨hW.cell_ x0 l1 (by omega), hW.cell_ x1 l1 (by omega)⟩
      have hstep : evalTo ts ps (j + 1) = (evalTo ts ps j).add (x.mul (eqI j ps)) := by
        show (evalTo ts ps j).add ((ts.getD j ZQ.zero).mul (eqI j ps)) = _
        rw [List.getD_eq_getElem?_getD, hx]; rfl
      obtain ⟨y, hy⟩ : ∃ y, eqI j ps = y := ⟨_, rfl⟩
      obtain ⟨q, hq⟩ : ∃ q, evalTo ts ps j = q := ⟨_, rfl⟩
      rw [hq, hy] at hstep
      rw [hq] at HE
      obtain ⟨e0, e1, -⟩ := pair2 HE
      obtain ⟨m, hm⟩ : ∃ r, y.u % pF = r := ⟨_, rfl⟩
      have HM := Lib.hid hm
      clear hm
      obtain ⟨n, hn⟩ : ∃ r, y.v % pF = r := ⟨_, rfl⟩
      have HN := Lib.hid hn
      clear hn
      obtain ⟨p, hp⟩ : ∃ r, (x.mul y).u % pF = r := ⟨_, rfl⟩
      have HP := Lib.hid hp
      clear hp
      obtain ⟨t, ht⟩ : ∃ r, (x.mul y).v % pF = r := ⟨_, rfl⟩
      have HT := Lib.hid ht
      clear ht
      obtain ⟨r, hr⟩ : ∃ r, (q.add (x.mul y)).u % pF = r := ⟨_, rfl⟩
      have HR := Lib.hid hr
      clear hr
      obtain ⟨s, hs⟩ : ∃ r, (q.add (x.mul y)).v % pF = r := ⟨_, rfl⟩
      have HS := Lib.hid hs
      clear hs
      have HY1 := Lib.hid (show (eqI j ps).u % pF = m by rw [hy]; exact HM.out)
      have HY2 := Lib.hid (show (eqI j ps).v % pF = n by rw [hy]; exact HN.out)
      have HST := Lib.hid hstep
      have hj20 : j < 1048576 := by omega
      clear hstep hx x0 x1 hq hy
      go_upto_region 5 with fail
      refine wp_region_noPanic ?_
      refine wp_region_held_drew (S := fun X => Gk go wr X) (by kernel_rfl) ?_ (fun hHeld => ?_)
      · (first | (repeat' (first | with_reducible assumption | with_reducible exact Gk.refl _ _ | with_reducible refine Gk.drew ?_ | with_reducible refine Gk.set ?_ _ _ | with_reducible refine Gk.alloc ?_ _ | with_reducible refine Gk.call ?_ (by assumption))) | (first | with_reducible assumption | (with_reducible refine Below.drew ?_; with_reducible assumption) | (with_reducible refine ba _ _ ?_; with_reducible assumption) | (with_reducible refine Below.drew ?_; with_reducible refine ba _ _ ?_; with_reducible assumption) | exact Below.refl _ _ | exact (Below.refl _ _).drew | exact (Below.refl _ _).alloc (Nat.le_refl _) _ | (refine bc _ _ (by assumption) (by assumption))))
      refine RegOk.begin_ (n := 11) (T := ewV) ⟨by kernel_rfl, by kernel_rfl, by kernel_rfl, by kernel_rfl⟩ fun hR => ?_
      refine hR.take (i := 1) (oi := ?ow86_1) (v := ?vw86_1) (m' := 2) ?hw86_1 (by kernel_rfl) (by kernel_rfl) (fun _ _ _ h => h) (Or.inl ⟨?sw86_1, ?yw86_1⟩) (by assumption) ?nw86_1
      case hw86_1 => simp only [List.getElem?_toArray, List.getElem?_cons_succ, List.getElem?_cons_zero]; rfl
      case sw86_1 => rfl
      case yw86_1 => (intro w hSw; (try dsimp only at hSw); go_simp <;> with_reducible rfl)
      try simp only [Act.put, List.setIfInBounds_toArray, List.set_cons_zero, List.set_cons_succ]
      refine hR.take (i := 2) (oi := ?ow87_2) (v := ?vw87_2) (m' := 6) ?hw87_2 (by kernel_rfl) (by kernel_rfl) (fun _ _ _ h => h) (Or.inl ⟨?sw87_2, ?yw87_2⟩) (by assumption) ?nw87_2
      case hw87_2 => simp only [List.getElem?_toArray, List.getElem?_cons_succ, List.getElem?_cons_zero]; rfl
      case sw87_2 => rfl
      case yw87_2 => (intro w hSw; (try dsimp only at hSw); go_simp <;> with_reducible rfl)
      try simp only [Act.put, List.setIfInBounds_toArray, List.set_cons_zero, List.set_cons_succ]
      refine hR.take (i := 3) (oi := ?ow88_3) (v := ?vw88_3) (m' := 14) ?hw88_3 (by kernel_rfl) (by kernel_rfl) (fun _ _ _ h => h) (Or.inl ⟨?sw88_3, ?yw88_3⟩) (by assumption) ?nw88_3
      case hw88_3 => simp only [List.getElem?_toArray, List.getElem?_cons_succ, List.getElem?_cons_zero]; rfl
      case sw88_3 => rfl
      case yw88_3 => (intro w hSw; (try dsimp only at hSw); go_simp <;> with_reducible rfl)
      try simp only [Act.put, List.setIfInBounds_toArray, List.set_cons_zero, List.set_cons_succ]
      refine hR.take (i := 4) (oi := ?ow89_4) (v := ?vw89_4) (m' := 30) ?hw89_4 (by kernel_rfl) (by kernel_rfl) (fun _ _ _ h => h) (Or.inl ⟨?sw89_4, ?yw89_4⟩) (by assumption) ?nw89_4
      case hw89_4 => simp only [List.getElem?_toArray, List.getElem?_cons_succ, List.getElem?_cons_zero]; rfl
      case sw89_4 => rfl
      case yw89_4 => (intro w hSw; (try dsimp only at hSw); go_simp <;> with_reducible rfl)
      try simp only [Act.put, List.setIfInBounds_toArray, List.set_cons_zero, List.set_cons_succ]
      refine hR.take (i := 5) (oi := ?ow90_5) (v := ?vw90_5) (m' := 62) ?hw90_5 (by kernel_rfl) (by kernel_rfl) (fun _ _ _ h => h) (Or.inl ⟨?sw90_5, ?yw90_5⟩) (by assumption) ?nw90_5
      case hw90_5 => simp only [List.getElem?_toArray, List.getElem?_cons_succ, List.getElem?_cons_zero]; rfl
      case sw90_5 => rfl
      case yw90_5 => (intro w hSw; (try dsimp only at hSw); go_simp <;> with_reducible rfl)
      try simp only [Act.put, List.setIfInBounds_toArray, List.set_cons_zero, List.set_cons_succ]
      refine hR.take (i := 6) (oi := ?ow91_6) (v := ?vw91_6) (m' := 126) ?hw91_6 (by kernel_rfl) (by kernel_rfl) (fun _ _ _ h => h) (Or.inl ⟨?sw91_6, ?yw91_6⟩) (by assumption) ?nw91_6
      case hw91_6 => simp only [List.getElem?_toArray, List.getElem?_cons_succ, List.getElem?_cons_zero]; rfl
      case sw91_6 => rfl
      case yw91_6 => (intro w hSw; (try dsimp only at hSw); go_simp <;> with_reducible rfl)
      try simp only [Act.put, List.setIfInBounds_toArray, List.set_cons_zero, List.set_cons_succ]
      refine hR.come (rs := [0, 7]) (by kernel_rfl) (by simp) ?_
      refine AllReadyH.cons (o := ?o92_0) ?h92_0 (fun K hK => ?kw92_0) (AllReadyH.cons (o := ?o92_7) ?h92_7 (fun K hK => ?kw92_7) AllReadyH.nil)
      case h92_0 => simp only [List.getElem?_toArray, List.getElem?_cons_succ, List.getElem?_cons_zero]; rfl
      case h92_7 => simp only [List.getElem?_toArray, List.getElem?_cons_succ, List.getElem?_cons_zero]; rfl
      case kw92_0 =>
        go_simp <;> (try go_wp2_with fail)
        refine hK.out _ _ ?_ (fun hHeld => ?_)
        · (first | (repeat' (first | with_reducible assumption | with_reducible exact Gk.refl _ _ | with_reducible refine Gk.drew ?_ | with_reducible refine Gk.set ?_ _ _ | with_reducible refine Gk.alloc ?_ _ | with_reducible refine Gk.call ?_ (by assumption))) | (first | with_reducible assumption | (with_reducible refine Below.drew ?_; with_reducible assumption) | (with_reducible refine ba _ _ ?_; with_reducible assumption) | (with_reducible refine Below.drew ?_; with_reducible refine ba _ _ ?_; with_reducible assumption) | exact Below.refl _ _ | exact (Below.refl _ _).drew | exact (Below.refl _ _).alloc (Nat.le_refl _) _ | (refine bc _ _ (by assumption) (by assumption))))
        clear hK K
        refine RegOk.put_ (m' := 127) (by kernel_rfl) ?_
        try simp only [Act.put, List.setIfInBounds_toArray, List.set_cons_zero, List.set_cons_succ]
        refine hR.come (rs := [7]) (by kernel_rfl) (by simp) ?_
        refine AllReadyH.cons (o := ?o93_7) ?h93_7 (fun K hK => ?kw93_7) AllReadyH.nil
        case h93_7 => simp only [List.getElem?_toArray, List.getElem?_cons_succ, List.getElem?_cons_zero]; rfl
        go_simp
        go_at_call 11; (with_reducible refine (eqIP (i := j) (ps := ps) _ hj20 HNP.out hp ((KS.out.keep (Below.agree HBr.out)).drew) HY1.out HY2.out).mono ?_); rintro e wA ⟨rfl, hbA⟩; have hA : Below wr.heap.size wr wA := (Below.refl _ _).drew.trans hbA; have gA : Gk go wr wA := Gk.ofBelow hA; obtain ⟨a0, a1, -⟩ := pair2 (mvQ HE hA)
        refine hK.out _ _ ?_ (fun hHeld => ?_)
        · (first | (repeat' (first | with_reducible assumption | with_reducible exact Gk.refl _ _ | with_reducible refine Gk.drew ?_ | with_reducible refine Gk.set ?_ _ _ | with_reducible refine Gk.alloc ?_ _ | with_reducible refine Gk.call ?_ (by assumption))) | (first | with_reducible assumption | (with_reducible refine Below.drew ?_; with_reducible assumption) | (with_reducible refine ba _ _ ?_; with_reducible assumption) | (with_reducible refine Below.drew ?_; with_reducible refine ba _ _ ?_; with_reducible assumption) | exact Below.refl _ _ | exact (Below.refl _ _).drew | exact (Below.refl _ _).alloc (Nat.le_refl _) _ | (refine bc _ _ (by assumption) (by assumption))))
        clear hK K
        refine RegOk.put_ (m' := 255) (by kernel_rfl) ?_
        try simp only [Act.put, List.setIfInBounds_toArray, List.set_cons_zero, List.set_cons_succ]
        refine hR.come (rs := [8]) (by kernel_rfl) (by simp) ?_
        refine AllReadyH.cons (o := ?o94_8) ?h94_8 (fun K hK => ?kw94_8) AllReadyH.nil
        case h94_8 => simp only [List.getElem?_toArray, List.getElem?_cons_succ, List.getElem?_cons_zero]; rfl
        go_simp
        go_at_call 10; (with_reducible refine (mulN (x := x) (y := y) rfl rfl HM.out HN.out HP.out HT.out _).mono ?_); rintro e wB ⟨rfl, hbB⟩; have hB := hA.trans (hbB.mono hA.size); have gB : Gk go wr wB := Gk.ofBelow hB; obtain ⟨a0', a1', -⟩ := pair2 (mvQ HE hB)
        refine hK.out _ _ ?_ (fun hHeld => ?_)
        · (first | (repeat' (first | with_reducible assumption | with_reducible exact Gk.refl _ _ | with_reducible refine Gk.drew ?_ | with_reducible refine Gk.set ?_ _ _ | with_reducible refine Gk.alloc ?_ _ | with_reducible refine Gk.call ?_ (by assumption))) | (first | with_reducible assumption | (with_reducible refine Below.drew ?_; with_reducible assumption) | (with_reducible refine ba _ _ ?_; with_reducible assumption) | (with_reducible refine Below.drew ?_; with_reducible refine ba _ _ ?_; with_reducible assumption) | exact Below.refl _ _ | exact (Below.refl _ _).drew | exact (Below.refl _ _).alloc (Nat.le_refl _) _ | (refine bc _ _ (by assumption) (by assumption))))
        clear hK K
        refine RegOk.put_ (m' := 511) (by kernel_rfl) ?_
        try simp only [Act.put, List.setIfInBounds_toArray, List.set_cons_zero, List.set_cons_succ]
        refine hR.come (rs := [9]) (by kernel_rfl) (by simp) ?_
        refine AllReadyH.cons (o := ?o95_9) ?h95_9 (fun K hK => ?kw95_9) AllReadyH.nil
        case h95_9 => simp only [List.getElem?_toArray, List.getElem?_cons_succ, List.getElem?_cons_zero]; rfl
        go_simp
        go_at_call 9; (with_reducible refine (addN (x := q) (y := x.mul y) rfl rfl HP.out HT.out HR.out HS.out _).mono ?_); rintro e wC ⟨rfl, hbC⟩; have hC := hB.trans (hbC.mono hB.size); have gC : Gk go wr wC := Gk.ofBelow hC; have RB := mvQ HE hC; obtain ⟨b0, b1', lb⟩ := pair2 RB; have fb := frzX RB
        refine hK.out _ _ ?_ (fun hHeld => ?_)
        · (first | (repeat' (first | with_reducible assumption | with_reducible exact Gk.refl _ _ | with_reducible refine Gk.drew ?_ | with_reducible refine Gk.set ?_ _ _ | with_reducible refine Gk.alloc ?_ _ | with_reducible refine Gk.call ?_ (by assumption))) | (first | with_reducible assumption | (with_reducible refine Below.drew ?_; with_reducible assumption) | (with_reducible refine ba _ _ ?_; with_reducible assumption) | (with_reducible refine Below.drew ?_; with_reducible refine ba _ _ ?_; with_reducible assumption) | exact Below.refl _ _ | exact (Below.refl _ _).drew | exact (Below.refl _ _).alloc (Nat.le_refl _) _ | (refine bc _ _ (by assumption) (by assumption))))
        clear hK K
        refine RegOk.put_ (m' := 1023) (by kernel_rfl) ?_
        try simp only [Act.put, List.setIfInBounds_toArray, List.set_cons_zero, List.set_cons_succ]
        refine hR.come (rs := [10]) (by kernel_rfl) (by simp) ?_
        refine AllReadyH.cons (o := ?o96_10) ?h96_10 (fun K hK => ?kw96_10) AllReadyH.nil
        case h96_10 => simp only [List.getElem?_toArray, List.getElem?_cons_succ, List.getElem?_cons_zero]; rfl
        go_simp <;> (try go_wp2_with fail)
        refine hK.out _ _ ?_ (fun hHeld => ?_)
        · (first | (repeat' (first | with_reducible assumption | with_reducible exact Gk.refl _ _ | with_reducible refine Gk.drew ?_ | with_reducible refine Gk.set ?_ _ _ | with_reducible refine Gk.alloc ?_ _ | with_reducible refine Gk.call ?_ (by assumption))) | (first | with_reducible assumption | (with_reducible refine Below.drew ?_; with_reducible assumption) | (with_reducible refine ba _ _ ?_; with_reducible assumption) | (with_reducible refine Below.drew ?_; with_reducible refine ba _ _ ?_; with_reducible assumption) | exact Below.refl _ _ | exact (Below.refl _ _).drew | exact (Below.refl _ _).alloc (Nat.le_refl _) _ | (refine bc _ _ (by assumption) (by assumption))))
        clear hK K
        refine RegOk.put_ (m' := 2047) (by kernel_rfl) ?_
        try simp only [Act.put, List.setIfInBounds_toArray, List.set_cons_zero, List.set_cons_succ]
        refine hR.all (by kernel_rfl) ?_ _
        refine NoPanic.normal ?_
        go_wp2_with fail
        go_roundw
        case rel =>
          refine ⟨j + 1, by omega, by go_num, Lib.hid (Gk.below (w := wr) (k := go) ?_ HBr.out (by omega) HBr.out.size), Lib.hid (Gk.row (k := go) (w := wr) ?_ HZ.out (by omega)), Lib.hid (by rw [HST.out, HR.out, HS.out]; exact setpair RB.out)⟩
          · (repeat' (first | with_reducible assumption | with_reducible exact Gk.refl _ _ | with_reducible refine Gk.drew ?_ | with_reducible refine Gk.set ?_ _ _ | with_reducible refine Gk.alloc ?_ _ | with_reducible refine Gk.call ?_ (by assumption)))
          · (repeat' (first | with_reducible assumption | with_reducible exact Gk.refl _ _ | with_reducible refine Gk.drew ?_ | with_reducible refine Gk.set ?_ _ _ | with_reducible refine Gk.alloc ?_ _ | with_reducible refine Gk.call ?_ (by assumption)))
        case measure => simp [intOf]; omega
      case kw92_7 =>
        go_simp
        go_at_call 11; (with_reducible refine (eqIP (i := j) (ps := ps) _ hj20 HNP.out hp ((KS.out.keep (Below.agree HBr.out)).drew) HY1.out HY2.out).mono ?_); rintro e wA ⟨rfl, hbA⟩; have hA : Below wr.heap.size wr wA := (Below.refl _ _).drew.trans hbA; have gA : Gk go wr wA := Gk.ofBelow hA; obtain ⟨a0, a1, -⟩ := pair2 (mvQ HE hA)
        refine hK.out _ _ ?_ (fun hHeld => ?_)
        · (first | (repeat' (first | with_reducible assumption | with_reducible exact Gk.refl _ _ | with_reducible refine Gk.drew ?_ | with_reducible refine Gk.set ?_ _ _ | with_reducible refine Gk.alloc ?_ _ | with_reducible refine Gk.call ?_ (by assumption))) | (first | with_reducible assumption | (with_reducible refine Below.drew ?_; with_reducible assumption) | (with_reducible refine ba _ _ ?_; with_reducible assumption) | (with_reducible refine Below.drew ?_; with_reducible refine ba _ _ ?_; with_reducible assumption) | exact Below.refl _ _ | exact (Below.refl _ _).drew | exact (Below.refl _ _).alloc (Nat.le_refl _) _ | (refine bc _ _ (by assumption) (by assumption))))
        clear hK K
        refine RegOk.put_ (m' := 254) (by kernel_rfl) ?_
        try simp only [Act.put, List.setIfInBounds_toArray, List.set_cons_zero, List.set_cons_succ]
        refine hR.come (rs := [0, 8]) (by kernel_rfl) (by simp) ?_
        refine AllReadyH.cons (o := ?o97_0) ?h97_0 (fun K hK => ?kw97_0) (AllReadyH.cons (o := ?o97_8) ?h97_8 (fun K hK => ?kw97_8) AllReadyH.nil)
        case h97_0 => simp only [List.getElem?_toArray, List.getElem?_cons_succ, List.getElem?_cons_zero]; rfl
        case h97_8 => simp only [List.getElem?_toArray, List.getElem?_cons_succ, List.getElem?_cons_zero]; rfl
        case kw97_0 =>
          go_simp <;> (try go_wp2_with fail)
          refine hK.out _ _ ?_ (fun hHeld => ?_)
          · (first | (repeat' (first | with_reducible assumption | with_reducible exact Gk.refl _ _ | with_reducible refine Gk.drew ?_ | with_reducible refine Gk.set ?_ _ _ | with_reducible refine Gk.alloc ?_ _ | with_reducible refine Gk.call ?_ (by assumption))) | (first | with_reducible assumption | (with_reducible refine Below.drew ?_; with_reducible assumption) | (with_reducible refine ba _ _ ?_; with_reducible assumption) | (with_reducible refine Below.drew ?_; with_reducible refine ba _ _ ?_; with_reducible assumption) | exact Below.refl _ _ | exact (Below.refl _ _).drew | exact (Below.refl _ _).alloc (Nat.le_refl _) _ | (refine bc _ _ (by assumption) (by assumption))))
          clear hK K
          refine RegOk.put_ (m' := 255) (by kernel_rfl) ?_
          try simp only [Act.put, List.setIfInBounds_toArray, List.set_cons_zero, List.set_cons_succ]
          refine hR.come (rs := [8]) (by kernel_rfl) (by simp) ?_
          refine AllReadyH.cons (o := ?o98_8) ?h98_8 (fun K hK => ?kw98_8) AllReadyH.nil
          case h98_8 => simp only [List.getElem?_toArray, List.getElem?_cons_succ, List.getElem?_cons_zero]; rfl
          go_simp
          go_at_call 10; (with_reducible refine (mulN (x := x) (y := y) rfl rfl HM.out HN.out HP.out HT.out _).mono ?_); rintro e wB ⟨rfl, hbB⟩; have hB := hA.trans (hbB.mono hA.size); have gB : Gk go wr wB := Gk.ofBelow hB; obtain ⟨a0', a1', -⟩ := pair2 (mvQ HE hB)
          refine hK.out _ _ ?_ (fun hHeld => ?_)
          · (first | (repeat' (first | with_reducible assumption | with_reducible exact Gk.refl _ _ | with_reducible refine Gk.drew ?_ | with_reducible refine Gk.set ?_ _ _ | with_reducible refine Gk.alloc ?_ _ | with_reducible refine Gk.call ?_ (by assumption))) | (first | with_reducible assumption | (with_reducible refine Below.drew ?_; with_reducible assumption) | (with_reducible refine ba _ _ ?_; with_reducible assumption) | (with_reducible refine Below.drew ?_; with_reducible refine ba _ _ ?_; with_reducible assumption) | exact Below.refl _ _ | exact (Below.refl _ _).drew | exact (Below.refl _ _).alloc (Nat.le_refl _) _ | (refine bc _ _ (by assumption) (by assumption))))
          clear hK K
          refine RegOk.put_ (m' := 511) (by kernel_rfl) ?_
          try simp only [Act.put, List.setIfInBounds_toArray, List.set_cons_zero, List.set_cons_succ]
          refine hR.come (rs := [9]) (by kernel_rfl) (by simp) ?_
          refine AllReadyH.cons (o := ?o99_9) ?h99_9 (fun K hK => ?kw99_9) AllReadyH.nil
          case h99_9 => simp only [List.getElem?_toArray, List.getElem?_cons_succ, List.getElem?_cons_zero]; rfl
          go_simp
          go_at_call 9; (with_reducible refine (addN (x := q) (y := x.mul y) rfl rfl HP.out HT.out HR.out HS.out _).mono ?_); rintro e wC ⟨rfl, hbC⟩; have hC := hB.trans (hbC.mono hB.size); have gC : Gk go wr wC := Gk.ofBelow hC; have RB := mvQ HE hC; obtain ⟨b0, b1', lb⟩ := pair2 RB; have fb := frzX RB
          refine hK.out _ _ ?_ (fun hHeld => ?_)
          · (first | (repeat' (first | with_reducible assumption | with_reducible exact Gk.refl _ _ | with_reducible refine Gk.drew ?_ | with_reducible refine Gk.set ?_ _ _ | with_reducible refine Gk.alloc ?_ _ | with_reducible refine Gk.call ?_ (by assumption))) | (first | with_reducible assumption | (with_reducible refine Below.drew ?_; with_reducible assumption) | (with_reducible refine ba _ _ ?_; with_reducible assumption) | (with_reducible refine Below.drew ?_; with_reducible refine ba _ _ ?_; with_reducible assumption) | exact Below.refl _ _ | exact (Below.refl _ _).drew | exact (Below.refl _ _).alloc (Nat.le_refl _) _ | (refine bc _ _ (by assumption) (by assumption))))
          clear hK K
          refine RegOk.put_ (m' := 1023) (by kernel_rfl) ?_
          try simp only [Act.put, List.setIfInBounds_toArray, List.set_cons_zero, List.set_cons_succ]
          refine hR.come (rs := [10]) (by kernel_rfl) (by simp) ?_
          refine AllReadyH.cons (o := ?o100_10) ?h100_10 (fun K hK => ?kw100_10) AllReadyH.nil
          case h100_10 => simp only [List.getElem?_toArray, List.getElem?_cons_succ, List.getElem?_cons_zero]; rfl
          go_simp <;> (try go_wp2_with fail)
          refine hK.out _ _ ?_ (fun hHeld => ?_)
          · (first | (repeat' (first | with_reducible assumption | with_reducible exact Gk.refl _ _ | with_reducible refine Gk.drew ?_ | with_reducible refine Gk.set ?_ _ _ | with_reducible refine Gk.alloc ?_ _ | with_reducible refine Gk.call ?_ (by assumption))) | (first | with_reducible assumption | (with_reducible refine Below.drew ?_; with_reducible assumption) | (with_reducible refine ba _ _ ?_; with_reducible assumption) | (with_reducible refine Below.drew ?_; with_reducible refine ba _ _ ?_; with_reducible assumption) | exact Below.refl _ _ | exact (Below.refl _ _).drew | exact (Below.refl _ _).alloc (Nat.le_refl _) _ | (refine bc _ _ (by assumption) (by assumption))))
          clear hK K
          refine RegOk.put_ (m' := 2047) (by kernel_rfl) ?_
          try simp only [Act.put, List.setIfInBounds_toArray, List.set_cons_zero, List.set_cons_succ]
          refine hR.all (by kernel_rfl) ?_ _
          refine NoPanic.normal ?_
          go_wp2_with fail
          go_roundw
          case rel =>
            refine ⟨j + 1, by omega, by go_num, Lib.hid (Gk.below (w := wr) (k := go) ?_ HBr.out (by omega) HBr.out.size), Lib.hid (Gk.row (k := go) (w := wr) ?_ HZ.out (by omega)), Lib.hid (by rw [HST.out, HR.out, HS.out]; exact setpair RB.out)⟩
            · (repeat' (first | with_reducible assumption | with_reducible exact Gk.refl _ _ | with_reducible refine Gk.drew ?_ | with_reducible refine Gk.set ?_ _ _ | with_reducible refine Gk.alloc ?_ _ | with_reducible refine Gk.call ?_ (by assumption)))
            · (repeat' (first | with_reducible assumption | with_reducible exact Gk.refl _ _ | with_reducible refine Gk.drew ?_ | with_reducible refine Gk.set ?_ _ _ | with_reducible refine Gk.alloc ?_ _ | with_reducible refine Gk.call ?_ (by assumption)))
          case measure => simp [intOf]; omega
        case kw97_8 =>
          go_simp
          go_at_call 10; (with_reducible refine (mulN (x := x) (y := y) rfl rfl HM.out HN.out HP.out HT.out _).mono ?_); rintro e wB ⟨rfl, hbB⟩; have hB := hA.trans (hbB.mono hA.size); have gB : Gk go wr wB := Gk.ofBelow hB; obtain ⟨a0', a1', -⟩ := pair2 (mvQ HE hB)
          refine hK.out _ _ ?_ (fun hHeld => ?_)
          · (first | (repeat' (first | with_reducible assumption | with_reducible exact Gk.refl _ _ | with_reducible refine Gk.drew ?_ | with_reducible refine Gk.set ?_ _ _ | with_reducible refine Gk.alloc ?_ _ | with_reducible refine Gk.call ?_ (by assumption))) | (first | with_reducible assumption | (with_reducible refine Below.drew ?_; with_reducible assumption) | (with_reducible refine ba _ _ ?_; with_reducible assumption) | (with_reducible refine Below.drew ?_; with_reducible refine ba _ _ ?_; with_reducible assumption) | exact Below.refl _ _ | exact (Below.refl _ _).drew | exact (Below.refl _ _).alloc (Nat.le_refl _) _ | (refine bc _ _ (by assumption) (by assumption))))
          clear hK K
          refine RegOk.put_ (m' := 510) (by kernel_rfl) ?_
          try simp only [Act.put, List.setIfInBounds_toArray, List.set_cons_zero, List.set_cons_succ]
          refine hR.come (rs := [0]) (by kernel_rfl) (by simp) ?_
          refine AllReadyH.cons (o := ?o101_0) ?h101_0 (fun K hK => ?kw101_0) AllReadyH.nil
          case h101_0 => simp only [List.getElem?_toArray, List.getElem?_cons_succ, List.getElem?_cons_zero]; rfl
          go_simp <;> (try go_wp2_with fail)
          refine hK.out _ _ ?_ (fun hHeld => ?_)
          · (first | (repeat' (first | with_reducible assumption | with_reducible exact Gk.refl _ _ | with_reducible refine Gk.drew ?_ | with_reducible refine Gk.set ?_ _ _ | with_reducible refine Gk.alloc ?_ _ | with_reducible refine Gk.call ?_ (by assumption))) | (first | with_reducible assumption | (with_reducible refine Below.drew ?_; with_reducible assumption) | (with_reducible refine ba _ _ ?_; with_reducible assumption) | (with_reducible refine Below.drew ?_; with_reducible refine ba _ _ ?_; with_reducible assumption) | exact Below.refl _ _ | exact (Below.refl _ _).drew | exact (Below.refl _ _).alloc (Nat.le_refl _) _ | (refine bc _ _ (by assumption) (by assumption))))
          clear hK K
          refine RegOk.put_ (m' := 511) (by kernel_rfl) ?_
          try simp only [Act.put, List.setIfInBounds_toArray, List.set_cons_zero, List.set_cons_succ]
          refine hR.come (rs := [9]) (by kernel_rfl) (by simp) ?_
          refine AllReadyH.cons (o := ?o102_9) ?h102_9 (fun K hK => ?kw102_9) AllReadyH.nil
          case h102_9 => simp only [List.getElem?_toArray, List.getElem?_cons_succ, List.getElem?_cons_zero]; rfl
          go_simp
          go_at_call 9; (with_reducible refine (addN (x := q) (y := x.mul y) rfl rfl HP.out HT.out HR.out HS.out _).mono ?_); rintro e wC ⟨rfl, hbC⟩; have hC := hB.trans (hbC.mono hB.size); have gC : Gk go wr wC := Gk.ofBelow hC; have RB := mvQ HE hC; obtain ⟨b0, b1', lb⟩ := pair2 RB; have fb := frzX RB
          refine hK.out _ _ ?_ (fun hHeld => ?_)
          · (first | (repeat' (first | with_reducible assumption | with_reducible exact Gk.refl _ _ | with_reducible refine Gk.drew ?_ | with_reducible refine Gk.set ?_ _ _ | with_reducible refine Gk.alloc ?_ _ | with_reducible refine Gk.call ?_ (by assumption))) | (first | with_reducible assumption | (with_reducible refine Below.drew ?_; with_reducible assumption) | (with_reducible refine ba _ _ ?_; with_reducible assumption) | (with_reducible refine Below.drew ?_; with_reducible refine ba _ _ ?_; with_reducible assumption) | exact Below.refl _ _ | exact (Below.refl _ _).drew | exact (Below.refl _ _).alloc (Nat.le_refl _) _ | (refine bc _ _ (by assumption) (by assumption))))
          clear hK K
          refine RegOk.put_ (m' := 1023) (by kernel_rfl) ?_
          try simp only [Act.put, List.setIfInBounds_toArray, List.set_cons_zero, List.set_cons_succ]
          refine hR.come (rs := [10]) (by kernel_rfl) (by simp) ?_
          refine AllReadyH.cons (o := ?o103_10) ?h103_10 (fun K hK => ?kw103_10) AllReadyH.nil
          case h103_10 => simp only [List.getElem?_toArray, List.getElem?_cons_succ, List.getElem?_cons_zero]; rfl
          go_simp <;> (try go_wp2_with fail)
          refine hK.out _ _ ?_ (fun hHeld => ?_)
          · (first | (repeat' (first | with_reducible assumption | with_reducible exact Gk.refl _ _ | with_reducible refine Gk.drew ?_ | with_reducible refine Gk.set ?_ _ _ | with_reducible refine Gk.alloc ?_ _ | with_reducible refine Gk.call ?_ (by assumption))) | (first | with_reducible assumption | (with_reducible refine Below.drew ?_; with_reducible assumption) | (with_reducible refine ba _ _ ?_; with_reducible assumption) | (with_reducible refine Below.drew ?_; with_reducible refine ba _ _ ?_; with_reducible assumption) | exact Below.refl _ _ | exact (Below.refl _ _).drew | exact (Below.refl _ _).alloc (Nat.le_refl _) _ | (refine bc _ _ (by assumption) (by assumption))))
          clear hK K
          refine RegOk.put_ (m' := 2047) (by kernel_rfl) ?_
          try simp only [Act.put, List.setIfInBounds_toArray, List.set_cons_zero, List.set_cons_succ]
          refine hR.all (by kernel_rfl) ?_ _
          refine NoPanic.normal ?_
          go_wp2_with fail
          go_roundw
          case rel =>
            refine ⟨j + 1, by omega, by go_num, Lib.hid (Gk.below (w := wr) (k := go) ?_ HBr.out (by omega) HBr.out.size), Lib.hid (Gk.row (k := go) (w := wr) ?_ HZ.out (by omega)), Lib.hid (by rw [HST.out, HR.out, HS.out]; exact setpair RB.out)⟩
            · (repeat' (first | with_reducible assumption | with_reducible exact Gk.refl _ _ | with_reducible refine Gk.drew ?_ | with_reducible refine Gk.set ?_ _ _ | with_reducible refine Gk.alloc ?_ _ | with_reducible refine Gk.call ?_ (by assumption)))
            · (repeat' (first | with_reducible assumption | with_reducible exact Gk.refl _ _ | with_reducible refine Gk.drew ?_ | with_reducible refine Gk.set ?_ _ _ | with_reducible refine Gk.alloc ?_ _ | with_reducible refine Gk.call ?_ (by assumption)))
          case measure => simp [intOf]; omega
    · have hj1 : ¬ (j : Int) < (nt : Int) := by omega
      obtain rfl : j = nt := by omega
      obtain ⟨q, hq⟩ : ∃ q, evalTo ts ps j = q := ⟨_, rfl⟩
      rw [hq] at HE
      have HQ := Lib.hid hq
      clear hq
      obtain ⟨r, hr⟩ : ∃ r, q.u % pF = r := ⟨_, rfl⟩
      obtain ⟨s, hs⟩ : ∃ r, q.v % pF = r := ⟨_, rfl⟩
      rw [hr, hs] at HE
      have HR := Lib.hid hr
      have HS := Lib.hid hs
      clear hr hs
      obtain ⟨e0, e1, -⟩ := pair2 HE
      obtain ⟨c0, c1, lc⟩ := pair2 HZ
      have fc := frzX HZ
      have hne : go ≠ w.heap.size := by omega
      go_wp2_with fail
      obtain ⟨t0, t1, -⟩ := pair2 (Lib.hid (setpair (u := .int .u64 r) (v := .int .u64 s) HZ.out))
      refine bodyPost_ret (v := .agg #[.int .u64 r, .int .u64 s]) (by simp [results, Try.results12, go_sem, *]) rfl ⟨by rw [HQ.out, HR.out, HS.out], ?_⟩
      have hb := HBr.out
      exact (by repeat' (first | with_reducible exact Below.refl _ _ | with_reducible assumption | with_reducible refine Below.setCell ?_ ?_ _ | with_reducible refine Below.drew ?_ | with_reducible refine below_drewN ?_ _ | with_reducible refine Below.alloc ?_ ?_ _ | (rintro _ ⟨⟩; simp <;> omega) | omega | (simp <;> omega)))
def slLenX (v : Value) : Nat := match v with | .slice _ k _ => k | _ => 0
theorem slLenX_slice (A : Option Addr) (k c : Nat) : slLenX (.slice A k c) = k := rfl
/-- Elements as they came in. -/
def Enc.u64r : Enc Int := ⟨1, fun _ _ cs x => cs = [.int .u64 x] ∧ 0 ≤ x, by rintro _ _ _ _ ⟨rfl, _⟩; rfl, fun h _ => h, fun h _ => h, by rintro _ _ _ _ ⟨rfl, _⟩ u hu; simp at hu; subst hu; rfl⟩
def rawX : Enc ZQ := (Enc.u64r.pair Enc.u64r).via fun x => (x.u, x.v)
theorem raw_at {S : Nat → Prop} {w : World} {A : Option Addr} {c i : Nat} {l : List ZQ} {r : ZQ} (h : Sl rawX S w A c l) (hi : l[i]? = some r) :
    ∃ b o, A = some ⟨b, o, none⟩ ∧ S b ∧ b < w.heap.size ∧ (0 ≤ r.u ∧ 0 ≤ r.v) ∧ w.cell? ⟨b, o + i * 2, none⟩ = some (.int .u64 r.u) ∧ w.cell? ⟨b, o + i * 2 + 1, none⟩ = some (.int .u64 r.v) := by
  obtain ⟨b, o, cs, hA, hS, hb, hr, hc⟩ := h.at' hi (by decide)
  obtain ⟨c1, d1, rfl, ⟨rfl, h0⟩, rfl, h1⟩ := hr
  exact ⟨b, o, hA, hS, hb, ⟨h0, h1⟩, hc 0 _ rfl, hc 1 _ rfl⟩
set_option maxRecDepth 100000 in
set_option maxHeartbeats 4000000 in
theorem made3P {l : List ZQ} {A : Option Addr} {c n : Nat} {S : Nat → Prop} (w : World) (hn : n ≤ 1000) (h : Sl rawX S w A c l) :
    Calls Try.prog 35 #[.slice A l.length c, .int .i64 (n : Int)] w fun e w' => ∃ (ys : List ZQ) (A : Option Addr) (k c : Nat), e = .returned (.slice A k c) ∧ ys.length = k ∧ k ≤ n ∧ Own extE (fun _ => False) w' w.heap.size 40 (.slice A k c) ys ∧ Below w.heap.size w w' := by
  have H := Lib.hid h.old
  have hm := h.max
  clear h
  go_enter Try.func35, Try.ntmps35
  go_wp2_with fail
  go_loopw [5, 6] (fun v m wr => ∃ (j : Nat) (ys : List ZQ) (A : Option Addr) (c : Nat), j ≤ l.length ∧ j ≤ n ∧ m = .int .i64 j ∧ v = .slice A j c ∧ Hid (ys.length = j) ∧ Hid (Own extE (fun _ => False) wr w.heap.size 40 (.slice A j c) ys) ∧ Hid (Below w.heap.size w wr)) (fun _ m _ => l.length - (intOf m).toNat)
  case atStart => exact ⟨0, [], _, 0, Nat.zero_le _, Nat.zero_le _, rfl, rfl, Lib.hid rfl, Lib.hid (Own.lit0 _ _ _ _ (Nat.le_refl _)), Lib.hid (by repeat' (first | with_reducible exact Below.refl _ _ | with_reducible assumption | with_reducible refine Below.setCell ?_ ?_ _ | with_reducible refine Below.drew ?_ | with_reducible refine below_drewN ?_ _ | with_reducible refine Below.alloc ?_ ?_ _ | (rintro _ ⟨⟩; simp <;> omega) | omega | (simp <;> omega)))⟩
  case round =>
    obtain ⟨j, ys, A1, c1, hj, hjn, rfl, rfl, HL, HO, HB⟩ := hrel
    have hj0 : (0 : Int) ≤ (j : Int) := by omega
    by_cases hlt : j < l.length
    · have hj1 : (j : Int) < (l.length : Int) := by omega
      by_cases hlt2 : j < n
      · have hj2 : (j : Int) < (n : Int) := by omega
        obtain ⟨x, hx⟩ : ∃ x, l[j]? = some x := ⟨_, List.getElem?_eq_getElem hlt⟩
        obtain ⟨b1, o1, rfl, -, l1, ⟨hx0, hx1⟩, y0, y1⟩ := raw_at (H.out.keep (Below.agree HB.out)) hx
        have lo := HO.out.lt
        have hz := HB.out.size
        clear hx
        go_wp2_with (first
          | (go_at_call 54; refine (madeX x hx0 hx1 _).mono ?_; rintro e wA ⟨rfl, hbA⟩; have hA := Lib.hid hbA; have hzA := hbA.size; clear hbA)
          | (at_builtin; go_must ((refine wpList_append_E (E := extE) (S := fun b => b = wA.heap.size) rfl (.tmp 19) (.tmp 25) rfl extT (base := w.heap.size) (v := .slice A1 j c1) (xs := ys) (ys := [x]) (by rfl) (by rfl) rfl (nz := j + 1) (by rw [List.length_append, HL.out]; rfl) (((HO.out.call hA.out).flat extE_flat).alloc _) (Sl.litAt (S := fun b => b = wA.heap.size) rfl (.single (ext_shut rfl rfl)) (by unfold maxLen; simp) (fun _ h _ => h) rfl) (by unfold maxLen; rw [HL.out]; simp; omega) (by rw [HL.out]; simp; omega) (by simp; omega) (fun g' hg' (hs : g' = wA.heap.size) => by have := (lo g' hg').2; omega) ?_; intro A6 c6 w6 hown6 hg6 hor6))))
        go_roundw
        case rel => exact ⟨j + 1, ys ++ [x], A6, c6, by omega, by omega, by go_num, rfl, Lib.hid (by rw [List.length_append, HL.out]; rfl), Lib.hid (hown6.flat extE_flat), Lib.hid (((HB.out.trans (hA.out.mono HB.out.size)).alloc (by omega) _).grown hg6 (by simp; omega) (fun k hk => (lo k hk).1))⟩
        case measure => simp [intOf]; omega
      · have hj2 : ¬ (j : Int) < (n : Int) := by omega
        go_wp2_with fail
        go_ret
        exact ⟨ys, A1, j, c1, rfl, HL.out, hjn, HO.out, HB.out⟩
    · have hj1 : ¬ (j : Int) < (l.length : Int) := by omega
      go_wp2_with fail
      go_ret
      exact ⟨ys, A1, j, c1, rfl, HL.out, hjn, HO.out, HB.out⟩
set_option maxRecDepth 100000 in
set_option maxHeartbeats 4000000 in
theorem exactP {l : List ZQ} {A : Option Addr} {c n : Nat} {S : Nat → Prop} (w : World) (hn : n ≤ 1000) (h : Sl rawX S w A c l) :
    Calls Try.prog 8 #[.slice A l.length c, .int .i64 (n : Int)] w fun e w' => ∃ (ys : List ZQ) (A : Option Addr) (c : Nat), e = .returned (.slice A n c) ∧ ys.length = n ∧ Sl extE (fun b => w.heap.size ≤ b) w' A c ys ∧ Below w.heap.size w w' := by
  have H := Lib.hid h
  clear h
  go_enter Try.func8, Try.ntmps8
  go_wp2_with (go_at_call 35; refine (made3P _ hn H.out).mono ?_; rintro e w1 ⟨ys0, A0, k0, c0, rfl, hk0, hkn, ho, hb⟩; have HK0 := Lib.hid hk0; have HO0 := Lib.hid ho; have HB0 := Lib.hid hb; clear hk0 ho hb)
  go_loopw [5] (fun v wr => ∃ (j : Nat) (ys : List ZQ) (A : Option Addr) (c : Nat), j ≤ n ∧ v = .slice A j c ∧ Hid (ys.length = j) ∧ Hid (Own extE (fun _ => False) wr w.heap.size 40 (.slice A j c) ys) ∧ Hid (Below w.heap.size w wr)) (fun v _ => n - slLenX v)
  case atStart => exact ⟨k0, ys0, A0, c0, hkn, rfl, HK0, HO0, HB0⟩
  case round =>
    obtain ⟨j, ys, A1, c1, hjn, rfl, HL, HO, HB⟩ := hrel
    have hj0 : (0 : Int) ≤ (j : Int) := by omega
    by_cases hlt : j < n
    · have hj1 : (j : Int) < (n : Int) := by omega
      have lo := HO.out.lt
      have hz := HB.out.size
      go_wp2_with (at_builtin; go_must ((refine wpList_append_E (E := extE) (S := fun b => b = wr.heap.size) rfl (.tmp 13) (.tmp 15) rfl extT (base := w.heap.size) (v := .slice A1 j c1) (xs := ys) (ys := [ZQ.zero]) (by rfl) (by rfl) rfl (nz := j + 1) (by rw [List.length_append, HL.out]; rfl) ((HO.out.flat extE_flat).alloc _) (Sl.litAt (S := fun b => b = wr.heap.size) rfl (.single (ext_shut (a := 0) (b := 0) rfl rfl)) (by unfold maxLen; simp) (fun _ h _ => h) rfl) (by unfold maxLen; rw [HL.out]; simp; omega) (by rw [HL.out]; simp; omega) (by simp; omega) (fun g' hg' (hs : g' = wr.heap.size) => by have := (lo g' hg').2; omega) ?_; intro A6 c6 w6 hown6 hg6 hor6)))
      go_roundw
      case rel => exact ⟨j + 1, ys ++ [ZQ.zero], A6, c6, by omega, rfl, Lib.hid (by rw [List.length_append, HL.out]; rfl), Lib.hid (hown6.flat extE_flat), Lib.hid ((HB.out.alloc (by omega) _).grown hg6 (by simp; omega) (fun k hk => (lo k hk).1))⟩
      case measure => simp only [slLenX_slice]; omega
    · have hj1 : ¬ (j : Int) < (n : Int) := by omega
      obtain rfl : j = n := by omega
      go_wp2_with fail
      go_ret
      exact ⟨ys, A1, c1, rfl, HL.out, HO.out.flatSl extE_flat (fun _ h => h), HB.out⟩
end Go.Proofs.Ytpdblgchfkcgpaa
namespace Go.Proofs.Ytpdblgchfkcgpaa
open Go.RowKit

namespace ZQ
theorem ext_ {x y : ZQ} (h1 : x.u = y.u) (h2 : x.v = y.v) : x = y := by cases x; cases y; simp_all
theorem add_assoc (x y z : ZQ) : (x.add y).add z = x.add (y.add z) := ext_ (Int.add_assoc _ _ _) (Int.add_assoc _ _ _)
theorem add_comm (x y : ZQ) : x.add y = y.add x := ext_ (Int.add_comm _ _) (Int.add_comm _ _)
theorem zero_add (x : ZQ) : zero.add x = x := ext_ (Int.zero_add _) (Int.zero_add _)
theorem add_zero (x : ZQ) : x.add zero = x := ext_ (Int.add_zero _) (Int.add_zero _)
theorem mul_comm (x y : ZQ) : x.mul y = y.mul x := by
  apply ext_ <;> simp only [mul]
  · rw [Int.mul_comm x.u, Int.mul_comm x.v]
  · rw [Int.mul_comm x.u, Int.mul_comm x.v, Int.add_comm]
theorem mul_assoc (x y z : ZQ) : (x.mul y).mul z = x.mul (y.mul z) := by
  apply ext_ <;> simp only [mul] <;> grind
theorem mul_add (x y z : ZQ) : x.mul (y.add z) = (x.mul y).add (x.mul z) := by
  apply ext_ <;> simp only [mul, add] <;> grind
theorem one_mul (x : ZQ) : one.mul x = x := by
  apply ext_ <;> simp only [mul, one] <;> omega
theorem mul_zero (x : ZQ) : x.mul zero = zero := by
  apply ext_ <;> simp only [mul, zero] <;> omega
theorem mul_left_comm (x y z : ZQ) : x.mul (y.mul z) = y.mul (x.mul z) := by rw [← mul_assoc, mul_comm x y, mul_assoc]
end ZQ
def sumQ (f : Nat → ZQ) : Nat → ZQ
  | 0 => ZQ.zero
  | n + 1 => (sumQ f n).add (f n)
theorem sumQ_congr {f g : Nat → ZQ} : ∀ {n : Nat}, (∀ i, i < n → f i = g i) → sumQ f n = sumQ g n
  | 0, _ => rfl
  | n + 1, h => by simp only [sumQ]; rw [sumQ_congr fun i hi => h i (by omega), h n (by omega)]
theorem sumQ_split (f : Nat → ZQ) (n : Nat) : ∀ m, sumQ f (n + m) = (sumQ f n).add (sumQ (fun k => f (n + k)) m)
  | 0 => by simp only [sumQ, Nat.add_zero]; rw [ZQ.add_zero]
  | m + 1 => by rw [← Nat.add_assoc]; simp only [sumQ]; rw [sumQ_split f n m, ZQ.add_assoc]
theorem sumQ_rows (f : Nat → ZQ) (n : Nat) : ∀ m, sumQ f (n * m) = sumQ (fun r => sumQ (fun k => f (k + n * r)) n) m
  | 0 => rfl
  | m + 1 => by
    rw [Nat.mul_succ, sumQ_split, sumQ_rows f n m]
    simp only [sumQ]
    congr 1
    exact sumQ_congr fun k _ => by rw [Nat.add_comm]
theorem sumQ_zero : ∀ n, sumQ (fun _ => ZQ.zero) n = ZQ.zero
  | 0 => rfl
  | n + 1 => by simp only [sumQ]; rw [sumQ_zero n, ZQ.add_zero]
theorem sumQ_add (f g : Nat → ZQ) : ∀ n, sumQ (fun i => (f i).add (g i)) n = (sumQ f n).add (sumQ g n)
  | 0 => by simp only [sumQ]; rw [ZQ.add_zero]
  | n + 1 => by
    simp only [sumQ]
    rw [sumQ_add f g n, ZQ.add_assoc, ZQ.add_assoc]
    congr 1
    rw [← ZQ.add_assoc, ← ZQ.add_assoc, ZQ.add_comm (sumQ g n)]
theorem sumQ_mul (x : ZQ) (f : Nat → ZQ) : ∀ n, sumQ (fun i => x.mul (f i)) n = x.mul (sumQ f n)
  | 0 => by simp only [sumQ]; rw [ZQ.mul_zero]
  | n + 1 => by simp only [sumQ]; rw [sumQ_mul x f n, ZQ.mul_add]
theorem sumQ_swap (f : Nat → Nat → ZQ) (m : Nat) : ∀ n, sumQ (fun r => sumQ (fun k => f r k) m) n = sumQ (fun k => sumQ (fun r => f r k) n) m
  | 0 => by simp only [sumQ]; rw [sumQ_zero]
  | n + 1 => by
    simp only [sumQ]
    rw [sumQ_swap f m n, ← sumQ_add]
theorem evalTo_sum (ts ps : List ZQ) : ∀ n, evalTo ts ps n = sumQ (fun i => (ts.getD i ZQ.zero).mul (eqI i ps)) n
  | 0 => rfl
  | n + 1 => by simp only [evalTo, sumQ]; rw [evalTo_sum ts ps n]
def qN (n : Int) : ZQ := ⟨n, 0⟩
theorem liftF_get (l : List Int) (i : Nat) : (liftF l).getD i ZQ.zero = qN (l.getD i 0) := by
  unfold liftF qN
  rw [List.getD_eq_getElem?_getD, List.getD_eq_getElem?_getD, List.getElem?_map]
  cases l[i]? <;> rfl
/-! The table's entries. -/
theorem fill8_get {c : Nat} (hc : c < 8) (col out : List Int) : ∀ (k p : Nat), k ≤ 8 → out.length = 64 → p < 64 → (fillTo 8 c col out k).getD p 0 = if p % 8 = c ∧ p / 8 < k then col.getD (p / 8) 0 else out.getD p 0
  | 0, p, _, _, _ => by rw [if_neg (by omega)]; rfl
  | k + 1, p, hk, ho, hp => by
    rw [fillTo_succ, List.getD_eq_getElem?_getD, List.getElem?_set]
    have hl := fillTo_len 8 c col out k
    by_cases e : c + 8 * k = p
    · rw [if_pos e, if_pos (by rw [hl, ho]; omega), if_pos (by omega), show p / 8 = k by omega]
      rfl
    · rw [if_neg e, ← List.getD_eq_getElem?_getD, fill8_get hc col out k p (by omega) ho hp]
      by_cases h : p % 8 = c ∧ p / 8 < k
      · rw [if_pos h, if_pos (by omega)]
      · rw [if_neg h, if_neg (by omega)]
theorem tab8_get (cols : List (List Int)) : ∀ (k p : Nat), k ≤ 8 → p < 64 → (tabTo 8 8 cols k).getD p 0 = if p % 8 < k then (cols.getD (p % 8) []).getD (p / 8) 0 else 0
  | 0, p, _, hp => by
    rw [if_neg (by omega)]
    show (List.replicate 64 (0 : Int)).getD p 0 = 0
    rw [List.getD_eq_getElem?_getD, List.getElem?_replicate, if_pos hp]; rfl
  | k + 1, p, hk, hp => by
    rw [tabTo_succ, fill8_get (by omega) _ _ 8 p (by omega) (tabTo_len 8 8 cols k) hp, tab8_get cols k p (by omega) hp]
    by_cases e : p % 8 = k
    · rw [if_pos (by omega), if_pos (by omega), e]
    · rw [if_neg (by omega)]
      by_cases h : p % 8 < k
      · rw [if_pos h, if_pos (by omega)]
      · rw [if_neg h, if_neg (by omega)]
theorem tab8_all {cols : List (List Int)} (h5 : cols.length = 5) {k r : Nat} (hk : k < 8) (hr : r < 8) : (tabTo 8 8 cols 5).getD (k + 8 * r) 0 = (cols.getD k []).getD r 0 := by
  rw [tab8_get cols 5 _ (by omega) (by omega), show (k + 8 * r) % 8 = k by omega, show (k + 8 * r) / 8 = r by omega]
  by_cases h : k < 5
  · rw [if_pos h]
  · rw [if_neg h, List.getD_eq_getElem?_getD (l := cols), List.getElem?_eq_none (by omega)]; rfl
/-! The equality polynomial of a joined index. -/
theorem bit_lo {k r j : Nat} (hk : k < 8) (hj : j < 3) : (k + 8 * r) / 2 ^ j % 2 = k / 2 ^ j % 2 := by
  rcases (by omega : j = 0 ∨ j = 1 ∨ j = 2) with rfl | rfl | rfl <;> simp <;> omega
theorem bit_hi {k r j : Nat} (hk : k < 8) (hj : j < 3) : (k + 8 * r) / 2 ^ (3 + j) % 2 = r / 2 ^ j % 2 := by
  rcases (by omega : j = 0 ∨ j = 1 ∨ j = 2) with rfl | rfl | rfl <;> simp <;> omega
theorem eq_join {k r : Nat} (hk : k < 8) {ps : List ZQ} (h6 : ps.length = 6) : eqI (k + 8 * r) ps = (eqI k (ps.take 3)).mul (eqI r (ps.drop 3)) := by
  match ps, h6 with
  | [a, b, c, d, e, f], _ =>
    have l0 := bit_lo (r := r) hk (j := 0) (by omega)
    have l1 := bit_lo (r := r) hk (j := 1) (by omega)
    have l2 := bit_lo (r := r) hk (j := 2) (by omega)
    have h0 := bit_hi (r := r) hk (j := 0) (by omega)
    have h1 := bit_hi (r := r) hk (j := 1) (by omega)
    have h2 := bit_hi (r := r) hk (j := 2) (by omega)
    show eqTo (vertF (k + 8 * r) 6) [a, b, c, d, e, f] 6 = (eqTo (vertF k 3) [a, b, c] 3).mul (eqTo (vertF r 3) [d, e, f] 3)
    have e1 : vertF (k + 8 * r) 6 = [qN ((k / 2 ^ 0 % 2 : Nat) : Int), qN ((k / 2 ^ 1 % 2 : Nat) : Int), qN ((k / 2 ^ 2 % 2 : Nat) : Int), qN ((r / 2 ^ 0 % 2 : Nat) : Int), qN ((r / 2 ^ 1 % 2 : Nat) : Int), qN ((r / 2 ^ 2 % 2 : Nat) : Int)] := by
      rw [← l0, ← l1, ← l2, ← h0, ← h1, ← h2]; rfl
    have e2 : vertF k 3 = [qN ((k / 2 ^ 0 % 2 : Nat) : Int), qN ((k / 2 ^ 1 % 2 : Nat) : Int), qN ((k / 2 ^ 2 % 2 : Nat) : Int)] := rfl
    have e3 : vertF r 3 = [qN ((r / 2 ^ 0 % 2 : Nat) : Int), qN ((r / 2 ^ 1 % 2 : Nat) : Int), qN ((r / 2 ^ 2 % 2 : Nat) : Int)] := rfl
    rw [e1, e2, e3]
    simp only [eqTo, List.getD_cons_zero, List.getD_cons_succ, ZQ.one_mul, ZQ.mul_assoc]
/-- The extension of the joined table is the sum over its columns. -/
theorem table_ext {cols : List (List Int)} (h5 : cols.length = 5) {ps : List ZQ} (h6 : ps.length = 6) :
    evalTo (liftF (tabTo 8 8 cols 5)) ps 64 = sumQ (fun k => (eqI k (ps.take 3)).mul (evalTo (liftF (cols.getD k [])) (ps.drop 3) 8)) 5 := by
  have big : evalTo (liftF (tabTo 8 8 cols 5)) ps 64 = sumQ (fun k => (eqI k (ps.take 3)).mul (evalTo (liftF (cols.getD k [])) (ps.drop 3) 8)) 8 := by
    rw [evalTo_sum, show 64 = 8 * 8 from rfl, sumQ_rows]
    rw [sumQ_congr (g := fun r => sumQ (fun k => (eqI k (ps.take 3)).mul ((qN ((cols.getD k []).getD r 0)).mul (eqI r (ps.drop 3)))) 8) fun r hr => sumQ_congr fun k hk => by
      rw [liftF_get, tab8_all h5 hk hr, eq_join hk h6, ZQ.mul_left_comm]]
    rw [sumQ_swap]
    refine sumQ_congr fun k _ => ?_
    rw [sumQ_mul, evalTo_sum]
    congr 1
    exact sumQ_congr fun r _ => by rw [liftF_get]
  have tail : ∀ k, 5 ≤ k → (eqI k (ps.take 3)).mul (evalTo (liftF (cols.getD k [])) (ps.drop 3) 8) = ZQ.zero := fun k hk => by
    have e : cols.getD k [] = [] := by rw [List.getD_eq_getElem?_getD, List.getElem?_eq_none (by omega)]; rfl
    rw [e, evalTo_sum, sumQ_congr (g := fun _ => ZQ.zero) fun r _ => by
      rw [liftF_get, ZQ.mul_comm]; exact ZQ.mul_zero _, sumQ_zero, ZQ.mul_zero]
  rw [big, show 8 = 5 + 3 from rfl, sumQ_split, sumQ_congr (n := 3) (g := fun _ => ZQ.zero) fun r _ => tail _ (by omega), sumQ_zero, ZQ.add_zero]
end Go.Proofs.Ytpdblgchfkcgpaa
