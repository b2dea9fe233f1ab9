/-
  The law 'EvalPairsAreCounted', walked: it returns true for every input, and nothing that existed changes. No condition.
-/
import Derived.Lib.Mul64
import Derived.Laws.Bits64b
import Derived.Shelf.Bits.Mul64
import Derived.Test.YtmkpaolbejlodaaDoorC1
import Derived.Test.YtmkpaolbejlodaaDoorC2
import Derived.Test.YtmkpaolbejlodaaDoorC3
import Derived.Test.YtmkpaolbejlodaaDoorC4
import Derived.Test.YtmkpaolbejlodaaDoorC5
import Derived.Test.YtmkpaolbejlodaaDoorC6
import Derived.Test.YtmkpaolbejlodaaDoorC7
import Derived.Test.YtmkpaolbejlodaaDoorC8
import Derived.Test.YtmkpaolbejlodaaDoorC9
import Derived.Test.YtmkpaolbejlodaaDoorC10
import Derived.Test.YtmkpaolbejlodaaDoorC11
import Derived.Test.YtmkpaolbejlodaaDoorC12
import Derived.Test.YtmkpaolbejlodaaDoorC13
import Derived.Test.YtmkpaolbejlodaaDoorC14
import Derived.Test.YtmkpaolbejlodaaDoorC15
set_option linter.unusedSimpArgs false
set_option linter.unusedVariables false
namespace Go.Proofs.YtmkpaolbejlodaaDoor
open Go.RowKit

theorem sums_at {q : Qy} {s : Str} {xs : List Int} {n v : Nat} (h : sumsF q (liveF s) = xs) (hn : xs.length = n) (hv : v < n) : xs[v]? = some (totalF q (liveF s) v) := by
  subst h
  exact sumsF_get (by rw [← sumsF_len q (liveF s), hn]; exact hv)
theorem sums_len2 {q : Qy} {s : Str} {xs : List Int} {n : Nat} (h : sumsF q (liveF s) = xs) (hn : nSums q = n) : xs.length = n := by rw [← h, sumsF_len, hn]
theorem row_step {a b : List Cd} {x y : Rd} {l : List Rd} {k : Nat} (h : l[k]? = some y) : rowN a b x (l.take (k + 1)) = rowN a b x (l.take k) + if pairB a b x y then 1 else 0 := by
  unfold rowN
  rw [take_snocR h, List.map_append, List.map_singleton, sum_snoc]
theorem pair_step {a b : List Cd} {x : Rd} {m l : List Rd} {k : Nat} (h : m[k]? = some x) : pairN a b (m.take (k + 1)) l = pairN a b (m.take k) l + rowN a b x l := by
  unfold pairN
  rw [take_snocR h, List.map_append, List.map_singleton, sum_snoc]
theorem row_bd (a b : List Cd) (x : Rd) : ∀ l : List Rd, 0 ≤ rowN a b x l ∧ rowN a b x l ≤ l.length
  | [] => by simp [rowN]
  | y :: l => by
    have h := row_bd a b x l
    have e : rowN a b x (y :: l) = (if pairB a b x y then 1 else 0) + rowN a b x l := by simp [rowN]
    rw [e, List.length_cons]
    split <;> omega
theorem pair_bd (a b : List Cd) {l : List Rd} (hl : l.length ≤ 1000) : ∀ m : List Rd, 0 ≤ pairN a b m l ∧ pairN a b m l ≤ m.length * 1000
  | [] => by simp [pairN]
  | x :: m => by
    have h := pair_bd a b hl m
    have h2 := row_bd a b x l
    have e : pairN a b (x :: m) l = rowN a b x l + pairN a b m l := by simp [pairN]
    rw [e, List.length_cons]
    omega
def evL5 : List FRow := [(0, ([], (38, [11]))), (1, ([], (39, [12]))), (2, ([0, 1], (40, [37, 38]))), (3, ([2], (41, [39]))), (4, ([3], (42, [40]))), (5, ([], (43, [11]))), (6, ([], (44, [13]))), (7, ([5, 6], (45, [42, 43]))), (8, ([7], (46, [44]))), (9, ([8], (47, [45]))), (10, ([4, 9], (48, [41, 46]))), (11, ([10], (49, [47]))), (12, ([11], (50, [9, 48]))), (13, ([12, 11], (51, [49, 48]))), (14, ([13, 11], (52, [50, 48]))), (15, ([14, 11], (53, [51, 48]))), (16, ([11], (54, [11, 48]))), (17, ([11], (55, [12, 48]))), (18, ([16, 17, 11], (56, [53, 54, 48]))), (19, ([18, 11], (57, [55, 48]))), (20, ([15, 19, 11, 11], (58, [52, 56, 48]))), (21, ([11, 20], (59, [48, 57]))), (22, ([21, 20], (60, [58]))), (23, ([22], (61, [9, 59]))), (24, ([23, 22], (62, [60, 59]))), (25, ([24, 22], (63, [61, 59]))), (26, ([25, 22], (64, [62, 59]))), (27, ([22], (65, [11, 59]))), (28, ([22], (66, [13, 59]))), (29, ([27, 28, 22], (67, [64, 65, 59]))), (30, ([29, 22], (68, [66, 59]))), (31, ([26, 30, 22, 22], (69, [63, 67, 59]))), (32, ([22, 31], (70, [59, 68])))]
set_option maxRecDepth 100000 in
set_option maxHeartbeats 8000000 in
theorem walk_EvalPairsAreCounted {l : List ROp} {fa fb : List Cd} {A B L : Option Addr} {c d cl : Nat} (w : World) (h : Sl cdE (fun _ => True) w A c fa) (k : Sl cdE (fun _ => True) w B d fb) (hl : Sl ropE (fun _ => True) w L cl l) :
    Calls Tryd.prog 7 #[.slice A fa.length c, .slice B fb.length d, .slice L l.length cl] w fun e w' => e = .returned (.bool true) ∧ Below w.heap.size w w' := by
  obtain ⟨na, hna⟩ : ∃ n, fa.length = n := ⟨_, rfl⟩
  obtain ⟨nb, hnb⟩ : ∃ n, fb.length = n := ⟨_, rfl⟩
  have HC := Lib.hid h
  have HD := Lib.hid k
  have HL := Lib.hid hl
  have hq63 := h.max
  have hk63 := k.max
  have hl63 := hl.max
  rw [hna] at hq63 ⊢
  rw [hnb] at hk63 ⊢
  have HNA := Lib.hid hna
  have HNB := Lib.hid hnb
  clear h k hl hna hnb
  go_enter Tryd.func7, Tryd.ntmps7
  go_upto_region 1 with fail
  go_upto_region 2 with (go_at_call 10; refine (sanityL15 _).mono ?_; rintro e w2 ⟨rfl, hb2⟩; have b2 := Lib.hid hb2; have HC2 := Lib.hid (HC.out.keep (Below.agree hb2)); have HD2 := Lib.hid (HD.out.keep (Below.agree hb2)); have HL2 := Lib.hid (HL.out.keep (Below.agree hb2)); clear hb2)
  clear HC HD HL
  obtain ⟨s, hs⟩ : ∃ s, madeF 20 l = s := ⟨_, rfl⟩
  have hok := madeF_ok 20 l
  rw [hs] at hok
  have HMSs := Lib.hid hs
  have HOKs := Lib.hid hok.1
  have hls := hok.2
  have hls1000 : s.l.length ≤ 1000 := by omega
  clear hs hok
  go_upto_region 2 with fail
  go_cut [8] (fun p wx => ∃ g, p = .pointer (some ⟨g, 0, none⟩) ∧ StB wx g s s.l.length s.g.length ∧ Below w2.heap.size w2 wx)
  case first =>
    go_wp2_with (go_at_call 12; refine (madeR (most := 20) (l := l) _ HL2.out (by omega)).mono ?_; rw [HMSs.out]; rintro e wC ⟨A', c', B', d', rfl, h1, h2, hbC⟩; have H1 := Lib.hid h1; have H2 := Lib.hid h2; have bC := Lib.hid hbC; clear h1 h2 hbC)
    go_meet
    case rel => exact ⟨_, rfl, ⟨A', c', B', d', heap_alloc_at rfl, (H1.out.alloc_ _).sub (fun _ _ _ => trivial), (H2.out.alloc_ _).sub (fun _ _ _ => trivial)⟩, bC.out.alloc bC.out.size _⟩
  obtain ⟨gs, rfl, hst, hb⟩ := hcut
  obtain ⟨w3, hwv⟩ : ∃ x, x = wc := ⟨_, rfl⟩
  subst hwv
  have Ss := Lib.hid hst
  have b3 := Lib.hid (b2.out.trans (hb.mono b2.out.size))
  replace HC2 := mvI HC2 hb
  replace HD2 := mvI HD2 hb
  clear hst hb b2 HL2
  go_upto_region 3 with fail
  go_cut [9] (fun v wx => ∃ (f1 f2 : List Cd) (g : Nat) (B : Option Addr), v = .pointer (some ⟨g, 0, none⟩) ∧ ValidFlt f1 ∧ ValidFlt f2 ∧ Hid (wx.heap[g]? = some (.cells #[.int .i64 7, .int .i64 0, .int .i64 0, .slice B 2 2] 24 (0, 0))) ∧ Sl cdE.slice (fun _ => True) wx B 2 [f1, f2] ∧ Below w3.heap.size w3 wx)
  case first =>
    go_wp2_with (first
      | (go_at_call 22; ((with_reducible refine (condsN (l := fa) HNA.out _ HC2.out).mono ?_)); rintro e w4 ⟨f1, hv1, A1, c1, rfl, h1, hb1⟩; have HF1 := Lib.hid h1; have HB1 := Lib.hid hb1; have HV1 := Lib.hid hv1; clear h1 hb1 hv1)
      | (go_at_call 22; ((with_reducible refine (condsN (l := fb) HNB.out _ (mvI HD2 HB1.out).out).mono ?_)); rintro e w5 ⟨f2, hv2, A2, c2, rfl, h2, hb2⟩; have HF2 := Lib.hid h2; have HB2 := Lib.hid hb2; have HV2 := Lib.hid hv2; clear h2 hb2 hv2))
    go_meet
    case rel =>
      refine ⟨f1, f2, _, _, rfl, HV1.out, HV2.out, Lib.hid (heap_alloc_at (by simp)), ?_, ?_⟩
      · exact (sl_fs2N (t := 49) rfl rfl (heap_alloc_at rfl) (((mvI HF1 HB2.out).out.alloc_ _).sub (T := fun _ => True) (fun _ _ _ => trivial)) ((HF2.out.alloc_ _).sub (T := fun _ => True) (fun _ _ _ => trivial)) trivial).alloc_ _
      · have h1 := HB1.out.trans (HB2.out.mono HB1.out.size)
        exact (h1.alloc h1.size _).alloc (by have := h1.size; simp; omega) _
  obtain ⟨f1, f2, gq, Bq, rfl, hv1, hv2, gQ, hs, hb⟩ := hcut
  obtain ⟨w4, hwv⟩ : ∃ x, x = wc := ⟨_, rfl⟩
  subst hwv
  have V1 := Lib.hid hv1
  have V2 := Lib.hid hv2
  have VV1 := Lib.hid (show ∀ x ∈ f1, ValidCd x from And.right hv1)
  have VV2 := Lib.hid (show ∀ x ∈ f2, ValidCd x from And.right hv2)
  have FF := Lib.hid hs
  have b4 := Lib.hid (b3.out.trans (hb.mono b3.out.size))
  replace Ss := mvSt Ss hb
  clear hv1 hv2 hs hb b3 HC2 HD2
  obtain ⟨lv, hlv⟩ : ∃ lv, liveF s = lv := ⟨_, rfl⟩
  have HLV := Lib.hid hlv
  have HVL := Lib.hid (show ∀ r ∈ lv, ValidR r by rw [← hlv]; exact live_valid HOKs.out)
  have hn20 : lv.length ≤ 20 := by rw [← hlv]; exact Nat.le_trans (live_len s) hls
  obtain ⟨nv, hnv⟩ : ∃ n, lv.length = n := ⟨_, rfl⟩
  rw [hnv] at hn20
  have HNV := Lib.hid hnv
  clear hlv hnv
  obtain ⟨L, cl, G, cg, hg, hsL, hsG⟩ := Ss.out
  obtain ⟨s0, s1⟩ := two2 (Lib.hid hg)
  have HSL := Lib.hid hsL
  have HSG := Lib.hid hsG
  clear hg hsL hsG
  go_upto_region 5 with fail
  go_cut [11] (fun v wx => ∃ A c, v = .slice A nv c ∧ Sl rdE (fun _ => True) wx A c lv ∧ Below w4.heap.size w4 wx)
  case first =>
    go_wp2_with (go_at_call 25; refine (liveN (s := s) (l := lv) (n := nv) HLV.out HNV.out rfl rfl _ HSL.out HSG.out HOKs.out.len hls1000).mono ?_; rintro e wC ⟨A, c, rfl, h1, hbC⟩; have H1 := Lib.hid h1; have bC := Lib.hid hbC; clear h1 hbC)
    go_meet
    case rel => exact ⟨_, _, rfl, H1.out, bC.out⟩
  obtain ⟨A5, c5, rfl, hs, hb⟩ := hcut
  obtain ⟨w5, hwv⟩ : ∃ x, x = wc := ⟨_, rfl⟩
  subst hwv
  have I5 := Lib.hid hs
  have b5 := Lib.hid (b4.out.trans (hb.mono b4.out.size))
  replace Ss := mvSt Ss hb
  replace FF := mvF FF hb
  replace gQ := mvQ gQ hb
  clear hs hb b4 HSL HSG s0 s1
  obtain ⟨bF, oF, B1, d1, rfl, -, lF, u0, hf1⟩ := flt_at FF.out (i := 0) (r := f1) rfl
  obtain ⟨bF', oF', B2, d2, eF, -, -, u1, hf2⟩ := flt_at FF.out (i := 1) (r := f2) rfl
  obtain ⟨rfl, rfl⟩ : bF = bF' ∧ oF = oF' := by injection eF with h; injection h with h1 h2; exact ⟨h1, h2⟩
  have U0 := Lib.hid u0
  have U1 := Lib.hid u1
  have HF1 := Lib.hid hf1
  have HF2 := Lib.hid hf2
  have lgQ := heap_lt gQ.out
  clear u0 u1 hf1 hf2 eF
  go_wp2_with fail
  go_loopw [10, 12] (fun t i wr => ∃ j : Nat, j ≤ nv ∧ i = .int .i64 j ∧ t = .int .i64 (pairN f1 f2 (lv.take j) lv) ∧ Hid (Below w5.heap.size w5 wr)) (fun _ i _ => nv - (intOf i).toNat)
  case atStart => exact ⟨0, Nat.zero_le _, rfl, by simp [pairN], Lib.hid (Below.refl _ _)⟩
  case round =>
    obtain ⟨j, hj, rfl, ht, hbr⟩ := hrel
    obtain ⟨z, hz⟩ : ∃ z, pairN f1 f2 (lv.take j) lv = z := ⟨_, rfl⟩
    rw [hz] at ht
    subst ht
    have HZ := Lib.hid hz
    have hzb : 0 ≤ z ∧ z ≤ 1000000 := by
      have h1 := pair_bd f1 f2 (l := lv) (by rw [HNV.out]; omega) (lv.take j)
      rw [hz] at h1
      have h2 : (lv.take j).length ≤ j := List.length_take_le _ _
      omega
    clear hz
    have hj0 : (0 : Int) ≤ (j : Int) := by omega
    by_cases hlt : j < nv
    · have hj1 : (j : Int) < (nv : Int) := by omega
      obtain ⟨r, hr⟩ : ∃ r, lv[j]? = some r := ⟨_, List.getElem?_eq_getElem (by rw [HNV.out]; exact hlt)⟩
      have HR := Lib.hid hr
      clear hr
      go_wp2_with fail
      go_loopw [10, 13] (fun t i wx => ∃ k : Nat, k ≤ nv ∧ i = .int .i64 k ∧ t = .int .i64 (z + rowN f1 f2 r (lv.take k)) ∧ Hid (Below w5.heap.size w5 wx)) (fun _ i _ => nv - (intOf i).toNat)
      case atStart => exact ⟨0, Nat.zero_le _, rfl, by simp [rowN], hbr⟩
      case round =>
        obtain ⟨k, hk, rfl, ht, hbx⟩ := hrel
        obtain ⟨y, hy⟩ : ∃ y, z + rowN f1 f2 r (lv.take k) = y := ⟨_, rfl⟩
        rw [hy] at ht
        subst ht
        have HY := Lib.hid hy
        have hyb : 0 ≤ y ∧ y ≤ 2000000 := by
          have h1 := row_bd f1 f2 r (lv.take k)
          have h2 : (lv.take k).length ≤ k := List.length_take_le _ _
          omega
        clear hy
        have hk0 : (0 : Int) ≤ (k : Int) := by omega
        by_cases hkt : k < nv
        · have hk1 : (k : Int) < (nv : Int) := by omega
          obtain ⟨q, hq⟩ : ∃ q, lv[k]? = some q := ⟨_, List.getElem?_eq_getElem (by rw [HNV.out]; exact hkt)⟩
          have hs0 := row_step (a := f1) (b := f2) (x := r) hq
          obtain ⟨b2, o2, rfl, -, l2, x0, x1, x2, x3⟩ := rd_at (mvI I5 hbx.out).out HR.out
          obtain ⟨b2', o2', e2, -, -, y0, y1, y2, y3⟩ := rd_at (mvI I5 hbx.out).out hq
          obtain ⟨rfl, rfl⟩ : b2 = b2' ∧ o2 = o2' := by injection e2 with h; injection h with h1 h2; exact ⟨h1, h2⟩
          have X := Lib.hid (show _ ∧ _ ∧ _ ∧ _ from ⟨x0, x1, x2, x3⟩)
          have Y := Lib.hid (show _ ∧ _ ∧ _ ∧ _ from ⟨y0, y1, y2, y3⟩)
          have zx : ∀ W, Below wr.heap.size wr W → W.cell? ⟨b2, o2 + j * 4, none⟩ = some (.int .i64 r.who) ∧ W.cell? ⟨b2, o2 + j * 4 + 1, none⟩ = some (.int .i64 r.whn) ∧ W.cell? ⟨b2, o2 + j * 4 + 2, none⟩ = some (.int .i64 r.knd) ∧ W.cell? ⟨b2, o2 + j * 4 + 3, none⟩ = some (.int .i64 r.val) := fun W hW => ⟨(hW.cell (p := ⟨b2, o2 + j * 4, none⟩) l2).trans X.out.1, (hW.cell (p := ⟨b2, o2 + j * 4 + 1, none⟩) l2).trans X.out.2.1, (hW.cell (p := ⟨b2, o2 + j * 4 + 2, none⟩) l2).trans X.out.2.2.1, (hW.cell (p := ⟨b2, o2 + j * 4 + 3, none⟩) l2).trans X.out.2.2.2⟩
          have zy : ∀ W, Below wr.heap.size wr W → W.cell? ⟨b2, o2 + k * 4, none⟩ = some (.int .i64 q.who) ∧ W.cell? ⟨b2, o2 + k * 4 + 1, none⟩ = some (.int .i64 q.whn) ∧ W.cell? ⟨b2, o2 + k * 4 + 2, none⟩ = some (.int .i64 q.knd) ∧ W.cell? ⟨b2, o2 + k * 4 + 3, none⟩ = some (.int .i64 q.val) := fun W hW => ⟨(hW.cell (p := ⟨b2, o2 + k * 4, none⟩) l2).trans Y.out.1, (hW.cell (p := ⟨b2, o2 + k * 4 + 1, none⟩) l2).trans Y.out.2.1, (hW.cell (p := ⟨b2, o2 + k * 4 + 2, none⟩) l2).trans Y.out.2.2.1, (hW.cell (p := ⟨b2, o2 + k * 4 + 3, none⟩) l2).trans Y.out.2.2.2⟩
          have g5 := mvQ gQ hbx.out
          have zq : ∀ W, Below wr.heap.size wr W → _ ∧ _ ∧ _ ∧ _ := fun W hW => row4 (mvQ g5 hW)
          have v0 := Lib.hid ((hbx.out.cell (p := ⟨bF, oF + 0, none⟩) lF).trans U0.out)
          have v1 := Lib.hid ((hbx.out.cell (p := ⟨bF, oF + 1, none⟩) lF).trans U1.out)
          have lF2 := Nat.lt_of_lt_of_le lF hbx.out.size
          have zf : ∀ W, Below wr.heap.size wr W → W.cell? ⟨bF, oF + 0, none⟩ = some (.slice B1 f1.length d1) ∧ W.cell? ⟨bF, oF, none⟩ = some (.slice B1 f1.length d1) ∧ W.cell? ⟨bF, oF + 1, none⟩ = some (.slice B2 f2.length d2) := fun W hW => ⟨(hW.cell (p := ⟨bF, oF + 0, none⟩) lF2).trans v0.out, (hW.cell (p := ⟨bF, oF, none⟩) lF2).trans v0.out, (hW.cell (p := ⟨bF, oF + 1, none⟩) lF2).trans v1.out⟩
          have P1 := mvI HF1 hbx.out
          have P2 := mvI HF2 hbx.out
          have HSB := Lib.hid hbx.out
          have HS0 := Lib.hid hs0
          have HQ := Lib.hid hq
          clear x0 x1 x2 x3 y0 y1 y2 y3 e2 hs0 hq
          have br : Below wr.heap.size wr wr := Below.refl _ _
          have ba : ∀ W o, Below wr.heap.size wr W → Below wr.heap.size wr (W.alloc o) := fun W o h => h.alloc h.size o
          have bc : ∀ W W', Below wr.heap.size wr W → Below W.heap.size W W' → Below wr.heap.size wr W' := fun W W' h k => h.trans (k.mono h.size)
          have hyw : IntKind.i64.wrap (y + 1) = y + 1 := IntWalk.i64_in _ (by omega)
          go_upto_region 12 with fail
          by_cases hww : r.who = q.who
          case neg =>
            have e1 : (r.who == q.who) = false := by rw [beq_eq_false_iff_ne]; exact hww
            have PB := Lib.hid (show pairB f1 f2 r q = false by unfold pairB; simp [hww])
            refine wp_region_noPanic ?_
            refine wp_region_held_drew (S := fun X => Below wr.heap.size wr X) (by kernel_rfl) ?_ (fun hHeld => ?_)
            · (first | (repeat' (first | with_reducible assumption | exact Nat.le_refl _ | with_reducible refine Below.drew ?_ | with_reducible refine ba _ _ ?_ | omega | (simp <;> omega))) | (first | with_reducible assumption | (with_reducible refine Below.drew ?_; with_reducible assumption) | (with_reducible refine ba _ _ ?_; with_reducible assumption) | (with_reducible refine Below.drew ?_; with_reducible refine ba _ _ ?_; with_reducible assumption) | exact Below.refl _ _ | exact (Below.refl _ _).drew | exact (Below.refl _ _).alloc (Nat.le_refl _) _ | (refine bc _ _ (by assumption) (by assumption))))
            refine RegOk.begin_ (n := 33) (T := evL5) ⟨by kernel_rfl, by kernel_rfl, by kernel_rfl, by kernel_rfl⟩ fun hR => ?_
            refine hR.take (i := 0) (oi := ?ow746_0) (v := ?vw746_0) (m' := 1) ?hw746_0 (by kernel_rfl) (by kernel_rfl) (fun _ _ _ h => h) (Or.inl ⟨?sw746_0, ?yw746_0⟩) (by assumption) ?nw746_0
            case hw746_0 => simp only [List.getElem?_toArray, List.getElem?_cons_succ, List.getElem?_cons_zero]; rfl
            case sw746_0 => rfl
            case yw746_0 => (intro w hSw; (try dsimp only at hSw); go_simp <;> with_reducible rfl)
            try simp only [Act.put, List.setIfInBounds_toArray, List.set_cons_zero, List.set_cons_succ]
            refine hR.take (i := 1) (oi := ?ow747_1) (v := ?vw747_1) (m' := 3) ?hw747_1 (by kernel_rfl) (by kernel_rfl) (fun _ _ _ h => h) (Or.inl ⟨?sw747_1, ?yw747_1⟩) (by assumption) ?nw747_1
            case hw747_1 => simp only [List.getElem?_toArray, List.getElem?_cons_succ, List.getElem?_cons_zero]; rfl
            case sw747_1 => rfl
            case yw747_1 => (intro w hSw; (try dsimp only at hSw); go_simp <;> with_reducible rfl)
            try simp only [Act.put, List.setIfInBounds_toArray, List.set_cons_zero, List.set_cons_succ]
            refine hR.take (i := 2) (oi := ?ow748_2) (v := ?vw748_2) (m' := 7) ?hw748_2 (by kernel_rfl) (by kernel_rfl) (fun _ _ _ h => h) (Or.inl ⟨?sw748_2, ?yw748_2⟩) (by assumption) ?nw748_2
            case hw748_2 => simp only [List.getElem?_toArray, List.getElem?_cons_succ, List.getElem?_cons_zero]; rfl
            case sw748_2 => rfl
            case yw748_2 => (intro w hSw; (try dsimp only at hSw); go_simp <;> with_reducible rfl)
            try simp only [Act.put, List.setIfInBounds_toArray, List.set_cons_zero, List.set_cons_succ]
            refine hR.take (i := 3) (oi := ?ow749_3) (v := ?vw749_3) (m' := 15) ?hw749_3 (by kernel_rfl) (by kernel_rfl) (fun _ _ _ h => h) (Or.inl ⟨?sw749_3, ?yw749_3⟩) (by assumption) ?nw749_3
            case hw749_3 => simp only [List.getElem?_toArray, List.getElem?_cons_succ, List.getElem?_cons_zero]; rfl
            case sw749_3 => rfl
            case yw749_3 => (intro w hSw; (try dsimp only at hSw); go_simp <;> with_reducible rfl)
            try simp only [Act.put, List.setIfInBounds_toArray, List.set_cons_zero, List.set_cons_succ]
            refine hR.take (i := 4) (oi := ?ow750_4) (v := ?vw750_4) (m' := 31) ?hw750_4 (by kernel_rfl) (by kernel_rfl) (fun _ _ _ h => h) (Or.inl ⟨?sw750_4, ?yw750_4⟩) (by assumption) ?nw750_4
            case hw750_4 => simp only [List.getElem?_toArray, List.getElem?_cons_succ, List.getElem?_cons_zero]; rfl
            case sw750_4 => rfl
            case yw750_4 => (intro w hSw; (try dsimp only at hSw); go_simp <;> with_reducible rfl)
            try simp only [Act.put, List.setIfInBounds_toArray, List.set_cons_zero, List.set_cons_succ]
            refine hR.take (i := 5) (oi := ?ow751_5) (v := ?vw751_5) (m' := 63) ?hw751_5 (by kernel_rfl) (by kernel_rfl) (fun _ _ _ h => h) (Or.inl ⟨?sw751_5, ?yw751_5⟩) (by assumption) ?nw751_5
            case hw751_5 => simp only [List.getElem?_toArray, List.getElem?_cons_succ, List.getElem?_cons_zero]; rfl
            case sw751_5 => rfl
            case yw751_5 => (intro w hSw; (try dsimp only at hSw); go_simp <;> with_reducible rfl)
            try simp only [Act.put, List.setIfInBounds_toArray, List.set_cons_zero, List.set_cons_succ]
            refine hR.take (i := 6) (oi := ?ow752_6) (v := ?vw752_6) (m' := 127) ?hw752_6 (by kernel_rfl) (by kernel_rfl) (fun _ _ _ h => h) (Or.inl ⟨?sw752_6, ?yw752_6⟩) (by assumption) ?nw752_6
            case hw752_6 => simp only [List.getElem?_toArray, List.getElem?_cons_succ, List.getElem?_cons_zero]; rfl
            case sw752_6 => rfl
            case yw752_6 => (intro w hSw; (try dsimp only at hSw); go_simp <;> with_reducible rfl)
            try simp only [Act.put, List.setIfInBounds_toArray, List.set_cons_zero, List.set_cons_succ]
            refine hR.take (i := 7) (oi := ?ow753_7) (v := ?vw753_7) (m' := 255) ?hw753_7 (by kernel_rfl) (by kernel_rfl) (fun _ _ _ h => h) (Or.inl ⟨?sw753_7, ?yw753_7⟩) (by assumption) ?nw753_7
            case hw753_7 => simp only [List.getElem?_toArray, List.getElem?_cons_succ, List.getElem?_cons_zero]; rfl
            case sw753_7 => rfl
            case yw753_7 => (intro w hSw; (try dsimp only at hSw); go_simp <;> with_reducible rfl)
            try simp only [Act.put, List.setIfInBounds_toArray, List.set_cons_zero, List.set_cons_succ]
            refine hR.take (i := 8) (oi := ?ow754_8) (v := ?vw754_8) (m' := 511) ?hw754_8 (by kernel_rfl) (by kernel_rfl) (fun _ _ _ h => h) (Or.inl ⟨?sw754_8, ?yw754_8⟩) (by assumption) ?nw754_8
            case hw754_8 => simp only [List.getElem?_toArray, List.getElem?_cons_succ, List.getElem?_cons_zero]; rfl
            case sw754_8 => rfl
            case yw754_8 => (intro w hSw; (try dsimp only at hSw); go_simp <;> with_reducible rfl)
            try simp only [Act.put, List.setIfInBounds_toArray, List.set_cons_zero, List.set_cons_succ]
            refine hR.take (i := 9) (oi := ?ow755_9) (v := ?vw755_9) (m' := 1023) ?hw755_9 (by kernel_rfl) (by kernel_rfl) (fun _ _ _ h => h) (Or.inl ⟨?sw755_9, ?yw755_9⟩) (by assumption) ?nw755_9
            case hw755_9 => simp only [List.getElem?_toArray, List.getElem?_cons_succ, List.getElem?_cons_zero]; rfl
            case sw755_9 => rfl
            case yw755_9 => (intro w hSw; (try dsimp only at hSw); go_simp <;> with_reducible rfl)
            try simp only [Act.put, List.setIfInBounds_toArray, List.set_cons_zero, List.set_cons_succ]
            refine hR.take (i := 10) (oi := ?ow756_10) (v := ?vw756_10) (m' := 2047) ?hw756_10 (by kernel_rfl) (by kernel_rfl) (fun _ _ _ h => h) (Or.inl ⟨?sw756_10, ?yw756_10⟩) (by assumption) ?nw756_10
            case hw756_10 => simp only [List.getElem?_toArray, List.getElem?_cons_succ, List.getElem?_cons_zero]; rfl
            case sw756_10 => rfl
            case yw756_10 => (intro w hSw; (try dsimp only at hSw); go_simp <;> with_reducible rfl)
            try simp only [Act.put, List.setIfInBounds_toArray, List.set_cons_zero, List.set_cons_succ]
            refine hR.take (i := 11) (oi := ?ow757_11) (v := ?vw757_11) (m' := 4095) ?hw757_11 (by kernel_rfl) (by kernel_rfl) (fun _ _ _ h => h) (Or.inl ⟨?sw757_11, ?yw757_11⟩) (by assumption) ?nw757_11
            case hw757_11 => simp only [List.getElem?_toArray, List.getElem?_cons_succ, List.getElem?_cons_zero]; rfl
            case sw757_11 => rfl
            case yw757_11 => (intro w hSw; (try dsimp only at hSw); go_simp <;> with_reducible rfl)
            try simp only [Act.put, List.setIfInBounds_toArray, List.set_cons_zero, List.set_cons_succ]
            refine hR.take (i := 12) (oi := ?ow758_12) (v := ?vw758_12) (m' := 8191) ?hw758_12 (by kernel_rfl) (by kernel_rfl) (fun _ _ _ h => h) (Or.inr ⟨?sw758_12, ?yw758_12⟩) (by assumption) ?nw758_12
            case hw758_12 => simp only [List.getElem?_toArray, List.getElem?_cons_succ, List.getElem?_cons_zero]; rfl
            case sw758_12 => rfl
            case yw758_12 => rfl
            try simp only [Act.put, List.setIfInBounds_toArray, List.set_cons_zero, List.set_cons_succ]
            refine hR.take (i := 13) (oi := ?ow759_13) (v := ?vw759_13) (m' := 16383) ?hw759_13 (by kernel_rfl) (by kernel_rfl) (fun _ _ _ h => h) (Or.inr ⟨?sw759_13, ?yw759_13⟩) (by assumption) ?nw759_13
            case hw759_13 => simp only [List.getElem?_toArray, List.getElem?_cons_succ, List.getElem?_cons_zero]; rfl
            case sw759_13 => rfl
            case yw759_13 => rfl
            try simp only [Act.put, List.setIfInBounds_toArray, List.set_cons_zero, List.set_cons_succ]
            refine hR.take (i := 14) (oi := ?ow760_14) (v := ?vw760_14) (m' := 32767) ?hw760_14 (by kernel_rfl) (by kernel_rfl) (fun _ _ _ h => h) (Or.inr ⟨?sw760_14, ?yw760_14⟩) (by assumption) ?nw760_14
            case hw760_14 => simp only [List.getElem?_toArray, List.getElem?_cons_succ, List.getElem?_cons_zero]; rfl
            case sw760_14 => rfl
            case yw760_14 => rfl
            try simp only [Act.put, List.setIfInBounds_toArray, List.set_cons_zero, List.set_cons_succ]
            refine hR.take (i := 15) (oi := ?ow761_15) (v := ?vw761_15) (m' := 65535) ?hw761_15 (by kernel_rfl) (by kernel_rfl) (fun _ _ _ h => h) (Or.inr ⟨?sw761_15, ?yw761_15⟩) (by assumption) ?nw761_15
            case hw761_15 => simp only [List.getElem?_toArray, List.getElem?_cons_succ, List.getElem?_cons_zero]; rfl
            case sw761_15 => rfl
            case yw761_15 => rfl
            try simp only [Act.put, List.setIfInBounds_toArray, List.set_cons_zero, List.set_cons_succ]
            refine hR.take (i := 16) (oi := ?ow762_16) (v := ?vw762_16) (m' := 131071) ?hw762_16 (by kernel_rfl) (by kernel_rfl) (fun _ _ _ h => h) (Or.inr ⟨?sw762_16, ?yw762_16⟩) (by assumption) ?nw762_16
            case hw762_16 => simp only [List.getElem?_toArray, List.getElem?_cons_succ, List.getElem?_cons_zero]; rfl
            case sw762_16 => rfl
            case yw762_16 => rfl
            try simp only [Act.put, List.setIfInBounds_toArray, List.set_cons_zero, List.set_cons_succ]
            refine hR.take (i := 17) (oi := ?ow763_17) (v := ?vw763_17) (m' := 262143) ?hw763_17 (by kernel_rfl) (by kernel_rfl) (fun _ _ _ h => h) (Or.inr ⟨?sw763_17, ?yw763_17⟩) (by assumption) ?nw763_17
            case hw763_17 => simp only [List.getElem?_toArray, List.getElem?_cons_succ, List.getElem?_cons_zero]; rfl
            case sw763_17 => rfl
            case yw763_17 => rfl
            try simp only [Act.put, List.setIfInBounds_toArray, List.set_cons_zero, List.set_cons_succ]
            refine hR.take (i := 18) (oi := ?ow764_18) (v := ?vw764_18) (m' := 524287) ?hw764_18 (by kernel_rfl) (by kernel_rfl) (fun _ _ _ h => h) (Or.inr ⟨?sw764_18, ?yw764_18⟩) (by assumption) ?nw764_18
            case hw764_18 => simp only [List.getElem?_toArray, List.getElem?_cons_succ, List.getElem?_cons_zero]; rfl
            case sw764_18 => rfl
            case yw764_18 => rfl
            try simp only [Act.put, List.setIfInBounds_toArray, List.set_cons_zero, List.set_cons_succ]
            refine hR.take (i := 19) (oi := ?ow765_19) (v := ?vw765_19) (m' := 1048575) ?hw765_19 (by kernel_rfl) (by kernel_rfl) (fun _ _ _ h => h) (Or.inr ⟨?sw765_19, ?yw765_19⟩) (by assumption) ?nw765_19
            case hw765_19 => simp only [List.getElem?_toArray, List.getElem?_cons_succ, List.getElem?_cons_zero]; rfl
            case sw765_19 => rfl
            case yw765_19 => rfl
            try simp only [Act.put, List.setIfInBounds_toArray, List.set_cons_zero, List.set_cons_succ]
            refine hR.take (i := 20) (oi := ?ow766_20) (v := ?vw766_20) (m' := 2097151) ?hw766_20 (by kernel_rfl) (by kernel_rfl) (fun _ _ _ h => h) (Or.inr ⟨?sw766_20, ?yw766_20⟩) (by assumption) ?nw766_20
            case hw766_20 => simp only [List.getElem?_toArray, List.getElem?_cons_succ, List.getElem?_cons_zero]; rfl
            case sw766_20 => rfl
            case yw766_20 => rfl
            try simp only [Act.put, List.setIfInBounds_toArray, List.set_cons_zero, List.set_cons_succ]
            refine hR.take (i := 21) (oi := ?ow767_21) (v := ?vw767_21) (m' := 4194303) ?hw767_21 (by kernel_rfl) (by kernel_rfl) (fun _ _ _ h => h) (Or.inl ⟨?sw767_21, ?yw767_21⟩) (by assumption) ?nw767_21
            case hw767_21 => simp only [List.getElem?_toArray, List.getElem?_cons_succ, List.getElem?_cons_zero]; rfl
            case sw767_21 => rfl
            case yw767_21 => (intro w hSw; (try dsimp only at hSw); go_simp <;> with_reducible rfl)
            try simp only [Act.put, List.setIfInBounds_toArray, List.set_cons_zero, List.set_cons_succ]
            refine hR.take (i := 22) (oi := ?ow768_22) (v := ?vw768_22) (m' := 8388607) ?hw768_22 (by kernel_rfl) (by kernel_rfl) (fun _ _ _ h => h) (Or.inl ⟨?sw768_22, ?yw768_22⟩) (by assumption) ?nw768_22
            case hw768_22 => simp only [List.getElem?_toArray, List.getElem?_cons_succ, List.getElem?_cons_zero]; rfl
            case sw768_22 => rfl
            case yw768_22 => (intro w hSw; (try dsimp only at hSw); go_simp <;> with_reducible rfl)
            try simp only [Act.put, List.setIfInBounds_toArray, List.set_cons_zero, List.set_cons_succ]
            refine hR.take (i := 23) (oi := ?ow769_23) (v := ?vw769_23) (m' := 16777215) ?hw769_23 (by kernel_rfl) (by kernel_rfl) (fun _ _ _ h => h) (Or.inr ⟨?sw769_23, ?yw769_23⟩) (by assumption) ?nw769_23
            case hw769_23 => simp only [List.getElem?_toArray, List.getElem?_cons_succ, List.getElem?_cons_zero]; rfl
            case sw769_23 => rfl
            case yw769_23 => rfl
            try simp only [Act.put, List.setIfInBounds_toArray, List.set_cons_zero, List.set_cons_succ]
            refine hR.take (i := 24) (oi := ?ow770_24) (v := ?vw770_24) (m' := 33554431) ?hw770_24 (by kernel_rfl) (by kernel_rfl) (fun _ _ _ h => h) (Or.inr ⟨?sw770_24, ?yw770_24⟩) (by assumption) ?nw770_24
            case hw770_24 => simp only [List.getElem?_toArray, List.getElem?_cons_succ, List.getElem?_cons_zero]; rfl
            case sw770_24 => rfl
            case yw770_24 => rfl
            try simp only [Act.put, List.setIfInBounds_toArray, List.set_cons_zero, List.set_cons_succ]
            refine hR.take (i := 25) (oi := ?ow771_25) (v := ?vw771_25) (m' := 67108863) ?hw771_25 (by kernel_rfl) (by kernel_rfl) (fun _ _ _ h => h) (Or.inr ⟨?sw771_25, ?yw771_25⟩) (by assumption) ?nw771_25
            case hw771_25 => simp only [List.getElem?_toArray, List.getElem?_cons_succ, List.getElem?_cons_zero]; rfl
            case sw771_25 => rfl
            case yw771_25 => rfl
            try simp only [Act.put, List.setIfInBounds_toArray, List.set_cons_zero, List.set_cons_succ]
            refine hR.take (i := 26) (oi := ?ow772_26) (v := ?vw772_26) (m' := 134217727) ?hw772_26 (by kernel_rfl) (by kernel_rfl) (fun _ _ _ h => h) (Or.inr ⟨?sw772_26, ?yw772_26⟩) (by assumption) ?nw772_26
            case hw772_26 => simp only [List.getElem?_toArray, List.getElem?_cons_succ, List.getElem?_cons_zero]; rfl
            case sw772_26 => rfl
            case yw772_26 => rfl
            try simp only [Act.put, List.setIfInBounds_toArray, List.set_cons_zero, List.set_cons_succ]
            refine hR.take (i := 27) (oi := ?ow773_27) (v := ?vw773_27) (m' := 268435455) ?hw773_27 (by kernel_rfl) (by kernel_rfl) (fun _ _ _ h => h) (Or.inr ⟨?sw773_27, ?yw773_27⟩) (by assumption) ?nw773_27
            case hw773_27 => simp only [List.getElem?_toArray, List.getElem?_cons_succ, List.getElem?_cons_zero]; rfl
            case sw773_27 => rfl
            case yw773_27 => rfl
            try simp only [Act.put, List.setIfInBounds_toArray, List.set_cons_zero, List.set_cons_succ]
            refine hR.take (i := 28) (oi := ?ow774_28) (v := ?vw774_28) (m' := 536870911) ?hw774_28 (by kernel_rfl) (by kernel_rfl) (fun _ _ _ h => h) (Or.inr ⟨?sw774_28, ?yw774_28⟩) (by assumption) ?nw774_28
            case hw774_28 => simp only [List.getElem?_toArray, List.getElem?_cons_succ, List.getElem?_cons_zero]; rfl
            case sw774_28 => rfl
            case yw774_28 => rfl
            try simp only [Act.put, List.setIfInBounds_toArray, List.set_cons_zero, List.set_cons_succ]
            refine hR.take (i := 29) (oi := ?ow775_29) (v := ?vw775_29) (m' := 1073741823) ?hw775_29 (by kernel_rfl) (by kernel_rfl) (fun _ _ _ h => h) (Or.inr ⟨?sw775_29, ?yw775_29⟩) (by assumption) ?nw775_29
            case hw775_29 => simp only [List.getElem?_toArray, List.getElem?_cons_succ, List.getElem?_cons_zero]; rfl
            case sw775_29 => rfl
            case yw775_29 => rfl
            try simp only [Act.put, List.setIfInBounds_toArray, List.set_cons_zero, List.set_cons_succ]
            refine hR.take (i := 30) (oi := ?ow776_30) (v := ?vw776_30) (m' := 2147483647) ?hw776_30 (by kernel_rfl) (by kernel_rfl) (fun _ _ _ h => h) (Or.inr ⟨?sw776_30, ?yw776_30⟩) (by assumption) ?nw776_30
            case hw776_30 => simp only [List.getElem?_toArray, List.getElem?_cons_succ, List.getElem?_cons_zero]; rfl
            case sw776_30 => rfl
            case yw776_30 => rfl
            try simp only [Act.put, List.setIfInBounds_toArray, List.set_cons_zero, List.set_cons_succ]
            refine hR.take (i := 31) (oi := ?ow777_31) (v := ?vw777_31) (m' := 4294967295) ?hw777_31 (by kernel_rfl) (by kernel_rfl) (fun _ _ _ h => h) (Or.inr ⟨?sw777_31, ?yw777_31⟩) (by assumption) ?nw777_31
            case hw777_31 => simp only [List.getElem?_toArray, List.getElem?_cons_succ, List.getElem?_cons_zero]; rfl
            case sw777_31 => rfl
            case yw777_31 => rfl
            try simp only [Act.put, List.setIfInBounds_toArray, List.set_cons_zero, List.set_cons_succ]
            refine hR.take (i := 32) (oi := ?ow778_32) (v := ?vw778_32) (m' := 8589934591) ?hw778_32 (by kernel_rfl) (by kernel_rfl) (fun _ _ _ h => h) (Or.inl ⟨?sw778_32, ?yw778_32⟩) (by assumption) ?nw778_32
            case hw778_32 => simp only [List.getElem?_toArray, List.getElem?_cons_succ, List.getElem?_cons_zero]; rfl
            case sw778_32 => rfl
            case yw778_32 => (intro w hSw; (try dsimp only at hSw); go_simp <;> with_reducible rfl)
            try simp only [Act.put, List.setIfInBounds_toArray, List.set_cons_zero, List.set_cons_succ]
            refine hR.all (by kernel_rfl) ?_ _
            refine NoPanic.normal ?_
            go_wp2_with fail
            go_roundw
            case rel => exact ⟨k + 1, by omega, by go_num, by rw [HS0.out, if_neg (by rw [PB.out]; simp), Int.add_zero, HY.out], Lib.hid (hbx.out.trans (Below.mono (by (first | with_reducible assumption | (with_reducible refine Below.drew ?_; with_reducible assumption) | (with_reducible refine ba _ _ ?_; with_reducible assumption) | (with_reducible refine Below.drew ?_; with_reducible refine ba _ _ ?_; with_reducible assumption) | exact Below.refl _ _ | exact (Below.refl _ _).drew | exact (Below.refl _ _).alloc (Nat.le_refl _) _ | (refine bc _ _ (by assumption) (by assumption)))) hbx.out.size))⟩
            case measure => simp [intOf]; omega
          
          have e1 : (r.who == q.who) = true := by rw [hww]; simp
          have HWW := Lib.hid hww
          clear hww
          cases hm1 : matchB f1 r with
          | false =>
            have PB := Lib.hid (show pairB f1 f2 r q = false by unfold pairB; simp [hm1])
            refine wp_region_noPanic ?_
            refine wp_region_held_drew (S := fun X => Below wr.heap.size wr X) (by kernel_rfl) ?_ (fun hHeld => ?_)
            · (first | (repeat' (first | with_reducible assumption | exact Nat.le_refl _ | with_reducible refine Below.drew ?_ | with_reducible refine ba _ _ ?_ | omega | (simp <;> omega))) | (first | with_reducible assumption | (with_reducible refine Below.drew ?_; with_reducible assumption) | (with_reducible refine ba _ _ ?_; with_reducible assumption) | (with_reducible refine Below.drew ?_; with_reducible refine ba _ _ ?_; with_reducible assumption) | exact Below.refl _ _ | exact (Below.refl _ _).drew | exact (Below.refl _ _).alloc (Nat.le_refl _) _ | (refine bc _ _ (by assumption) (by assumption))))
            refine RegOk.begin_ (n := 33) (T := evL5) ⟨by kernel_rfl, by kernel_rfl, by kernel_rfl, by kernel_rfl⟩ fun hR => ?_
            refine hR.take (i := 0) (oi := ?ow779_0) (v := ?vw779_0) (m' := 1) ?hw779_0 (by kernel_rfl) (by kernel_rfl) (fun _ _ _ h => h) (Or.inl ⟨?sw779_0, ?yw779_0⟩) (by assumption) ?nw779_0
            case hw779_0 => simp only [List.getElem?_toArray, List.getElem?_cons_succ, List.getElem?_cons_zero]; rfl
            case sw779_0 => rfl
            case yw779_0 => (intro w hSw; (try dsimp only at hSw); go_simp <;> with_reducible rfl)
            try simp only [Act.put, List.setIfInBounds_toArray, List.set_cons_zero, List.set_cons_succ]
            refine hR.take (i := 1) (oi := ?ow780_1) (v := ?vw780_1) (m' := 3) ?hw780_1 (by kernel_rfl) (by kernel_rfl) (fun _ _ _ h => h) (Or.inl ⟨?sw780_1, ?yw780_1⟩) (by assumption) ?nw780_1
            case hw780_1 => simp only [List.getElem?_toArray, List.getElem?_cons_succ, List.getElem?_cons_zero]; rfl
            case sw780_1 => rfl
            case yw780_1 => (intro w hSw; (try dsimp only at hSw); go_simp <;> with_reducible rfl)
            try simp only [Act.put, List.setIfInBounds_toArray, List.set_cons_zero, List.set_cons_succ]
            refine hR.take (i := 2) (oi := ?ow781_2) (v := ?vw781_2) (m' := 7) ?hw781_2 (by kernel_rfl) (by kernel_rfl) (fun _ _ _ h => h) (Or.inl ⟨?sw781_2, ?yw781_2⟩) (by assumption) ?nw781_2
            case hw781_2 => simp only [List.getElem?_toArray, List.getElem?_cons_succ, List.getElem?_cons_zero]; rfl
            case sw781_2 => rfl
            case yw781_2 => (intro w hSw; (try dsimp only at hSw); go_simp <;> with_reducible rfl)
            try simp only [Act.put, List.setIfInBounds_toArray, List.set_cons_zero, List.set_cons_succ]
            refine hR.take (i := 3) (oi := ?ow782_3) (v := ?vw782_3) (m' := 15) ?hw782_3 (by kernel_rfl) (by kernel_rfl) (fun _ _ _ h => h) (Or.inl ⟨?sw782_3, ?yw782_3⟩) (by assumption) ?nw782_3
            case hw782_3 => simp only [List.getElem?_toArray, List.getElem?_cons_succ, List.getElem?_cons_zero]; rfl
            case sw782_3 => rfl
            case yw782_3 => (intro w hSw; (try dsimp only at hSw); go_simp <;> with_reducible rfl)
            try simp only [Act.put, List.setIfInBounds_toArray, List.set_cons_zero, List.set_cons_succ]
            refine hR.take (i := 4) (oi := ?ow783_4) (v := ?vw783_4) (m' := 31) ?hw783_4 (by kernel_rfl) (by kernel_rfl) (fun _ _ _ h => h) (Or.inl ⟨?sw783_4, ?yw783_4⟩) (by assumption) ?nw783_4
            case hw783_4 => simp only [List.getElem?_toArray, List.getElem?_cons_succ, List.getElem?_cons_zero]; rfl
            case sw783_4 => rfl
            case yw783_4 => (intro w hSw; (try dsimp only at hSw); go_simp <;> with_reducible rfl)
            try simp only [Act.put, List.setIfInBounds_toArray, List.set_cons_zero, List.set_cons_succ]
            refine hR.take (i := 5) (oi := ?ow784_5) (v := ?vw784_5) (m' := 63) ?hw784_5 (by kernel_rfl) (by kernel_rfl) (fun _ _ _ h => h) (Or.inl ⟨?sw784_5, ?yw784_5⟩) (by assumption) ?nw784_5
            case hw784_5 => simp only [List.getElem?_toArray, List.getElem?_cons_succ, List.getElem?_cons_zero]; rfl
            case sw784_5 => rfl
            case yw784_5 => (intro w hSw; (try dsimp only at hSw); go_simp <;> with_reducible rfl)
            try simp only [Act.put, List.setIfInBounds_toArray, List.set_cons_zero, List.set_cons_succ]
            refine hR.take (i := 6) (oi := ?ow785_6) (v := ?vw785_6) (m' := 127) ?hw785_6 (by kernel_rfl) (by kernel_rfl) (fun _ _ _ h => h) (Or.inl ⟨?sw785_6, ?yw785_6⟩) (by assumption) ?nw785_6
            case hw785_6 => simp only [List.getElem?_toArray, List.getElem?_cons_succ, List.getElem?_cons_zero]; rfl
            case sw785_6 => rfl
            case yw785_6 => (intro w hSw; (try dsimp only at hSw); go_simp <;> with_reducible rfl)
            try simp only [Act.put, List.setIfInBounds_toArray, List.set_cons_zero, List.set_cons_succ]
            refine hR.take (i := 7) (oi := ?ow786_7) (v := ?vw786_7) (m' := 255) ?hw786_7 (by kernel_rfl) (by kernel_rfl) (fun _ _ _ h => h) (Or.inl ⟨?sw786_7, ?yw786_7⟩) (by assumption) ?nw786_7
            case hw786_7 => simp only [List.getElem?_toArray, List.getElem?_cons_succ, List.getElem?_cons_zero]; rfl
            case sw786_7 => rfl
            case yw786_7 => (intro w hSw; (try dsimp only at hSw); go_simp <;> with_reducible rfl)
            try simp only [Act.put, List.setIfInBounds_toArray, List.set_cons_zero, List.set_cons_succ]
            refine hR.take (i := 8) (oi := ?ow787_8) (v := ?vw787_8) (m' := 511) ?hw787_8 (by kernel_rfl) (by kernel_rfl) (fun _ _ _ h => h) (Or.inl ⟨?sw787_8, ?yw787_8⟩) (by assumption) ?nw787_8
            case hw787_8 => simp only [List.getElem?_toArray, List.getElem?_cons_succ, List.getElem?_cons_zero]; rfl
            case sw787_8 => rfl
            case yw787_8 => (intro w hSw; (try dsimp only at hSw); go_simp <;> with_reducible rfl)
            try simp only [Act.put, List.setIfInBounds_toArray, List.set_cons_zero, List.set_cons_succ]
            refine hR.take (i := 9) (oi := ?ow788_9) (v := ?vw788_9) (m' := 1023) ?hw788_9 (by kernel_rfl) (by kernel_rfl) (fun _ _ _ h => h) (Or.inl ⟨?sw788_9, ?yw788_9⟩) (by assumption) ?nw788_9
            case hw788_9 => simp only [List.getElem?_toArray, List.getElem?_cons_succ, List.getElem?_cons_zero]; rfl
            case sw788_9 => rfl
            case yw788_9 => (intro w hSw; (try dsimp only at hSw); go_simp <;> with_reducible rfl)
            try simp only [Act.put, List.setIfInBounds_toArray, List.set_cons_zero, List.set_cons_succ]
            refine hR.take (i := 10) (oi := ?ow789_10) (v := ?vw789_10) (m' := 2047) ?hw789_10 (by kernel_rfl) (by kernel_rfl) (fun _ _ _ h => h) (Or.inl ⟨?sw789_10, ?yw789_10⟩) (by assumption) ?nw789_10
            case hw789_10 => simp only [List.getElem?_toArray, List.getElem?_cons_succ, List.getElem?_cons_zero]; rfl
            case sw789_10 => rfl
            case yw789_10 => (intro w hSw; (try dsimp only at hSw); go_simp <;> with_reducible rfl)
            try simp only [Act.put, List.setIfInBounds_toArray, List.set_cons_zero, List.set_cons_succ]
            refine hR.take (i := 11) (oi := ?ow790_11) (v := ?vw790_11) (m' := 4095) ?hw790_11 (by kernel_rfl) (by kernel_rfl) (fun _ _ _ h => h) (Or.inl ⟨?sw790_11, ?yw790_11⟩) (by assumption) ?nw790_11
            case hw790_11 => simp only [List.getElem?_toArray, List.getElem?_cons_succ, List.getElem?_cons_zero]; rfl
            case sw790_11 => rfl
            case yw790_11 => (intro w hSw; (try dsimp only at hSw); go_simp <;> with_reducible rfl)
            try simp only [Act.put, List.setIfInBounds_toArray, List.set_cons_zero, List.set_cons_succ]
            refine hR.take (i := 12) (oi := ?ow791_12) (v := ?vw791_12) (m' := 8191) ?hw791_12 (by kernel_rfl) (by kernel_rfl) (fun _ _ _ h => h) (Or.inl ⟨?sw791_12, ?yw791_12⟩) (by assumption) ?nw791_12
            case hw791_12 => simp only [List.getElem?_toArray, List.getElem?_cons_succ, List.getElem?_cons_zero]; rfl
            case sw791_12 => rfl
            case yw791_12 => (intro w hSw; (try dsimp only at hSw); go_simp <;> with_reducible rfl)
            try simp only [Act.put, List.setIfInBounds_toArray, List.set_cons_zero, List.set_cons_succ]
            refine hR.take (i := 13) (oi := ?ow792_13) (v := ?vw792_13) (m' := 16383) ?hw792_13 (by kernel_rfl) (by kernel_rfl) (fun _ _ _ h => h) (Or.inl ⟨?sw792_13, ?yw792_13⟩) (by assumption) ?nw792_13
            case hw792_13 => simp only [List.getElem?_toArray, List.getElem?_cons_succ, List.getElem?_cons_zero]; rfl
            case sw792_13 => rfl
            case yw792_13 => (intro w hSw; (try dsimp only at hSw); go_simp <;> with_reducible rfl)
            try simp only [Act.put, List.setIfInBounds_toArray, List.set_cons_zero, List.set_cons_succ]
            refine hR.take (i := 14) (oi := ?ow793_14) (v := ?vw793_14) (m' := 32767) ?hw793_14 (by kernel_rfl) (by kernel_rfl) (fun _ _ _ h => h) (Or.inl ⟨?sw793_14, ?yw793_14⟩) (by assumption) ?nw793_14
            case hw793_14 => simp only [List.getElem?_toArray, List.getElem?_cons_succ, List.getElem?_cons_zero]; rfl
            case sw793_14 => rfl
            case yw793_14 => (intro w hSw; (try dsimp only at hSw); go_simp <;> with_reducible rfl)
            try simp only [Act.put, List.setIfInBounds_toArray, List.set_cons_zero, List.set_cons_succ]
            refine hR.take (i := 15) (oi := ?ow794_15) (v := ?vw794_15) (m' := 65535) ?hw794_15 (by kernel_rfl) (by kernel_rfl) (fun _ _ _ h => h) (Or.inl ⟨?sw794_15, ?yw794_15⟩) (by assumption) ?nw794_15
            case hw794_15 => simp only [List.getElem?_toArray, List.getElem?_cons_succ, List.getElem?_cons_zero]; rfl
            case sw794_15 => rfl
            case yw794_15 => (intro w hSw; (try dsimp only at hSw); go_simp <;> with_reducible rfl)
            try simp only [Act.put, List.setIfInBounds_toArray, List.set_cons_zero, List.set_cons_succ]
            refine hR.take (i := 16) (oi := ?ow795_16) (v := ?vw795_16) (m' := 131071) ?hw795_16 (by kernel_rfl) (by kernel_rfl) (fun _ _ _ h => h) (Or.inl ⟨?sw795_16, ?yw795_16⟩) (by assumption) ?nw795_16
            case hw795_16 => simp only [List.getElem?_toArray, List.getElem?_cons_succ, List.getElem?_cons_zero]; rfl
            case sw795_16 => rfl
            case yw795_16 => (intro w hSw; (try dsimp only at hSw); go_simp <;> with_reducible rfl)
            try simp only [Act.put, List.setIfInBounds_toArray, List.set_cons_zero, List.set_cons_succ]
            refine hR.take (i := 17) (oi := ?ow796_17) (v := ?vw796_17) (m' := 262143) ?hw796_17 (by kernel_rfl) (by kernel_rfl) (fun _ _ _ h => h) (Or.inl ⟨?sw796_17, ?yw796_17⟩) (by assumption) ?nw796_17
            case hw796_17 => simp only [List.getElem?_toArray, List.getElem?_cons_succ, List.getElem?_cons_zero]; rfl
            case sw796_17 => rfl
            case yw796_17 => (intro w hSw; (try dsimp only at hSw); go_simp <;> with_reducible rfl)
            try simp only [Act.put, List.setIfInBounds_toArray, List.set_cons_zero, List.set_cons_succ]
            refine hR.take (i := 18) (oi := ?ow797_18) (v := ?vw797_18) (m' := 524287) ?hw797_18 (by kernel_rfl) (by kernel_rfl) (fun _ _ _ h => h) (Or.inl ⟨?sw797_18, ?yw797_18⟩) (by assumption) ?nw797_18
            case hw797_18 => simp only [List.getElem?_toArray, List.getElem?_cons_succ, List.getElem?_cons_zero]; rfl
            case sw797_18 => rfl
            case yw797_18 => (intro w hSw; (try dsimp only at hSw); go_simp <;> with_reducible rfl)
            try simp only [Act.put, List.setIfInBounds_toArray, List.set_cons_zero, List.set_cons_succ]
            refine hR.take (i := 19) (oi := ?ow798_19) (v := ?vw798_19) (m' := 1048575) ?hw798_19 (by kernel_rfl) (by kernel_rfl) (fun _ _ _ h => h) (Or.inl ⟨?sw798_19, ?yw798_19⟩) (by assumption) ?nw798_19
            case hw798_19 => simp only [List.getElem?_toArray, List.getElem?_cons_succ, List.getElem?_cons_zero]; rfl
            case sw798_19 => rfl
            case yw798_19 => (intro w hSw; (try dsimp only at hSw); go_simp <;> with_reducible rfl)
            try simp only [Act.put, List.setIfInBounds_toArray, List.set_cons_zero, List.set_cons_succ]
            refine hR.come (rs := [20]) (by kernel_rfl) (by simp) ?_
            refine AllReadyH.cons (o := ?o799_20) ?h799_20 (fun K hK => ?kw799_20) AllReadyH.nil
            case h799_20 => simp only [List.getElem?_toArray, List.getElem?_cons_succ, List.getElem?_cons_zero]; rfl
            go_simp
            go_at_call 23; ((with_reducible refine (matchN (l := f1) (r := r) (S := fun _ => True) hm1 rfl _ (mvI P1 (by (first | with_reducible assumption | (with_reducible refine Below.drew ?_; with_reducible assumption) | (with_reducible refine ba _ _ ?_; with_reducible assumption) | (with_reducible refine Below.drew ?_; with_reducible refine ba _ _ ?_; with_reducible assumption) | exact Below.refl _ _ | exact (Below.refl _ _).drew | exact (Below.refl _ _).alloc (Nat.le_refl _) _ | (refine bc _ _ (by assumption) (by assumption))))).out VV1.out).mono ?_)); rintro e wM ⟨rfl, hbM⟩; have hkM := bc _ _ (by (first | with_reducible assumption | (with_reducible refine Below.drew ?_; with_reducible assumption) | (with_reducible refine ba _ _ ?_; with_reducible assumption) | (with_reducible refine Below.drew ?_; with_reducible refine ba _ _ ?_; with_reducible assumption) | exact Below.refl _ _ | exact (Below.refl _ _).drew | exact (Below.refl _ _).alloc (Nat.le_refl _) _ | (refine bc _ _ (by assumption) (by assumption)))) hbM
            refine hK.out _ _ ?_ (fun hHeld => ?_)
            · (first | (repeat' (first | with_reducible assumption | exact Nat.le_refl _ | with_reducible refine Below.drew ?_ | with_reducible refine ba _ _ ?_ | omega | (simp <;> omega))) | (first | with_reducible assumption | (with_reducible refine Below.drew ?_; with_reducible assumption) | (with_reducible refine ba _ _ ?_; with_reducible assumption) | (with_reducible refine Below.drew ?_; with_reducible refine ba _ _ ?_; with_reducible assumption) | exact Below.refl _ _ | exact (Below.refl _ _).drew | exact (Below.refl _ _).alloc (Nat.le_refl _) _ | (refine bc _ _ (by assumption) (by assumption))))
            clear hK K
            refine RegOk.put_ (m' := 2097151) (by kernel_rfl) ?_
            try simp only [Act.put, List.setIfInBounds_toArray, List.set_cons_zero, List.set_cons_succ]
            refine hR.take (i := 21) (oi := ?ow800_21) (v := ?vw800_21) (m' := 4194303) ?hw800_21 (by kernel_rfl) (by kernel_rfl) (fun _ _ _ h => h) (Or.inl ⟨?sw800_21, ?yw800_21⟩) (by assumption) ?nw800_21
            case hw800_21 => simp only [List.getElem?_toArray, List.getElem?_cons_succ, List.getElem?_cons_zero]; rfl
            case sw800_21 => rfl
            case yw800_21 => (intro w hSw; (try dsimp only at hSw); go_simp <;> with_reducible rfl)
            try simp only [Act.put, List.setIfInBounds_toArray, List.set_cons_zero, List.set_cons_succ]
            refine hR.take (i := 22) (oi := ?ow801_22) (v := ?vw801_22) (m' := 8388607) ?hw801_22 (by kernel_rfl) (by kernel_rfl) (fun _ _ _ h => h) (Or.inl ⟨?sw801_22, ?yw801_22⟩) (by assumption) ?nw801_22
            case hw801_22 => simp only [List.getElem?_toArray, List.getElem?_cons_succ, List.getElem?_cons_zero]; rfl
            case sw801_22 => rfl
            case yw801_22 => (intro w hSw; (try dsimp only at hSw); go_simp <;> with_reducible rfl)
            try simp only [Act.put, List.setIfInBounds_toArray, List.set_cons_zero, List.set_cons_succ]
            refine hR.take (i := 23) (oi := ?ow802_23) (v := ?vw802_23) (m' := 16777215) ?hw802_23 (by kernel_rfl) (by kernel_rfl) (fun _ _ _ h => h) (Or.inr ⟨?sw802_23, ?yw802_23⟩) (by assumption) ?nw802_23
            case hw802_23 => simp only [List.getElem?_toArray, List.getElem?_cons_succ, List.getElem?_cons_zero]; rfl
            case sw802_23 => rfl
            case yw802_23 => rfl
            try simp only [Act.put, List.setIfInBounds_toArray, List.set_cons_zero, List.set_cons_succ]
            refine hR.take (i := 24) (oi := ?ow803_24) (v := ?vw803_24) (m' := 33554431) ?hw803_24 (by kernel_rfl) (by kernel_rfl) (fun _ _ _ h => h) (Or.inr ⟨?sw803_24, ?yw803_24⟩) (by assumption) ?nw803_24
            case hw803_24 => simp only [List.getElem?_toArray, List.getElem?_cons_succ, List.getElem?_cons_zero]; rfl
            case sw803_24 => rfl
            case yw803_24 => rfl
            try simp only [Act.put, List.setIfInBounds_toArray, List.set_cons_zero, List.set_cons_succ]
            refine hR.take (i := 25) (oi := ?ow804_25) (v := ?vw804_25) (m' := 67108863) ?hw804_25 (by kernel_rfl) (by kernel_rfl) (fun _ _ _ h => h) (Or.inr ⟨?sw804_25, ?yw804_25⟩) (by assumption) ?nw804_25
            case hw804_25 => simp only [List.getElem?_toArray, List.getElem?_cons_succ, List.getElem?_cons_zero]; rfl
            case sw804_25 => rfl
            case yw804_25 => rfl
            try simp only [Act.put, List.setIfInBounds_toArray, List.set_cons_zero, List.set_cons_succ]
            refine hR.take (i := 26) (oi := ?ow805_26) (v := ?vw805_26) (m' := 134217727) ?hw805_26 (by kernel_rfl) (by kernel_rfl) (fun _ _ _ h => h) (Or.inr ⟨?sw805_26, ?yw805_26⟩) (by assumption) ?nw805_26
            case hw805_26 => simp only [List.getElem?_toArray, List.getElem?_cons_succ, List.getElem?_cons_zero]; rfl
            case sw805_26 => rfl
            case yw805_26 => rfl
            try simp only [Act.put, List.setIfInBounds_toArray, List.set_cons_zero, List.set_cons_succ]
            refine hR.take (i := 27) (oi := ?ow806_27) (v := ?vw806_27) (m' := 268435455) ?hw806_27 (by kernel_rfl) (by kernel_rfl) (fun _ _ _ h => h) (Or.inr ⟨?sw806_27, ?yw806_27⟩) (by assumption) ?nw806_27
            case hw806_27 => simp only [List.getElem?_toArray, List.getElem?_cons_succ, List.getElem?_cons_zero]; rfl
            case sw806_27 => rfl
            case yw806_27 => rfl
            try simp only [Act.put, List.setIfInBounds_toArray, List.set_cons_zero, List.set_cons_succ]
            refine hR.take (i := 28) (oi := ?ow807_28) (v := ?vw807_28) (m' := 536870911) ?hw807_28 (by kernel_rfl) (by kernel_rfl) (fun _ _ _ h => h) (Or.inr ⟨?sw807_28, ?yw807_28⟩) (by assumption) ?nw807_28
            case hw807_28 => simp only [List.getElem?_toArray, List.getElem?_cons_succ, List.getElem?_cons_zero]; rfl
            case sw807_28 => rfl
            case yw807_28 => rfl
            try simp only [Act.put, List.setIfInBounds_toArray, List.set_cons_zero, List.set_cons_succ]
            refine hR.take (i := 29) (oi := ?ow808_29) (v := ?vw808_29) (m' := 1073741823) ?hw808_29 (by kernel_rfl) (by kernel_rfl) (fun _ _ _ h => h) (Or.inr ⟨?sw808_29, ?yw808_29⟩) (by assumption) ?nw808_29
            case hw808_29 => simp only [List.getElem?_toArray, List.getElem?_cons_succ, List.getElem?_cons_zero]; rfl
            case sw808_29 => rfl
            case yw808_29 => rfl
            try simp only [Act.put, List.setIfInBounds_toArray, List.set_cons_zero, List.set_cons_succ]
            refine hR.take (i := 30) (oi := ?ow809_30) (v := ?vw809_30) (m' := 2147483647) ?hw809_30 (by kernel_rfl) (by kernel_rfl) (fun _ _ _ h => h) (Or.inr ⟨?sw809_30, ?yw809_30⟩) (by assumption) ?nw809_30
            case hw809_30 => simp only [List.getElem?_toArray, List.getElem?_cons_succ, List.getElem?_cons_zero]; rfl
            case sw809_30 => rfl
            case yw809_30 => rfl
            try simp only [Act.put, List.setIfInBounds_toArray, List.set_cons_zero, List.set_cons_succ]
            refine hR.take (i := 31) (oi := ?ow810_31) (v := ?vw810_31) (m' := 4294967295) ?hw810_31 (by kernel_rfl) (by kernel_rfl) (fun _ _ _ h => h) (Or.inr ⟨?sw810_31, ?yw810_31⟩) (by assumption) ?nw810_31
            case hw810_31 => simp only [List.getElem?_toArray, List.getElem?_cons_succ, List.getElem?_cons_zero]; rfl
            case sw810_31 => rfl
            case yw810_31 => rfl
            try simp only [Act.put, List.setIfInBounds_toArray, List.set_cons_zero, List.set_cons_succ]
            refine hR.take (i := 32) (oi := ?ow811_32) (v := ?vw811_32) (m' := 8589934591) ?hw811_32 (by kernel_rfl) (by kernel_rfl) (fun _ _ _ h => h) (Or.inl ⟨?sw811_32, ?yw811_32⟩) (by assumption) ?nw811_32
            case hw811_32 => simp only [List.getElem?_toArray, List.getElem?_cons_succ, List.getElem?_cons_zero]; rfl
            case sw811_32 => rfl
            case yw811_32 => (intro w hSw; (try dsimp only at hSw); go_simp <;> with_reducible rfl)
            try simp only [Act.put, List.setIfInBounds_toArray, List.set_cons_zero, List.set_cons_succ]
            refine hR.all (by kernel_rfl) ?_ _
            refine NoPanic.normal ?_
            go_wp2_with fail
            go_roundw
            case rel => exact ⟨k + 1, by omega, by go_num, by rw [HS0.out, if_neg (by rw [PB.out]; simp), Int.add_zero, HY.out], Lib.hid (hbx.out.trans (Below.mono (by (first | with_reducible assumption | (with_reducible refine Below.drew ?_; with_reducible assumption) | (with_reducible refine ba _ _ ?_; with_reducible assumption) | (with_reducible refine Below.drew ?_; with_reducible refine ba _ _ ?_; with_reducible assumption) | exact Below.refl _ _ | exact (Below.refl _ _).drew | exact (Below.refl _ _).alloc (Nat.le_refl _) _ | (refine bc _ _ (by assumption) (by assumption)))) hbx.out.size))⟩
            case measure => simp [intOf]; omega
          
          | true =>
            cases hm2 : matchB f2 q with
            | false =>
              have PB := Lib.hid (show pairB f1 f2 r q = false by unfold pairB; simp [hm1, hm2])
              refine wp_region_noPanic ?_
              refine wp_region_held_drew (S := fun X => Below wr.heap.size wr X) (by kernel_rfl) ?_ (fun hHeld => ?_)
              · (first | (repeat' (first | with_reducible assumption | exact Nat.le_refl _ | with_reducible refine Below.drew ?_ | with_reducible refine ba _ _ ?_ | omega | (simp <;> omega))) | (first | with_reducible assumption | (with_reducible refine Below.drew ?_; with_reducible assumption) | (with_reducible refine ba _ _ ?_; with_reducible assumption) | (with_reducible refine Below.drew ?_; with_reducible refine ba _ _ ?_; with_reducible assumption) | exact Below.refl _ _ | exact (Below.refl _ _).drew | exact (Below.refl _ _).alloc (Nat.le_refl _) _ | (refine bc _ _ (by assumption) (by assumption))))
              refine RegOk.begin_ (n := 33) (T := evL5) ⟨by kernel_rfl, by kernel_rfl, by kernel_rfl, by kernel_rfl⟩ fun hR => ?_
              refine hR.take (i := 0) (oi := ?ow812_0) (v := ?vw812_0) (m' := 1) ?hw812_0 (by kernel_rfl) (by kernel_rfl) (fun _ _ _ h => h) (Or.inl ⟨?sw812_0, ?yw812_0⟩) (by assumption) ?nw812_0
              case hw812_0 => simp only [List.getElem?_toArray, List.getElem?_cons_succ, List.getElem?_cons_zero]; rfl
              case sw812_0 => rfl
              case yw812_0 => (intro w hSw; (try dsimp only at hSw); go_simp <;> with_reducible rfl)
              try simp only [Act.put, List.setIfInBounds_toArray, List.set_cons_zero, List.set_cons_succ]
              refine hR.take (i := 1) (oi := ?ow813_1) (v := ?vw813_1) (m' := 3) ?hw813_1 (by kernel_rfl) (by kernel_rfl) (fun _ _ _ h => h) (Or.inl ⟨?sw813_1, ?yw813_1⟩) (by assumption) ?nw813_1
              case hw813_1 => simp only [List.getElem?_toArray, List.getElem?_cons_succ, List.getElem?_cons_zero]; rfl
              case sw813_1 => rfl
              case yw813_1 => (intro w hSw; (try dsimp only at hSw); go_simp <;> with_reducible rfl)
              try simp only [Act.put, List.setIfInBounds_toArray, List.set_cons_zero, List.set_cons_succ]
              refine hR.take (i := 2) (oi := ?ow814_2) (v := ?vw814_2) (m' := 7) ?hw814_2 (by kernel_rfl) (by kernel_rfl) (fun _ _ _ h => h) (Or.inl ⟨?sw814_2, ?yw814_2⟩) (by assumption) ?nw814_2
              case hw814_2 => simp only [List.getElem?_toArray, List.getElem?_cons_succ, List.getElem?_cons_zero]; rfl
              case sw814_2 => rfl
              case yw814_2 => (intro w hSw; (try dsimp only at hSw); go_simp <;> with_reducible rfl)
              try simp only [Act.put, List.setIfInBounds_toArray, List.set_cons_zero, List.set_cons_succ]
              refine hR.take (i := 3) (oi := ?ow815_3) (v := ?vw815_3) (m' := 15) ?hw815_3 (by kernel_rfl) (by kernel_rfl) (fun _ _ _ h => h) (Or.inl ⟨?sw815_3, ?yw815_3⟩) (by assumption) ?nw815_3
              case hw815_3 => simp only [List.getElem?_toArray, List.getElem?_cons_succ, List.getElem?_cons_zero]; rfl
              case sw815_3 => rfl
              case yw815_3 => (intro w hSw; (try dsimp only at hSw); go_simp <;> with_reducible rfl)
              try simp only [Act.put, List.setIfInBounds_toArray, List.set_cons_zero, List.set_cons_succ]
              refine hR.take (i := 4) (oi := ?ow816_4) (v := ?vw816_4) (m' := 31) ?hw816_4 (by kernel_rfl) (by kernel_rfl) (fun _ _ _ h => h) (Or.inl ⟨?sw816_4, ?yw816_4⟩) (by assumption) ?nw816_4
              case hw816_4 => simp only [List.getElem?_toArray, List.getElem?_cons_succ, List.getElem?_cons_zero]; rfl
              case sw816_4 => rfl
              case yw816_4 => (intro w hSw; (try dsimp only at hSw); go_simp <;> with_reducible rfl)
              try simp only [Act.put, List.setIfInBounds_toArray, List.set_cons_zero, List.set_cons_succ]
              refine hR.take (i := 5) (oi := ?ow817_5) (v := ?vw817_5) (m' := 63) ?hw817_5 (by kernel_rfl) (by kernel_rfl) (fun _ _ _ h => h) (Or.inl ⟨?sw817_5, ?yw817_5⟩) (by assumption) ?nw817_5
              case hw817_5 => simp only [List.getElem?_toArray, List.getElem?_cons_succ, List.getElem?_cons_zero]; rfl
              case sw817_5 => rfl
              case yw817_5 => (intro w hSw; (try dsimp only at hSw); go_simp <;> with_reducible rfl)
              try simp only [Act.put, List.setIfInBounds_toArray, List.set_cons_zero, List.set_cons_succ]
              refine hR.take (i := 6) (oi := ?ow818_6) (v := ?vw818_6) (m' := 127) ?hw818_6 (by kernel_rfl) (by kernel_rfl) (fun _ _ _ h => h) (Or.inl ⟨?sw818_6, ?yw818_6⟩) (by assumption) ?nw818_6
              case hw818_6 => simp only [List.getElem?_toArray, List.getElem?_cons_succ, List.getElem?_cons_zero]; rfl
              case sw818_6 => rfl
              case yw818_6 => (intro w hSw; (try dsimp only at hSw); go_simp <;> with_reducible rfl)
              try simp only [Act.put, List.setIfInBounds_toArray, List.set_cons_zero, List.set_cons_succ]
              refine hR.take (i := 7) (oi := ?ow819_7) (v := ?vw819_7) (m' := 255) ?hw819_7 (by kernel_rfl) (by kernel_rfl) (fun _ _ _ h => h) (Or.inl ⟨?sw819_7, ?yw819_7⟩) (by assumption) ?nw819_7
              case hw819_7 => simp only [List.getElem?_toArray, List.getElem?_cons_succ, List.getElem?_cons_zero]; rfl
              case sw819_7 => rfl
              case yw819_7 => (intro w hSw; (try dsimp only at hSw); go_simp <;> with_reducible rfl)
              try simp only [Act.put, List.setIfInBounds_toArray, List.set_cons_zero, List.set_cons_succ]
              refine hR.take (i := 8) (oi := ?ow820_8) (v := ?vw820_8) (m' := 511) ?hw820_8 (by kernel_rfl) (by kernel_rfl) (fun _ _ _ h => h) (Or.inl ⟨?sw820_8, ?yw820_8⟩) (by assumption) ?nw820_8
              case hw820_8 => simp only [List.getElem?_toArray, List.getElem?_cons_succ, List.getElem?_cons_zero]; rfl
              case sw820_8 => rfl
              case yw820_8 => (intro w hSw; (try dsimp only at hSw); go_simp <;> with_reducible rfl)
              try simp only [Act.put, List.setIfInBounds_toArray, List.set_cons_zero, List.set_cons_succ]
              refine hR.take (i := 9) (oi := ?ow821_9) (v := ?vw821_9) (m' := 1023) ?hw821_9 (by kernel_rfl) (by kernel_rfl) (fun _ _ _ h => h) (Or.inl ⟨?sw821_9, ?yw821_9⟩) (by assumption) ?nw821_9
              case hw821_9 => simp only [List.getElem?_toArray, List.getElem?_cons_succ, List.getElem?_cons_zero]; rfl
              case sw821_9 => rfl
              case yw821_9 => (intro w hSw; (try dsimp only at hSw); go_simp <;> with_reducible rfl)
              try simp only [Act.put, List.setIfInBounds_toArray, List.set_cons_zero, List.set_cons_succ]
              refine hR.take (i := 10) (oi := ?ow822_10) (v := ?vw822_10) (m' := 2047) ?hw822_10 (by kernel_rfl) (by kernel_rfl) (fun _ _ _ h => h) (Or.inl ⟨?sw822_10, ?yw822_10⟩) (by assumption) ?nw822_10
              case hw822_10 => simp only [List.getElem?_toArray, List.getElem?_cons_succ, List.getElem?_cons_zero]; rfl
              case sw822_10 => rfl
              case yw822_10 => (intro w hSw; (try dsimp only at hSw); go_simp <;> with_reducible rfl)
              try simp only [Act.put, List.setIfInBounds_toArray, List.set_cons_zero, List.set_cons_succ]
              refine hR.take (i := 11) (oi := ?ow823_11) (v := ?vw823_11) (m' := 4095) ?hw823_11 (by kernel_rfl) (by kernel_rfl) (fun _ _ _ h => h) (Or.inl ⟨?sw823_11, ?yw823_11⟩) (by assumption) ?nw823_11
              case hw823_11 => simp only [List.getElem?_toArray, List.getElem?_cons_succ, List.getElem?_cons_zero]; rfl
              case sw823_11 => rfl
              case yw823_11 => (intro w hSw; (try dsimp only at hSw); go_simp <;> with_reducible rfl)
              try simp only [Act.put, List.setIfInBounds_toArray, List.set_cons_zero, List.set_cons_succ]
              refine hR.take (i := 12) (oi := ?ow824_12) (v := ?vw824_12) (m' := 8191) ?hw824_12 (by kernel_rfl) (by kernel_rfl) (fun _ _ _ h => h) (Or.inl ⟨?sw824_12, ?yw824_12⟩) (by assumption) ?nw824_12
              case hw824_12 => simp only [List.getElem?_toArray, List.getElem?_cons_succ, List.getElem?_cons_zero]; rfl
              case sw824_12 => rfl
              case yw824_12 => (intro w hSw; (try dsimp only at hSw); go_simp <;> with_reducible rfl)
              try simp only [Act.put, List.setIfInBounds_toArray, List.set_cons_zero, List.set_cons_succ]
              refine hR.take (i := 13) (oi := ?ow825_13) (v := ?vw825_13) (m' := 16383) ?hw825_13 (by kernel_rfl) (by kernel_rfl) (fun _ _ _ h => h) (Or.inl ⟨?sw825_13, ?yw825_13⟩) (by assumption) ?nw825_13
              case hw825_13 => simp only [List.getElem?_toArray, List.getElem?_cons_succ, List.getElem?_cons_zero]; rfl
              case sw825_13 => rfl
              case yw825_13 => (intro w hSw; (try dsimp only at hSw); go_simp <;> with_reducible rfl)
              try simp only [Act.put, List.setIfInBounds_toArray, List.set_cons_zero, List.set_cons_succ]
              refine hR.take (i := 14) (oi := ?ow826_14) (v := ?vw826_14) (m' := 32767) ?hw826_14 (by kernel_rfl) (by kernel_rfl) (fun _ _ _ h => h) (Or.inl ⟨?sw826_14, ?yw826_14⟩) (by assumption) ?nw826_14
              case hw826_14 => simp only [List.getElem?_toArray, List.getElem?_cons_succ, List.getElem?_cons_zero]; rfl
              case sw826_14 => rfl
              case yw826_14 => (intro w hSw; (try dsimp only at hSw); go_simp <;> with_reducible rfl)
              try simp only [Act.put, List.setIfInBounds_toArray, List.set_cons_zero, List.set_cons_succ]
              refine hR.take (i := 15) (oi := ?ow827_15) (v := ?vw827_15) (m' := 65535) ?hw827_15 (by kernel_rfl) (by kernel_rfl) (fun _ _ _ h => h) (Or.inl ⟨?sw827_15, ?yw827_15⟩) (by assumption) ?nw827_15
              case hw827_15 => simp only [List.getElem?_toArray, List.getElem?_cons_succ, List.getElem?_cons_zero]; rfl
              case sw827_15 => rfl
              case yw827_15 => (intro w hSw; (try dsimp only at hSw); go_simp <;> with_reducible rfl)
              try simp only [Act.put, List.setIfInBounds_toArray, List.set_cons_zero, List.set_cons_succ]
              refine hR.take (i := 16) (oi := ?ow828_16) (v := ?vw828_16) (m' := 131071) ?hw828_16 (by kernel_rfl) (by kernel_rfl) (fun _ _ _ h => h) (Or.inl ⟨?sw828_16, ?yw828_16⟩) (by assumption) ?nw828_16
              case hw828_16 => simp only [List.getElem?_toArray, List.getElem?_cons_succ, List.getElem?_cons_zero]; rfl
              case sw828_16 => rfl
              case yw828_16 => (intro w hSw; (try dsimp only at hSw); go_simp <;> with_reducible rfl)
              try simp only [Act.put, List.setIfInBounds_toArray, List.set_cons_zero, List.set_cons_succ]
              refine hR.take (i := 17) (oi := ?ow829_17) (v := ?vw829_17) (m' := 262143) ?hw829_17 (by kernel_rfl) (by kernel_rfl) (fun _ _ _ h => h) (Or.inl ⟨?sw829_17, ?yw829_17⟩) (by assumption) ?nw829_17
              case hw829_17 => simp only [List.getElem?_toArray, List.getElem?_cons_succ, List.getElem?_cons_zero]; rfl
              case sw829_17 => rfl
              case yw829_17 => (intro w hSw; (try dsimp only at hSw); go_simp <;> with_reducible rfl)
              try simp only [Act.put, List.setIfInBounds_toArray, List.set_cons_zero, List.set_cons_succ]
              refine hR.take (i := 18) (oi := ?ow830_18) (v := ?vw830_18) (m' := 524287) ?hw830_18 (by kernel_rfl) (by kernel_rfl) (fun _ _ _ h => h) (Or.inl ⟨?sw830_18, ?yw830_18⟩) (by assumption) ?nw830_18
              case hw830_18 => simp only [List.getElem?_toArray, List.getElem?_cons_succ, List.getElem?_cons_zero]; rfl
              case sw830_18 => rfl
              case yw830_18 => (intro w hSw; (try dsimp only at hSw); go_simp <;> with_reducible rfl)
              try simp only [Act.put, List.setIfInBounds_toArray, List.set_cons_zero, List.set_cons_succ]
              refine hR.take (i := 19) (oi := ?ow831_19) (v := ?vw831_19) (m' := 1048575) ?hw831_19 (by kernel_rfl) (by kernel_rfl) (fun _ _ _ h => h) (Or.inl ⟨?sw831_19, ?yw831_19⟩) (by assumption) ?nw831_19
              case hw831_19 => simp only [List.getElem?_toArray, List.getElem?_cons_succ, List.getElem?_cons_zero]; rfl
              case sw831_19 => rfl
              case yw831_19 => (intro w hSw; (try dsimp only at hSw); go_simp <;> with_reducible rfl)
              try simp only [Act.put, List.setIfInBounds_toArray, List.set_cons_zero, List.set_cons_succ]
              refine hR.come (rs := [20]) (by kernel_rfl) (by simp) ?_
              refine AllReadyH.cons (o := ?o832_20) ?h832_20 (fun K hK => ?kw832_20) AllReadyH.nil
              case h832_20 => simp only [List.getElem?_toArray, List.getElem?_cons_succ, List.getElem?_cons_zero]; rfl
              go_simp
              go_at_call 23; ((with_reducible refine (matchN (l := f1) (r := r) (S := fun _ => True) hm1 rfl _ (mvI P1 (by (first | with_reducible assumption | (with_reducible refine Below.drew ?_; with_reducible assumption) | (with_reducible refine ba _ _ ?_; with_reducible assumption) | (with_reducible refine Below.drew ?_; with_reducible refine ba _ _ ?_; with_reducible assumption) | exact Below.refl _ _ | exact (Below.refl _ _).drew | exact (Below.refl _ _).alloc (Nat.le_refl _) _ | (refine bc _ _ (by assumption) (by assumption))))).out VV1.out).mono ?_)); rintro e wM ⟨rfl, hbM⟩; have hkM := bc _ _ (by (first | with_reducible assumption | (with_reducible refine Below.drew ?_; with_reducible assumption) | (with_reducible refine ba _ _ ?_; with_reducible assumption) | (with_reducible refine Below.drew ?_; with_reducible refine ba _ _ ?_; with_reducible assumption) | exact Below.refl _ _ | exact (Below.refl _ _).drew | exact (Below.refl _ _).alloc (Nat.le_refl _) _ | (refine bc _ _ (by assumption) (by assumption)))) hbM
              refine hK.out _ _ ?_ (fun hHeld => ?_)
              · (first | (repeat' (first | with_reducible assumption | exact Nat.le_refl _ | with_reducible refine Below.drew ?_ | with_reducible refine ba _ _ ?_ | omega | (simp <;> omega))) | (first | with_reducible assumption | (with_reducible refine Below.drew ?_; with_reducible assumption) | (with_reducible refine ba _ _ ?_; with_reducible assumption) | (with_reducible refine Below.drew ?_; with_reducible refine ba _ _ ?_; with_reducible assumption) | exact Below.refl _ _ | exact (Below.refl _ _).drew | exact (Below.refl _ _).alloc (Nat.le_refl _) _ | (refine bc _ _ (by assumption) (by assumption))))
              clear hK K
              refine RegOk.put_ (m' := 2097151) (by kernel_rfl) ?_
              try simp only [Act.put, List.setIfInBounds_toArray, List.set_cons_zero, List.set_cons_succ]
              refine hR.take (i := 21) (oi := ?ow833_21) (v := ?vw833_21) (m' := 4194303) ?hw833_21 (by kernel_rfl) (by kernel_rfl) (fun _ _ _ h => h) (Or.inl ⟨?sw833_21, ?yw833_21⟩) (by assumption) ?nw833_21
              case hw833_21 => simp only [List.getElem?_toArray, List.getElem?_cons_succ, List.getElem?_cons_zero]; rfl
              case sw833_21 => rfl
              case yw833_21 => (intro w hSw; (try dsimp only at hSw); go_simp <;> with_reducible rfl)
              try simp only [Act.put, List.setIfInBounds_toArray, List.set_cons_zero, List.set_cons_succ]
              refine hR.take (i := 22) (oi := ?ow834_22) (v := ?vw834_22) (m' := 8388607) ?hw834_22 (by kernel_rfl) (by kernel_rfl) (fun _ _ _ h => h) (Or.inl ⟨?sw834_22, ?yw834_22⟩) (by assumption) ?nw834_22
              case hw834_22 => simp only [List.getElem?_toArray, List.getElem?_cons_succ, List.getElem?_cons_zero]; rfl
              case sw834_22 => rfl
              case yw834_22 => (intro w hSw; (try dsimp only at hSw); go_simp <;> with_reducible rfl)
              try simp only [Act.put, List.setIfInBounds_toArray, List.set_cons_zero, List.set_cons_succ]
              refine hR.take (i := 23) (oi := ?ow835_23) (v := ?vw835_23) (m' := 16777215) ?hw835_23 (by kernel_rfl) (by kernel_rfl) (fun _ _ _ h => h) (Or.inl ⟨?sw835_23, ?yw835_23⟩) (by assumption) ?nw835_23
              case hw835_23 => simp only [List.getElem?_toArray, List.getElem?_cons_succ, List.getElem?_cons_zero]; rfl
              case sw835_23 => rfl
              case yw835_23 => (intro w hSw; (try dsimp only at hSw); go_simp <;> with_reducible rfl)
              try simp only [Act.put, List.setIfInBounds_toArray, List.set_cons_zero, List.set_cons_succ]
              refine hR.take (i := 24) (oi := ?ow836_24) (v := ?vw836_24) (m' := 33554431) ?hw836_24 (by kernel_rfl) (by kernel_rfl) (fun _ _ _ h => h) (Or.inl ⟨?sw836_24, ?yw836_24⟩) (by assumption) ?nw836_24
              case hw836_24 => simp only [List.getElem?_toArray, List.getElem?_cons_succ, List.getElem?_cons_zero]; rfl
              case sw836_24 => rfl
              case yw836_24 => (intro w hSw; (try dsimp only at hSw); go_simp <;> with_reducible rfl)
              try simp only [Act.put, List.setIfInBounds_toArray, List.set_cons_zero, List.set_cons_succ]
              refine hR.take (i := 25) (oi := ?ow837_25) (v := ?vw837_25) (m' := 67108863) ?hw837_25 (by kernel_rfl) (by kernel_rfl) (fun _ _ _ h => h) (Or.inl ⟨?sw837_25, ?yw837_25⟩) (by assumption) ?nw837_25
              case hw837_25 => simp only [List.getElem?_toArray, List.getElem?_cons_succ, List.getElem?_cons_zero]; rfl
              case sw837_25 => rfl
              case yw837_25 => (intro w hSw; (try dsimp only at hSw); go_simp <;> with_reducible rfl)
              try simp only [Act.put, List.setIfInBounds_toArray, List.set_cons_zero, List.set_cons_succ]
              refine hR.take (i := 26) (oi := ?ow838_26) (v := ?vw838_26) (m' := 134217727) ?hw838_26 (by kernel_rfl) (by kernel_rfl) (fun _ _ _ h => h) (Or.inl ⟨?sw838_26, ?yw838_26⟩) (by assumption) ?nw838_26
              case hw838_26 => simp only [List.getElem?_toArray, List.getElem?_cons_succ, List.getElem?_cons_zero]; rfl
              case sw838_26 => rfl
              case yw838_26 => (intro w hSw; (try dsimp only at hSw); go_simp <;> with_reducible rfl)
              try simp only [Act.put, List.setIfInBounds_toArray, List.set_cons_zero, List.set_cons_succ]
              refine hR.take (i := 27) (oi := ?ow839_27) (v := ?vw839_27) (m' := 268435455) ?hw839_27 (by kernel_rfl) (by kernel_rfl) (fun _ _ _ h => h) (Or.inl ⟨?sw839_27, ?yw839_27⟩) (by assumption) ?nw839_27
              case hw839_27 => simp only [List.getElem?_toArray, List.getElem?_cons_succ, List.getElem?_cons_zero]; rfl
              case sw839_27 => rfl
              case yw839_27 => (intro w hSw; (try dsimp only at hSw); go_simp <;> with_reducible rfl)
              try simp only [Act.put, List.setIfInBounds_toArray, List.set_cons_zero, List.set_cons_succ]
              refine hR.take (i := 28) (oi := ?ow840_28) (v := ?vw840_28) (m' := 536870911) ?hw840_28 (by kernel_rfl) (by kernel_rfl) (fun _ _ _ h => h) (Or.inl ⟨?sw840_28, ?yw840_28⟩) (by assumption) ?nw840_28
              case hw840_28 => simp only [List.getElem?_toArray, List.getElem?_cons_succ, List.getElem?_cons_zero]; rfl
              case sw840_28 => rfl
              case yw840_28 => (intro w hSw; (try dsimp only at hSw); go_simp <;> with_reducible rfl)
              try simp only [Act.put, List.setIfInBounds_toArray, List.set_cons_zero, List.set_cons_succ]
              refine hR.take (i := 29) (oi := ?ow841_29) (v := ?vw841_29) (m' := 1073741823) ?hw841_29 (by kernel_rfl) (by kernel_rfl) (fun _ _ _ h => h) (Or.inl ⟨?sw841_29, ?yw841_29⟩) (by assumption) ?nw841_29
              case hw841_29 => simp only [List.getElem?_toArray, List.getElem?_cons_succ, List.getElem?_cons_zero]; rfl
              case sw841_29 => rfl
              case yw841_29 => (intro w hSw; (try dsimp only at hSw); go_simp <;> with_reducible rfl)
              try simp only [Act.put, List.setIfInBounds_toArray, List.set_cons_zero, List.set_cons_succ]
              refine hR.take (i := 30) (oi := ?ow842_30) (v := ?vw842_30) (m' := 2147483647) ?hw842_30 (by kernel_rfl) (by kernel_rfl) (fun _ _ _ h => h) (Or.inl ⟨?sw842_30, ?yw842_30⟩) (by assumption) ?nw842_30
              case hw842_30 => simp only [List.getElem?_toArray, List.getElem?_cons_succ, List.getElem?_cons_zero]; rfl
              case sw842_30 => rfl
              case yw842_30 => (intro w hSw; (try dsimp only at hSw); go_simp <;> with_reducible rfl)
              try simp only [Act.put, List.setIfInBounds_toArray, List.set_cons_zero, List.set_cons_succ]
              refine hR.come (rs := [31]) (by kernel_rfl) (by simp) ?_
              refine AllReadyH.cons (o := ?o843_31) ?h843_31 (fun K hK => ?kw843_31) AllReadyH.nil
              case h843_31 => simp only [List.getElem?_toArray, List.getElem?_cons_succ, List.getElem?_cons_zero]; rfl
              go_simp
              go_at_call 23; ((with_reducible refine (matchN (l := f2) (r := q) (S := fun _ => True) hm2 rfl _ (mvI P2 (by (first | with_reducible assumption | (with_reducible refine Below.drew ?_; with_reducible assumption) | (with_reducible refine ba _ _ ?_; with_reducible assumption) | (with_reducible refine Below.drew ?_; with_reducible refine ba _ _ ?_; with_reducible assumption) | exact Below.refl _ _ | exact (Below.refl _ _).drew | exact (Below.refl _ _).alloc (Nat.le_refl _) _ | (refine bc _ _ (by assumption) (by assumption))))).out VV2.out).mono ?_)); rintro e wN ⟨rfl, hbN⟩; have hkN := bc _ _ (by (first | with_reducible assumption | (with_reducible refine Below.drew ?_; with_reducible assumption) | (with_reducible refine ba _ _ ?_; with_reducible assumption) | (with_reducible refine Below.drew ?_; with_reducible refine ba _ _ ?_; with_reducible assumption) | exact Below.refl _ _ | exact (Below.refl _ _).drew | exact (Below.refl _ _).alloc (Nat.le_refl _) _ | (refine bc _ _ (by assumption) (by assumption)))) hbN
              refine hK.out _ _ ?_ (fun hHeld => ?_)
              · (first | (repeat' (first | with_reducible assumption | exact Nat.le_refl _ | with_reducible refine Below.drew ?_ | with_reducible refine ba _ _ ?_ | omega | (simp <;> omega))) | (first | with_reducible assumption | (with_reducible refine Below.drew ?_; with_reducible assumption) | (with_reducible refine ba _ _ ?_; with_reducible assumption) | (with_reducible refine Below.drew ?_; with_reducible refine ba _ _ ?_; with_reducible assumption) | exact Below.refl _ _ | exact (Below.refl _ _).drew | exact (Below.refl _ _).alloc (Nat.le_refl _) _ | (refine bc _ _ (by assumption) (by assumption))))
              clear hK K
              refine RegOk.put_ (m' := 4294967295) (by kernel_rfl) ?_
              try simp only [Act.put, List.setIfInBounds_toArray, List.set_cons_zero, List.set_cons_succ]
              refine hR.take (i := 32) (oi := ?ow844_32) (v := ?vw844_32) (m' := 8589934591) ?hw844_32 (by kernel_rfl) (by kernel_rfl) (fun _ _ _ h => h) (Or.inl ⟨?sw844_32, ?yw844_32⟩) (by assumption) ?nw844_32
              case hw844_32 => simp only [List.getElem?_toArray, List.getElem?_cons_succ, List.getElem?_cons_zero]; rfl
              case sw844_32 => rfl
              case yw844_32 => (intro w hSw; (try dsimp only at hSw); go_simp <;> with_reducible rfl)
              try simp only [Act.put, List.setIfInBounds_toArray, List.set_cons_zero, List.set_cons_succ]
              refine hR.all (by kernel_rfl) ?_ _
              refine NoPanic.normal ?_
              go_wp2_with fail
              go_roundw
              case rel => exact ⟨k + 1, by omega, by go_num, by rw [HS0.out, if_neg (by rw [PB.out]; simp), Int.add_zero, HY.out], Lib.hid (hbx.out.trans (Below.mono (by (first | with_reducible assumption | (with_reducible refine Below.drew ?_; with_reducible assumption) | (with_reducible refine ba _ _ ?_; with_reducible assumption) | (with_reducible refine Below.drew ?_; with_reducible refine ba _ _ ?_; with_reducible assumption) | exact Below.refl _ _ | exact (Below.refl _ _).drew | exact (Below.refl _ _).alloc (Nat.le_refl _) _ | (refine bc _ _ (by assumption) (by assumption)))) hbx.out.size))⟩
              case measure => simp [intOf]; omega
          
            | true =>
              have PB := Lib.hid (show pairB f1 f2 r q = true by unfold pairB; simp [hm1, hm2, HWW.out])
              refine wp_region_noPanic ?_
              refine wp_region_held_drew (S := fun X => Below wr.heap.size wr X) (by kernel_rfl) ?_ (fun hHeld => ?_)
              · (first | (repeat' (first | with_reducible assumption | exact Nat.le_refl _ | with_reducible refine Below.drew ?_ | with_reducible refine ba _ _ ?_ | omega | (simp <;> omega))) | (first | with_reducible assumption | (with_reducible refine Below.drew ?_; with_reducible assumption) | (with_reducible refine ba _ _ ?_; with_reducible assumption) | (with_reducible refine Below.drew ?_; with_reducible refine ba _ _ ?_; with_reducible assumption) | exact Below.refl _ _ | exact (Below.refl _ _).drew | exact (Below.refl _ _).alloc (Nat.le_refl _) _ | (refine bc _ _ (by assumption) (by assumption))))
              refine RegOk.begin_ (n := 33) (T := evL5) ⟨by kernel_rfl, by kernel_rfl, by kernel_rfl, by kernel_rfl⟩ fun hR => ?_
              refine hR.take (i := 0) (oi := ?ow845_0) (v := ?vw845_0) (m' := 1) ?hw845_0 (by kernel_rfl) (by kernel_rfl) (fun _ _ _ h => h) (Or.inl ⟨?sw845_0, ?yw845_0⟩) (by assumption) ?nw845_0
              case hw845_0 => simp only [List.getElem?_toArray, List.getElem?_cons_succ, List.getElem?_cons_zero]; rfl
              case sw845_0 => rfl
              case yw845_0 => (intro w hSw; (try dsimp only at hSw); go_simp <;> with_reducible rfl)
              try simp only [Act.put, List.setIfInBounds_toArray, List.set_cons_zero, List.set_cons_succ]
              refine hR.take (i := 1) (oi := ?ow846_1) (v := ?vw846_1) (m' := 3) ?hw846_1 (by kernel_rfl) (by kernel_rfl) (fun _ _ _ h => h) (Or.inl ⟨?sw846_1, ?yw846_1⟩) (by assumption) ?nw846_1
              case hw846_1 => simp only [List.getElem?_toArray, List.getElem?_cons_succ, List.getElem?_cons_zero]; rfl
              case sw846_1 => rfl
              case yw846_1 => (intro w hSw; (try dsimp only at hSw); go_simp <;> with_reducible rfl)
              try simp only [Act.put, List.setIfInBounds_toArray, List.set_cons_zero, List.set_cons_succ]
              refine hR.take (i := 2) (oi := ?ow847_2) (v := ?vw847_2) (m' := 7) ?hw847_2 (by kernel_rfl) (by kernel_rfl) (fun _ _ _ h => h) (Or.inl ⟨?sw847_2, ?yw847_2⟩) (by assumption) ?nw847_2
              case hw847_2 => simp only [List.getElem?_toArray, List.getElem?_cons_succ, List.getElem?_cons_zero]; rfl
              case sw847_2 => rfl
              case yw847_2 => (intro w hSw; (try dsimp only at hSw); go_simp <;> with_reducible rfl)
              try simp only [Act.put, List.setIfInBounds_toArray, List.set_cons_zero, List.set_cons_succ]
              refine hR.take (i := 3) (oi := ?ow848_3) (v := ?vw848_3) (m' := 15) ?hw848_3 (by kernel_rfl) (by kernel_rfl) (fun _ _ _ h => h) (Or.inl ⟨?sw848_3, ?yw848_3⟩) (by assumption) ?nw848_3
              case hw848_3 => simp only [List.getElem?_toArray, List.getElem?_cons_succ, List.getElem?_cons_zero]; rfl
              case sw848_3 => rfl
              case yw848_3 => (intro w hSw; (try dsimp only at hSw); go_simp <;> with_reducible rfl)
              try simp only [Act.put, List.setIfInBounds_toArray, List.set_cons_zero, List.set_cons_succ]
              refine hR.take (i := 4) (oi := ?ow849_4) (v := ?vw849_4) (m' := 31) ?hw849_4 (by kernel_rfl) (by kernel_rfl) (fun _ _ _ h => h) (Or.inl ⟨?sw849_4, ?yw849_4⟩) (by assumption) ?nw849_4
              case hw849_4 => simp only [List.getElem?_toArray, List.getElem?_cons_succ, List.getElem?_cons_zero]; rfl
              case sw849_4 => rfl
              case yw849_4 => (intro w hSw; (try dsimp only at hSw); go_simp <;> with_reducible rfl)
              try simp only [Act.put, List.setIfInBounds_toArray, List.set_cons_zero, List.set_cons_succ]
              refine hR.take (i := 5) (oi := ?ow850_5) (v := ?vw850_5) (m' := 63) ?hw850_5 (by kernel_rfl) (by kernel_rfl) (fun _ _ _ h => h) (Or.inl ⟨?sw850_5, ?yw850_5⟩) (by assumption) ?nw850_5
              case hw850_5 => simp only [List.getElem?_toArray, List.getElem?_cons_succ, List.getElem?_cons_zero]; rfl
              case sw850_5 => rfl
              case yw850_5 => (intro w hSw; (try dsimp only at hSw); go_simp <;> with_reducible rfl)
              try simp only [Act.put, List.setIfInBounds_toArray, List.set_cons_zero, List.set_cons_succ]
              refine hR.take (i := 6) (oi := ?ow851_6) (v := ?vw851_6) (m' := 127) ?hw851_6 (by kernel_rfl) (by kernel_rfl) (fun _ _ _ h => h) (Or.inl ⟨?sw851_6, ?yw851_6⟩) (by assumption) ?nw851_6
              case hw851_6 => simp only [List.getElem?_toArray, List.getElem?_cons_succ, List.getElem?_cons_zero]; rfl
              case sw851_6 => rfl
              case yw851_6 => (intro w hSw; (try dsimp only at hSw); go_simp <;> with_reducible rfl)
              try simp only [Act.put, List.setIfInBounds_toArray, List.set_cons_zero, List.set_cons_succ]
              refine hR.take (i := 7) (oi := ?ow852_7) (v := ?vw852_7) (m' := 255) ?hw852_7 (by kernel_rfl) (by kernel_rfl) (fun _ _ _ h => h) (Or.inl ⟨?sw852_7, ?yw852_7⟩) (by assumption) ?nw852_7
              case hw852_7 => simp only [List.getElem?_toArray, List.getElem?_cons_succ, List.getElem?_cons_zero]; rfl
              case sw852_7 => rfl
              case yw852_7 => (intro w hSw; (try dsimp only at hSw); go_simp <;> with_reducible rfl)
              try simp only [Act.put, List.setIfInBounds_toArray, List.set_cons_zero, List.set_cons_succ]
              refine hR.take (i := 8) (oi := ?ow853_8) (v := ?vw853_8) (m' := 511) ?hw853_8 (by kernel_rfl) (by kernel_rfl) (fun _ _ _ h => h) (Or.inl ⟨?sw853_8, ?yw853_8⟩) (by assumption) ?nw853_8
              case hw853_8 => simp only [List.getElem?_toArray, List.getElem?_cons_succ, List.getElem?_cons_zero]; rfl
              case sw853_8 => rfl
              case yw853_8 => (intro w hSw; (try dsimp only at hSw); go_simp <;> with_reducible rfl)
              try simp only [Act.put, List.setIfInBounds_toArray, List.set_cons_zero, List.set_cons_succ]
              refine hR.take (i := 9) (oi := ?ow854_9) (v := ?vw854_9) (m' := 1023) ?hw854_9 (by kernel_rfl) (by kernel_rfl) (fun _ _ _ h => h) (Or.inl ⟨?sw854_9, ?yw854_9⟩) (by assumption) ?nw854_9
              case hw854_9 => simp only [List.getElem?_toArray, List.getElem?_cons_succ, List.getElem?_cons_zero]; rfl
              case sw854_9 => rfl
              case yw854_9 => (intro w hSw; (try dsimp only at hSw); go_simp <;> with_reducible rfl)
              try simp only [Act.put, List.setIfInBounds_toArray, List.set_cons_zero, List.set_cons_succ]
              refine hR.take (i := 10) (oi := ?ow855_10) (v := ?vw855_10) (m' := 2047) ?hw855_10 (by kernel_rfl) (by kernel_rfl) (fun _ _ _ h => h) (Or.inl ⟨?sw855_10, ?yw855_10⟩) (by assumption) ?nw855_10
              case hw855_10 => simp only [List.getElem?_toArray, List.getElem?_cons_succ, List.getElem?_cons_zero]; rfl
              case sw855_10 => rfl
              case yw855_10 => (intro w hSw; (try dsimp only at hSw); go_simp <;> with_reducible rfl)
              try simp only [Act.put, List.setIfInBounds_toArray, List.set_cons_zero, List.set_cons_succ]
              refine hR.take (i := 11) (oi := ?ow856_11) (v := ?vw856_11) (m' := 4095) ?hw856_11 (by kernel_rfl) (by kernel_rfl) (fun _ _ _ h => h) (Or.inl ⟨?sw856_11, ?yw856_11⟩) (by assumption) ?nw856_11
              case hw856_11 => simp only [List.getElem?_toArray, List.getElem?_cons_succ, List.getElem?_cons_zero]; rfl
              case sw856_11 => rfl
              case yw856_11 => (intro w hSw; (try dsimp only at hSw); go_simp <;> with_reducible rfl)
              try simp only [Act.put, List.setIfInBounds_toArray, List.set_cons_zero, List.set_cons_succ]
              refine hR.take (i := 12) (oi := ?ow857_12) (v := ?vw857_12) (m' := 8191) ?hw857_12 (by kernel_rfl) (by kernel_rfl) (fun _ _ _ h => h) (Or.inl ⟨?sw857_12, ?yw857_12⟩) (by assumption) ?nw857_12
              case hw857_12 => simp only [List.getElem?_toArray, List.getElem?_cons_succ, List.getElem?_cons_zero]; rfl
              case sw857_12 => rfl
              case yw857_12 => (intro w hSw; (try dsimp only at hSw); go_simp <;> with_reducible rfl)
              try simp only [Act.put, List.setIfInBounds_toArray, List.set_cons_zero, List.set_cons_succ]
              refine hR.take (i := 13) (oi := ?ow858_13) (v := ?vw858_13) (m' := 16383) ?hw858_13 (by kernel_rfl) (by kernel_rfl) (fun _ _ _ h => h) (Or.inl ⟨?sw858_13, ?yw858_13⟩) (by assumption) ?nw858_13
              case hw858_13 => simp only [List.getElem?_toArray, List.getElem?_cons_succ, List.getElem?_cons_zero]; rfl
              case sw858_13 => rfl
              case yw858_13 => (intro w hSw; (try dsimp only at hSw); go_simp <;> with_reducible rfl)
              try simp only [Act.put, List.setIfInBounds_toArray, List.set_cons_zero, List.set_cons_succ]
              refine hR.take (i := 14) (oi := ?ow859_14) (v := ?vw859_14) (m' := 32767) ?hw859_14 (by kernel_rfl) (by kernel_rfl) (fun _ _ _ h => h) (Or.inl ⟨?sw859_14, ?yw859_14⟩) (by assumption) ?nw859_14
              case hw859_14 => simp only [List.getElem?_toArray, List.getElem?_cons_succ, List.getElem?_cons_zero]; rfl
              case sw859_14 => rfl
              case yw859_14 => (intro w hSw; (try dsimp only at hSw); go_simp <;> with_reducible rfl)
              try simp only [Act.put, List.setIfInBounds_toArray, List.set_cons_zero, List.set_cons_succ]
              refine hR.take (i := 15) (oi := ?ow860_15) (v := ?vw860_15) (m' := 65535) ?hw860_15 (by kernel_rfl) (by kernel_rfl) (fun _ _ _ h => h) (Or.inl ⟨?sw860_15, ?yw860_15⟩) (by assumption) ?nw860_15
              case hw860_15 => simp only [List.getElem?_toArray, List.getElem?_cons_succ, List.getElem?_cons_zero]; rfl
              case sw860_15 => rfl
              case yw860_15 => (intro w hSw; (try dsimp only at hSw); go_simp <;> with_reducible rfl)
              try simp only [Act.put, List.setIfInBounds_toArray, List.set_cons_zero, List.set_cons_succ]
              refine hR.take (i := 16) (oi := ?ow861_16) (v := ?vw861_16) (m' := 131071) ?hw861_16 (by kernel_rfl) (by kernel_rfl) (fun _ _ _ h => h) (Or.inl ⟨?sw861_16, ?yw861_16⟩) (by assumption) ?nw861_16
              case hw861_16 => simp only [List.getElem?_toArray, List.getElem?_cons_succ, List.getElem?_cons_zero]; rfl
              case sw861_16 => rfl
              case yw861_16 => (intro w hSw; (try dsimp only at hSw); go_simp <;> with_reducible rfl)
              try simp only [Act.put, List.setIfInBounds_toArray, List.set_cons_zero, List.set_cons_succ]
              refine hR.take (i := 17) (oi := ?ow862_17) (v := ?vw862_17) (m' := 262143) ?hw862_17 (by kernel_rfl) (by kernel_rfl) (fun _ _ _ h => h) (Or.inl ⟨?sw862_17, ?yw862_17⟩) (by assumption) ?nw862_17
              case hw862_17 => simp only [List.getElem?_toArray, List.getElem?_cons_succ, List.getElem?_cons_zero]; rfl
              case sw862_17 => rfl
              case yw862_17 => (intro w hSw; (try dsimp only at hSw); go_simp <;> with_reducible rfl)
              try simp only [Act.put, List.setIfInBounds_toArray, List.set_cons_zero, List.set_cons_succ]
              refine hR.take (i := 18) (oi := ?ow863_18) (v := ?vw863_18) (m' := 524287) ?hw863_18 (by kernel_rfl) (by kernel_rfl) (fun _ _ _ h => h) (Or.inl ⟨?sw863_18, ?yw863_18⟩) (by assumption) ?nw863_18
              case hw863_18 => simp only [List.getElem?_toArray, List.getElem?_cons_succ, List.getElem?_cons_zero]; rfl
              case sw863_18 => rfl
              case yw863_18 => (intro w hSw; (try dsimp only at hSw); go_simp <;> with_reducible rfl)
              try simp only [Act.put, List.setIfInBounds_toArray, List.set_cons_zero, List.set_cons_succ]
              refine hR.take (i := 19) (oi := ?ow864_19) (v := ?vw864_19) (m' := 1048575) ?hw864_19 (by kernel_rfl) (by kernel_rfl) (fun _ _ _ h => h) (Or.inl ⟨?sw864_19, ?yw864_19⟩) (by assumption) ?nw864_19
              case hw864_19 => simp only [List.getElem?_toArray, List.getElem?_cons_succ, List.getElem?_cons_zero]; rfl
              case sw864_19 => rfl
              case yw864_19 => (intro w hSw; (try dsimp only at hSw); go_simp <;> with_reducible rfl)
              try simp only [Act.put, List.setIfInBounds_toArray, List.set_cons_zero, List.set_cons_succ]
              refine hR.come (rs := [20]) (by kernel_rfl) (by simp) ?_
              refine AllReadyH.cons (o := ?o865_20) ?h865_20 (fun K hK => ?kw865_20) AllReadyH.nil
              case h865_20 => simp only [List.getElem?_toArray, List.getElem?_cons_succ, List.getElem?_cons_zero]; rfl
              go_simp
              go_at_call 23; ((with_reducible refine (matchN (l := f1) (r := r) (S := fun _ => True) hm1 rfl _ (mvI P1 (by (first | with_reducible assumption | (with_reducible refine Below.drew ?_; with_reducible assumption) | (with_reducible refine ba _ _ ?_; with_reducible assumption) | (with_reducible refine Below.drew ?_; with_reducible refine ba _ _ ?_; with_reducible assumption) | exact Below.refl _ _ | exact (Below.refl _ _).drew | exact (Below.refl _ _).alloc (Nat.le_refl _) _ | (refine bc _ _ (by assumption) (by assumption))))).out VV1.out).mono ?_)); rintro e wM ⟨rfl, hbM⟩; have hkM := bc _ _ (by (first | with_reducible assumption | (with_reducible refine Below.drew ?_; with_reducible assumption) | (with_reducible refine ba _ _ ?_; with_reducible assumption) | (with_reducible refine Below.drew ?_; with_reducible refine ba _ _ ?_; with_reducible assumption) | exact Below.refl _ _ | exact (Below.refl _ _).drew | exact (Below.refl _ _).alloc (Nat.le_refl _) _ | (refine bc _ _ (by assumption) (by assumption)))) hbM
              refine hK.out _ _ ?_ (fun hHeld => ?_)
              · (first | (repeat' (first | with_reducible assumption | exact Nat.le_refl _ | with_reducible refine Below.drew ?_ | with_reducible refine ba _ _ ?_ | omega | (simp <;> omega))) | (first | with_reducible assumption | (with_reducible refine Below.drew ?_; with_reducible assumption) | (with_reducible refine ba _ _ ?_; with_reducible assumption) | (with_reducible refine Below.drew ?_; with_reducible refine ba _ _ ?_; with_reducible assumption) | exact Below.refl _ _ | exact (Below.refl _ _).drew | exact (Below.refl _ _).alloc (Nat.le_refl _) _ | (refine bc _ _ (by assumption) (by assumption))))
              clear hK K
              refine RegOk.put_ (m' := 2097151) (by kernel_rfl) ?_
              try simp only [Act.put, List.setIfInBounds_toArray, List.set_cons_zero, List.set_cons_succ]
              refine hR.take (i := 21) (oi := ?ow866_21) (v := ?vw866_21) (m' := 4194303) ?hw866_21 (by kernel_rfl) (by kernel_rfl) (fun _ _ _ h => h) (Or.inl ⟨?sw866_21, ?yw866_21⟩) (by assumption) ?nw866_21
              case hw866_21 => simp only [List.getElem?_toArray, List.getElem?_cons_succ, List.getElem?_cons_zero]; rfl
              case sw866_21 => rfl
              case yw866_21 => (intro w hSw; (try dsimp only at hSw); go_simp <;> with_reducible rfl)
              try simp only [Act.put, List.setIfInBounds_toArray, List.set_cons_zero, List.set_cons_succ]
              refine hR.take (i := 22) (oi := ?ow867_22) (v := ?vw867_22) (m' := 8388607) ?hw867_22 (by kernel_rfl) (by kernel_rfl) (fun _ _ _ h => h) (Or.inl ⟨?sw867_22, ?yw867_22⟩) (by assumption) ?nw867_22
              case hw867_22 => simp only [List.getElem?_toArray, List.getElem?_cons_succ, List.getElem?_cons_zero]; rfl
              case sw867_22 => rfl
              case yw867_22 => (intro w hSw; (try dsimp only at hSw); go_simp <;> with_reducible rfl)
              try simp only [Act.put, List.setIfInBounds_toArray, List.set_cons_zero, List.set_cons_succ]
              refine hR.take (i := 23) (oi := ?ow868_23) (v := ?vw868_23) (m' := 16777215) ?hw868_23 (by kernel_rfl) (by kernel_rfl) (fun _ _ _ h => h) (Or.inl ⟨?sw868_23, ?yw868_23⟩) (by assumption) ?nw868_23
              case hw868_23 => simp only [List.getElem?_toArray, List.getElem?_cons_succ, List.getElem?_cons_zero]; rfl
              case sw868_23 => rfl
              case yw868_23 => (intro w hSw; (try dsimp only at hSw); go_simp <;> with_reducible rfl)
              try simp only [Act.put, List.setIfInBounds_toArray, List.set_cons_zero, List.set_cons_succ]
              refine hR.take (i := 24) (oi := ?ow869_24) (v := ?vw869_24) (m' := 33554431) ?hw869_24 (by kernel_rfl) (by kernel_rfl) (fun _ _ _ h => h) (Or.inl ⟨?sw869_24, ?yw869_24⟩) (by assumption) ?nw869_24
              case hw869_24 => simp only [List.getElem?_toArray, List.getElem?_cons_succ, List.getElem?_cons_zero]; rfl
              case sw869_24 => rfl
              case yw869_24 => (intro w hSw; (try dsimp only at hSw); go_simp <;> with_reducible rfl)
              try simp only [Act.put, List.setIfInBounds_toArray, List.set_cons_zero, List.set_cons_succ]
              refine hR.take (i := 25) (oi := ?ow870_25) (v := ?vw870_25) (m' := 67108863) ?hw870_25 (by kernel_rfl) (by kernel_rfl) (fun _ _ _ h => h) (Or.inl ⟨?sw870_25, ?yw870_25⟩) (by assumption) ?nw870_25
              case hw870_25 => simp only [List.getElem?_toArray, List.getElem?_cons_succ, List.getElem?_cons_zero]; rfl
              case sw870_25 => rfl
              case yw870_25 => (intro w hSw; (try dsimp only at hSw); go_simp <;> with_reducible rfl)
              try simp only [Act.put, List.setIfInBounds_toArray, List.set_cons_zero, List.set_cons_succ]
              refine hR.take (i := 26) (oi := ?ow871_26) (v := ?vw871_26) (m' := 134217727) ?hw871_26 (by kernel_rfl) (by kernel_rfl) (fun _ _ _ h => h) (Or.inl ⟨?sw871_26, ?yw871_26⟩) (by assumption) ?nw871_26
              case hw871_26 => simp only [List.getElem?_toArray, List.getElem?_cons_succ, List.getElem?_cons_zero]; rfl
              case sw871_26 => rfl
              case yw871_26 => (intro w hSw; (try dsimp only at hSw); go_simp <;> with_reducible rfl)
              try simp only [Act.put, List.setIfInBounds_toArray, List.set_cons_zero, List.set_cons_succ]
              refine hR.take (i := 27) (oi := ?ow872_27) (v := ?vw872_27) (m' := 268435455) ?hw872_27 (by kernel_rfl) (by kernel_rfl) (fun _ _ _ h => h) (Or.inl ⟨?sw872_27, ?yw872_27⟩) (by assumption) ?nw872_27
              case hw872_27 => simp only [List.getElem?_toArray, List.getElem?_cons_succ, List.getElem?_cons_zero]; rfl
              case sw872_27 => rfl
              case yw872_27 => (intro w hSw; (try dsimp only at hSw); go_simp <;> with_reducible rfl)
              try simp only [Act.put, List.setIfInBounds_toArray, List.set_cons_zero, List.set_cons_succ]
              refine hR.take (i := 28) (oi := ?ow873_28) (v := ?vw873_28) (m' := 536870911) ?hw873_28 (by kernel_rfl) (by kernel_rfl) (fun _ _ _ h => h) (Or.inl ⟨?sw873_28, ?yw873_28⟩) (by assumption) ?nw873_28
              case hw873_28 => simp only [List.getElem?_toArray, List.getElem?_cons_succ, List.getElem?_cons_zero]; rfl
              case sw873_28 => rfl
              case yw873_28 => (intro w hSw; (try dsimp only at hSw); go_simp <;> with_reducible rfl)
              try simp only [Act.put, List.setIfInBounds_toArray, List.set_cons_zero, List.set_cons_succ]
              refine hR.take (i := 29) (oi := ?ow874_29) (v := ?vw874_29) (m' := 1073741823) ?hw874_29 (by kernel_rfl) (by kernel_rfl) (fun _ _ _ h => h) (Or.inl ⟨?sw874_29, ?yw874_29⟩) (by assumption) ?nw874_29
              case hw874_29 => simp only [List.getElem?_toArray, List.getElem?_cons_succ, List.getElem?_cons_zero]; rfl
              case sw874_29 => rfl
              case yw874_29 => (intro w hSw; (try dsimp only at hSw); go_simp <;> with_reducible rfl)
              try simp only [Act.put, List.setIfInBounds_toArray, List.set_cons_zero, List.set_cons_succ]
              refine hR.take (i := 30) (oi := ?ow875_30) (v := ?vw875_30) (m' := 2147483647) ?hw875_30 (by kernel_rfl) (by kernel_rfl) (fun _ _ _ h => h) (Or.inl ⟨?sw875_30, ?yw875_30⟩) (by assumption) ?nw875_30
              case hw875_30 => simp only [List.getElem?_toArray, List.getElem?_cons_succ, List.getElem?_cons_zero]; rfl
              case sw875_30 => rfl
              case yw875_30 => (intro w hSw; (try dsimp only at hSw); go_simp <;> with_reducible rfl)
              try simp only [Act.put, List.setIfInBounds_toArray, List.set_cons_zero, List.set_cons_succ]
              refine hR.come (rs := [31]) (by kernel_rfl) (by simp) ?_
              refine AllReadyH.cons (o := ?o876_31) ?h876_31 (fun K hK => ?kw876_31) AllReadyH.nil
              case h876_31 => simp only [List.getElem?_toArray, List.getElem?_cons_succ, List.getElem?_cons_zero]; rfl
              go_simp
              go_at_call 23; ((with_reducible refine (matchN (l := f2) (r := q) (S := fun _ => True) hm2 rfl _ (mvI P2 (by (first | with_reducible assumption | (with_reducible refine Below.drew ?_; with_reducible assumption) | (with_reducible refine ba _ _ ?_; with_reducible assumption) | (with_reducible refine Below.drew ?_; with_reducible refine ba _ _ ?_; with_reducible assumption) | exact Below.refl _ _ | exact (Below.refl _ _).drew | exact (Below.refl _ _).alloc (Nat.le_refl _) _ | (refine bc _ _ (by assumption) (by assumption))))).out VV2.out).mono ?_)); rintro e wN ⟨rfl, hbN⟩; have hkN := bc _ _ (by (first | with_reducible assumption | (with_reducible refine Below.drew ?_; with_reducible assumption) | (with_reducible refine ba _ _ ?_; with_reducible assumption) | (with_reducible refine Below.drew ?_; with_reducible refine ba _ _ ?_; with_reducible assumption) | exact Below.refl _ _ | exact (Below.refl _ _).drew | exact (Below.refl _ _).alloc (Nat.le_refl _) _ | (refine bc _ _ (by assumption) (by assumption)))) hbN
              refine hK.out _ _ ?_ (fun hHeld => ?_)
              · (first | (repeat' (first | with_reducible assumption | exact Nat.le_refl _ | with_reducible refine Below.drew ?_ | with_reducible refine ba _ _ ?_ | omega | (simp <;> omega))) | (first | with_reducible assumption | (with_reducible refine Below.drew ?_; with_reducible assumption) | (with_reducible refine ba _ _ ?_; with_reducible assumption) | (with_reducible refine Below.drew ?_; with_reducible refine ba _ _ ?_; with_reducible assumption) | exact Below.refl _ _ | exact (Below.refl _ _).drew | exact (Below.refl _ _).alloc (Nat.le_refl _) _ | (refine bc _ _ (by assumption) (by assumption))))
              clear hK K
              refine RegOk.put_ (m' := 4294967295) (by kernel_rfl) ?_
              try simp only [Act.put, List.setIfInBounds_toArray, List.set_cons_zero, List.set_cons_succ]
              refine hR.take (i := 32) (oi := ?ow877_32) (v := ?vw877_32) (m' := 8589934591) ?hw877_32 (by kernel_rfl) (by kernel_rfl) (fun _ _ _ h => h) (Or.inl ⟨?sw877_32, ?yw877_32⟩) (by assumption) ?nw877_32
              case hw877_32 => simp only [List.getElem?_toArray, List.getElem?_cons_succ, List.getElem?_cons_zero]; rfl
              case sw877_32 => rfl
              case yw877_32 => (intro w hSw; (try dsimp only at hSw); go_simp <;> with_reducible rfl)
              try simp only [Act.put, List.setIfInBounds_toArray, List.set_cons_zero, List.set_cons_succ]
              refine hR.all (by kernel_rfl) ?_ _
              refine NoPanic.normal ?_
              go_wp2_with fail
              go_roundw
              case rel => exact ⟨k + 1, by omega, by go_num, by rw [HS0.out, if_pos PB.out, ← Int.add_assoc, HY.out], Lib.hid (hbx.out.trans (Below.mono (by (first | with_reducible assumption | (with_reducible refine Below.drew ?_; with_reducible assumption) | (with_reducible refine ba _ _ ?_; with_reducible assumption) | (with_reducible refine Below.drew ?_; with_reducible refine ba _ _ ?_; with_reducible assumption) | exact Below.refl _ _ | exact (Below.refl _ _).drew | exact (Below.refl _ _).alloc (Nat.le_refl _) _ | (refine bc _ _ (by assumption) (by assumption)))) hbx.out.size))⟩
              case measure => simp [intOf]; omega
        · have hk1 : ¬ (k : Int) < (nv : Int) := by omega
          obtain rfl : k = nv := by omega
          go_wp2_with fail
          go_roundw
          case rel => exact ⟨j + 1, by omega, by go_num, by rw [pair_step HR.out, HZ.out, ← HY.out, List.take_of_length_le (by rw [HNV.out]; omega)], hbx⟩
          case measure => simp [intOf]; omega
    · have hj1 : ¬ (j : Int) < (nv : Int) := by omega
      obtain rfl : j = nv := by omega
      rw [List.take_of_length_le (by rw [HNV.out]; omega)] at HZ
      obtain ⟨xs, hxs⟩ : ∃ xs, sumsF ⟨7, 0, 0, [f1, f2]⟩ (liveF s) = xs := ⟨_, rfl⟩
      have hys : resF ⟨7, 0, 0, [f1, f2]⟩ xs = [z] := by
        have h1 : resF ⟨7, 0, 0, [f1, f2]⟩ xs = [pairK xs 16] := rfl
        rw [h1, ← hxs, pairK_sums, HLV.out, pairs_all HVL.out HVL.out, HZ.out]
      have hxn : xs.length = 32 := sums_len2 hxs (by kernel_rfl)
      have HXS := Lib.hid hxs
      have HYS := Lib.hid hys
      have HXN := Lib.hid hxn
      have VQ := Lib.hid (q7_valid V1.out V2.out)
      have WQ := Lib.hid (q7_narrow (f := f1) (g := f2))
      clear hxs hys hxn
      have Sr := mvSt Ss hbr.out
      have Fr := mvF FF hbr.out
      obtain ⟨x0, x1, x2, x3⟩ := row4 (mvQ gQ hbr.out)
      obtain ⟨L, cl, G, cg, hg, hsL, hsG⟩ := Sr.out
      obtain ⟨s0, s1⟩ := two2 (Lib.hid hg)
      have HSL := Lib.hid hsL
      have HSG := Lib.hid hsG
      clear hg hsL hsG
      have hfd : ∀ A c B d w, (Instr.field 36 (.agg #[.slice A 32 c, .slice B 1 d]) 1).run Tryd.prog w = .ok (.slice B 1 d) w := fun _ _ _ _ _ => by kernel_rfl
      go_wp2_with (first
        | (go_at_call 15; ((with_reducible refine (answerN (q := ⟨7, 0, 0, [f1, f2]⟩) (s := s) (f := 2) (n := 32) (m := 1) HXS.out HYS.out rfl HXN.out rfl rfl rfl _ VQ.out WQ.out HOKs.out hls1000 Fr.out HSL.out HSG.out).mono ?_)); rintro e wA ⟨A8, c8, B8, d8, rfl, h1, h2, hbA⟩; have HA := Lib.hid (h2.sub (T := fun _ => True) (fun _ _ _ => trivial)); have hkA := hbr.out.trans (hbA.mono hbr.out.size); clear h1 h2 hbA)
        | (go_at_call 17; ((with_reducible refine (same15N (A := B8) (xs := [z]) (n := 1) (S := fun _ => True) (T := fun _ => True) rfl _ ?ma ?mb).mono ?_)); (case ma => exact HA.out.alloc_ _); (case mb => exact Sl.litAt (S := fun _ => True) (T := fun _ => True) rfl (.single rfl) (by unfold maxLen; simp) (fun _ _ _ => trivial) trivial); rintro e wS ⟨rfl, hbS⟩))
      go_ret
      exact ⟨rfl, b5.out.trans (((hkA.alloc hkA.size _).trans (hbS.mono (by have := hkA.size; simp; omega))).mono b5.out.size)⟩
end Go.Proofs.YtmkpaolbejlodaaDoor
