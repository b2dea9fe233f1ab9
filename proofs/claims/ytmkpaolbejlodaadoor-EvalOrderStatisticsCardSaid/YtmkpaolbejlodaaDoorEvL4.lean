/-
  The law 'EvalOrderStatistics', walked: it returns true for every input, and nothing that existed changes. No condition.
-/
import Derived.Lib.Mul64
import Derived.Laws.Bits64b
import Derived.Shelf.Bits.Mul64
import Derived.Test.YtmkpaolbejlodaaDoorD1
import Derived.Test.YtmkpaolbejlodaaDoorD2
import Derived.Test.YtmkpaolbejlodaaDoorD3
import Derived.Test.YtmkpaolbejlodaaDoorD4
import Derived.Test.YtmkpaolbejlodaaDoorD5
import Derived.Test.YtmkpaolbejlodaaDoorD6
import Derived.Test.YtmkpaolbejlodaaDoorD7
import Derived.Test.YtmkpaolbejlodaaDoorD8
import Derived.Test.YtmkpaolbejlodaaDoorD9
import Derived.Test.YtmkpaolbejlodaaDoorD10
import Derived.Test.YtmkpaolbejlodaaDoorD11
set_option linter.unusedSimpArgs false
set_option linter.unusedVariables false
namespace Go.Proofs.YtmkpaolbejlodaaDoor
open Go.RowKit

theorem sums_len2 {q : Qy} {s : Str} {xs : List Int} {n : Nat} (h : sumsF q (liveF s) = xs) (hn : nSums q = n) : xs.length = n := by rw [← h, sumsF_len, hn]
theorem and1_u8 (n : Int) : bits BinOp.and IntKind.u8 n 1 = 0 ∨ bits BinOp.and IntKind.u8 n 1 = 1 := by
  obtain ⟨r, hr⟩ : ∃ r, (BitVec.ofInt 8 n &&& BitVec.ofInt 8 1).toNat = r := ⟨_, rfl⟩
  have hle : r ≤ 1 := by rw [← hr, BitVec.toNat_and]; exact Nat.le_trans Nat.and_le_right (by decide)
  have h1 : bits BinOp.and IntKind.u8 n 1 = (r : Int) := by
    show IntKind.u8.wrap ((BitVec.ofInt 8 n &&& BitVec.ofInt 8 1).toNat : Int) = _
    rw [hr]
    exact IntWalk.u8_in _ (by omega)
  rw [h1]
  omega
theorem mvO {α : Type} {E : Enc α} {S : Nat → Prop} {w w' : World} {base : Nat} {e : TypeId} {v : Value} {l : List α} (h : Hid (Own E S w base e v l)) (hb : Below w.heap.size w w') : Hid (Own E S w' base e v l) := Lib.hid (h.out.call hb)
theorem zip_at {l : List Rd} {g : List Bool} {i : Nat} {r : Rd} {b : Bool} (h1 : l[i]? = some r) (h2 : g[i]? = some b) : (l.zip g)[i]? = some (r, b) := by
  rw [List.getElem?_zip_eq_some]; exact ⟨h1, h2⟩
def evL4 : List FRow := [(0, ([], (48, [10]))), (1, ([0], (49, [47]))), (2, ([], (50, [15]))), (3, ([1, 2], (51, [48, 49]))), (4, ([3], (52, [50]))), (5, ([4], (53, [51]))), (6, ([5], (54, [52]))), (7, ([6], (55, [11, 53]))), (8, ([7, 6], (56, [54, 53]))), (9, ([8, 6], (57, [55, 53]))), (10, ([6], (58, [10, 53]))), (11, ([10, 6], (59, [57, 53]))), (12, ([6], (60, [15, 53]))), (13, ([11, 12, 6], (61, [58, 59, 53]))), (14, ([13, 6], (62, [60, 53]))), (15, ([9, 14, 6, 6], (63, [56, 61, 53]))), (16, ([6, 15], (64, [53, 62]))), (17, ([16, 15], (65, [63]))), (18, ([17], (66, [10, 64]))), (19, ([18, 17], (67, [65, 64]))), (20, ([17], (68, [15, 64]))), (21, ([19, 20, 17], (69, [66, 67, 64]))), (22, ([21, 17], (70, [68, 64]))), (23, ([17], (71, [12, 64]))), (24, ([22, 23, 17, 17], (72, [69, 70, 64]))), (25, ([17], (73, [14, 64]))), (26, ([24, 25, 17], (74, [71, 72, 64]))), (27, ([17, 26], (75, [64, 73])))]
set_option maxRecDepth 100000 in
set_option maxHeartbeats 8000000 in
theorem walk_EvalOrderStatistics {l : List ROp} {fc : List Cd} {A L : Option Addr} {c cl : Nat} {b0 b1 : Int} (w : World) (h : Sl cdE (fun _ => True) w A c fc) (hl : Sl ropE (fun _ => True) w L cl l) (hb0 : 0 ≤ b0 ∧ b0 ≤ 255) (hb1 : 0 ≤ b1 ∧ b1 ≤ 255) :
    Calls Tryd.prog 6 #[.slice A fc.length c, .slice L l.length cl, .int .u8 b0, .int .u8 b1] w fun e w' => e = .returned (.bool true) ∧ Below w.heap.size w w' := by
  obtain ⟨n, rfl⟩ : ∃ m : Nat, b0 = m := ⟨b0.toNat, by omega⟩
  obtain ⟨kk, rfl⟩ : ∃ m : Nat, b1 = m := ⟨b1.toNat, by omega⟩
  have hn0 : (0 : Int) ≤ (n : Int) := by omega
  have hn255 : n ≤ 255 := by omega
  have hkk255 : kk ≤ 255 := by omega
  have HC := Lib.hid h
  have HL := Lib.hid hl
  have hq63 := h.max
  have hl63 := hl.max
  clear h hl hb0 hb1
  go_enter Tryd.func6, Tryd.ntmps6
  go_upto_region 1 with fail
  go_upto_region 2 with (go_at_call 10; refine (sanityL15 _).mono ?_; rintro e w2 ⟨rfl, hb2⟩; have b2 := Lib.hid hb2; have HC2 := Lib.hid (HC.out.keep (Below.agree hb2)); have HL2 := Lib.hid (HL.out.keep (Below.agree hb2)); clear hb2)
  clear HC HL
  obtain ⟨s, hs⟩ : ∃ s, madeF 20 l = s := ⟨_, rfl⟩
  have hok := madeF_ok 20 l
  rw [hs] at hok
  have HMSs := Lib.hid hs
  have HOKs := Lib.hid hok.1
  have hls := hok.2
  have hls1000 : s.l.length ≤ 1000 := by omega
  clear hs hok
  go_upto_region 2 with fail
  go_cut [10] (fun p wx => ∃ g, p = .pointer (some ⟨g, 0, none⟩) ∧ StB wx g s s.l.length s.g.length ∧ Below w2.heap.size w2 wx)
  case first =>
    go_wp2_with (go_at_call 12; refine (madeR (most := 20) (l := l) _ HL2.out (by omega)).mono ?_; rw [HMSs.out]; rintro e wC ⟨A', c', B', d', rfl, h1, h2, hbC⟩; have H1 := Lib.hid h1; have H2 := Lib.hid h2; have bC := Lib.hid hbC; clear h1 h2 hbC)
    go_meet
    case rel => exact ⟨_, rfl, ⟨A', c', B', d', heap_alloc_at rfl, (H1.out.alloc_ _).sub (fun _ _ _ => trivial), (H2.out.alloc_ _).sub (fun _ _ _ => trivial)⟩, bC.out.alloc bC.out.size _⟩
  obtain ⟨gs, rfl, hst, hb⟩ := hcut
  obtain ⟨w3, hwv⟩ : ∃ x, x = wc := ⟨_, rfl⟩
  subst hwv
  have Ss := Lib.hid hst
  have b3 := Lib.hid (b2.out.trans (hb.mono b2.out.size))
  replace HC2 := mvI HC2 hb
  clear hst hb b2 HL2
  have HC3 := HC2
  clear HC2
  go_upto_region 3 with fail
  go_cut [11] (fun v wx => ∃ (f : List Cd) (B : Option Addr), v = .slice B 1 1 ∧ ValidFlt f ∧ Sl cdE.slice (fun _ => True) wx B 1 [f] ∧ Below w3.heap.size w3 wx)
  case first =>
    go_wp2_with (go_at_call 22; refine (condsP _ HC3.out).mono ?_; rintro e wC ⟨f, hvf, A', c', rfl, h1, hbC⟩; have H1 := Lib.hid h1; have bC := Lib.hid hbC; have HVF := Lib.hid hvf; clear h1 hbC hvf)
    go_meet
    case rel => exact ⟨f, _, rfl, HVF.out, sl_fs1 (t := 49) (heap_alloc_at rfl) ((H1.out.alloc_ _).sub (T := fun _ => True) (fun _ _ _ => trivial)) trivial, bC.out.alloc bC.out.size _⟩
  obtain ⟨f, Bf, rfl, hvf, hs, hb⟩ := hcut
  obtain ⟨w4, hwv⟩ : ∃ x, x = wc := ⟨_, rfl⟩
  subst hwv
  have Vf := Lib.hid hvf
  have Ff := Lib.hid hs
  have b4 := Lib.hid (b3.out.trans (hb.mono b3.out.size))
  replace Ss := mvSt Ss hb
  clear hvf hs hb b3 HC3
  have HA1 := Lib.hid (and1_u8 (n : Int))
  go_upto_region 4 with fail
  go_cut [12] (fun v wx => ∃ m : Nat, ((m : Int) = 0 ∨ (m : Int) = 2) ∧ v = .int .i64 (m : Int) ∧ wx = w4)
  case first =>
    rcases HA1.out with h1 | h1
    · go_wp2_with fail
      go_meet
      case rel => exact ⟨0, .inl rfl, rfl, rfl⟩
    · go_wp2_with fail
      go_meet
      case rel => exact ⟨2, .inr rfl, rfl, rfl⟩
  obtain ⟨m, hm02, rfl, hwx⟩ := hcut
  subst hwx
  obtain ⟨w4, hwv⟩ : ∃ x, x = wc := ⟨_, rfl⟩
  subst hwv
  have HM02 := Lib.hid hm02
  have hm0 : (0 : Int) ≤ (m : Int) := by omega
  clear hm02 HA1
  obtain ⟨ps, hps⟩ : ∃ ps, s.l.zip s.g = ps := ⟨_, rfl⟩
  have hpl : ps.length = s.l.length := by rw [← hps, List.length_zip, HOKs.out.len, Nat.min_self]
  have HPS := Lib.hid hps
  obtain ⟨ns, hns⟩ : ∃ n, s.l.length = n := ⟨_, rfl⟩
  have HNS := Lib.hid hns
  have hns20 : ns ≤ 20 := by omega
  have HPL := Lib.hid (show ps.length = ns by rw [hpl, hns])
  clear hps hpl hns
  obtain ⟨L4, cl4, G4, cg4, hg, hsL, hsG⟩ := Ss.out
  rw [HNS.out] at hg
  have gS := Lib.hid hg
  have HSL := Lib.hid hsL
  have HSG := Lib.hid hsG
  clear hg hsL hsG
  obtain ⟨bF, oF, B1, d1, rfl, -, lF, u0, hf1⟩ := flt_at Ff.out (i := 0) (r := f) rfl
  have U0 := Lib.hid u0
  have HF1 := Lib.hid hf1
  have VV := Lib.hid (show ∀ x ∈ f, ValidCd x from And.right Vf.out)
  clear u0 hf1
  go_wp2_with fail
  go_loopw [13, 14] (fun vs i wr => ∃ (v : Nat) (A : Option Addr) (c k : Nat), v ≤ 16 ∧ i = .int .i64 v ∧ vs = .slice A k c ∧ Hid ((valTo f m ps v).length = k) ∧ Hid (Own .i64 (fun _ => False) wr w4.heap.size 2 (.slice A k c) (valTo f m ps v)) ∧ Hid (Below w4.heap.size w4 wr)) (fun _ i _ => 16 - (intOf i).toNat)
  case atStart => exact ⟨0, _, 0, 0, Nat.zero_le _, rfl, rfl, Lib.hid rfl, Lib.hid (Own.litAt _ _ _ _ rfl (Nat.le_refl _)), Lib.hid ((Below.refl _ _).alloc (Nat.le_refl _) _)⟩
  case round =>
    obtain ⟨v, A0, c0, k0, hv, rfl, rfl, HK0, HO0, hbr⟩ := hrel
    have hv0 : (0 : Int) ≤ (v : Int) := by omega
    by_cases hlt : v < 16
    · have hv1 : (v : Int) < 16 := by omega
      go_wp2_with fail
      go_loopw [13, 15] (fun vs i wx => ∃ (j : Nat) (A : Option Addr) (c k : Nat), j ≤ ns ∧ i = .int .i64 j ∧ vs = .slice A k c ∧ Hid ((valTo f m ps v ++ List.replicate (cntP f m v (ps.take j)) (v : Int)).length = k) ∧ Hid (Own .i64 (fun _ => False) wx w4.heap.size 2 (.slice A k c) (valTo f m ps v ++ List.replicate (cntP f m v (ps.take j)) (v : Int))) ∧ Hid (Below w4.heap.size w4 wx)) (fun _ i _ => ns - (intOf i).toNat)
      case atStart => exact ⟨0, A0, c0, k0, Nat.zero_le _, rfl, rfl, Lib.hid (by simp [cntP]; exact HK0.out), Lib.hid (by simpa [cntP] using HO0.out), hbr⟩
      case round =>
        obtain ⟨j, A1, c1, k1, hj, rfl, rfl, HK1, HO1, hbx⟩ := hrel
        have hk320 : k1 ≤ 1000 := by
          have h1 := valTo_len f m ps v
          have h2 := cnt_le f m v (ps.take j)
          have h3 : (ps.take j).length ≤ j := List.length_take_le _ _
          have h4 := HK1.out
          rw [HPL.out] at h1
          rw [List.length_append, List.length_replicate] at h4
          have h5 : v * ns ≤ 16 * 20 := Nat.mul_le_mul hv hns20
          omega
        have hj0 : (0 : Int) ≤ (j : Int) := by omega
        have gsr := mvQ gS hbx.out
        obtain ⟨s0, s1⟩ := two2 gsr
        by_cases hjt : j < ns
        · have hj1 : (j : Int) < (ns : Int) := by omega
          obtain ⟨r, hr⟩ : ∃ r, s.l[j]? = some r := ⟨_, List.getElem?_eq_getElem (by rw [HNS.out]; exact hjt)⟩
          obtain ⟨gb, hgb⟩ : ∃ b, s.g[j]? = some b := ⟨_, List.getElem?_eq_getElem (by rw [HOKs.out.len, HNS.out]; exact hjt)⟩
          have HST := Lib.hid (show cntP f m v (ps.take (j + 1)) = cntP f m v (ps.take j) + if prB f m v (r, gb) then 1 else 0 from cnt_step (by rw [← HPS.out]; exact zip_at hr hgb))
          have hjg : (j : Int) < (s.g.length : Int) := by rw [HOKs.out.len, HNS.out]; exact hj1
          obtain ⟨b2, o2, rfl, -, l2, x0, x1, x2, x3⟩ := rd_at (mvI HSL hbx.out).out hr
          obtain ⟨b3, o3, rfl, -, l3, y0⟩ := bool_at (mvI HSG hbx.out).out hgb
          have X := Lib.hid (show _ ∧ _ ∧ _ ∧ _ from ⟨x0, x1, x2, x3⟩)
          have Y := Lib.hid y0
          have zx : ∀ W, Below wr.heap.size wr W → W.cell? ⟨b2, o2 + j * 4, none⟩ = some (.int .i64 r.who) ∧ W.cell? ⟨b2, o2 + j * 4 + 1, none⟩ = some (.int .i64 r.whn) ∧ W.cell? ⟨b2, o2 + j * 4 + 2, none⟩ = some (.int .i64 r.knd) ∧ W.cell? ⟨b2, o2 + j * 4 + 3, none⟩ = some (.int .i64 r.val) := fun W hW => ⟨(hW.cell (p := ⟨b2, o2 + j * 4, none⟩) l2).trans X.out.1, (hW.cell (p := ⟨b2, o2 + j * 4 + 1, none⟩) l2).trans X.out.2.1, (hW.cell (p := ⟨b2, o2 + j * 4 + 2, none⟩) l2).trans X.out.2.2.1, (hW.cell (p := ⟨b2, o2 + j * 4 + 3, none⟩) l2).trans X.out.2.2.2⟩
          have zb : ∀ W, Below wr.heap.size wr W → W.cell? ⟨b3, o3 + j, none⟩ = some (.bool gb) := fun W hW => (hW.cell (p := ⟨b3, o3 + j, none⟩) l3).trans Y.out
          have zs : ∀ W, Below wr.heap.size wr W → _ ∧ _ := fun W hW => two2 (mvQ gsr hW)
          have v0 := Lib.hid ((hbx.out.cell (p := ⟨bF, oF + 0, none⟩) lF).trans U0.out)
          have lF2 := Nat.lt_of_lt_of_le lF hbx.out.size
          have zf : ∀ W, Below wr.heap.size wr W → W.cell? ⟨bF, oF, none⟩ = some (.slice B1 f.length d1) := fun W hW => (hW.cell (p := ⟨bF, oF, none⟩) lF2).trans v0.out
          have P1 := mvI HF1 hbx.out
          have lgs := heap_lt gsr.out
          have lo1 := HO1.out.lt
          have hnn1 : ((v : Int) == (v : Int)) = true := by simp
          clear x0 x1 x2 x3 y0 hr hgb s0 s1
          have br : Below wr.heap.size wr wr := Below.refl _ _
          have ba : ∀ W o, Below wr.heap.size wr W → Below wr.heap.size wr (W.alloc o) := fun W o h => h.alloc h.size o
          have bc : ∀ W W', Below wr.heap.size wr W → Below W.heap.size W W' → Below wr.heap.size wr W' := fun W W' h k => h.trans (k.mono h.size)
          go_upto_region 12 with fail
          cases gb with
          | true =>
            have PB := Lib.hid (show prB f m v (r, true) = false by simp [prB])
            refine wp_region_noPanic ?_
            refine wp_region_held_drew (S := fun X => Below wr.heap.size wr X) (by kernel_rfl) ?_ (fun hHeld => ?_)
            · (first | (repeat' (first | with_reducible assumption | exact Nat.le_refl _ | with_reducible refine Below.drew ?_ | with_reducible refine ba _ _ ?_ | omega | (simp <;> omega))) | (first | with_reducible assumption | (with_reducible refine Below.drew ?_; with_reducible assumption) | (with_reducible refine ba _ _ ?_; with_reducible assumption) | (with_reducible refine Below.drew ?_; with_reducible refine ba _ _ ?_; with_reducible assumption) | exact Below.refl _ _ | exact (Below.refl _ _).drew | exact (Below.refl _ _).alloc (Nat.le_refl _) _ | (refine bc _ _ (by assumption) (by assumption))))
            refine RegOk.begin_ (n := 28) (T := evL4) ⟨by kernel_rfl, by kernel_rfl, by kernel_rfl, by kernel_rfl⟩ fun hR => ?_
            refine hR.take (i := 0) (oi := ?ow746_0) (v := ?vw746_0) (m' := 1) ?hw746_0 (by kernel_rfl) (by kernel_rfl) (fun _ _ _ h => h) (Or.inl ⟨?sw746_0, ?yw746_0⟩) (by assumption) ?nw746_0
            case hw746_0 => simp only [List.getElem?_toArray, List.getElem?_cons_succ, List.getElem?_cons_zero]; rfl
            case sw746_0 => rfl
            case yw746_0 => (intro w hSw; (try dsimp only at hSw); go_simp <;> with_reducible rfl)
            try simp only [Act.put, List.setIfInBounds_toArray, List.set_cons_zero, List.set_cons_succ]
            refine hR.take (i := 1) (oi := ?ow747_1) (v := ?vw747_1) (m' := 3) ?hw747_1 (by kernel_rfl) (by kernel_rfl) (fun _ _ _ h => h) (Or.inl ⟨?sw747_1, ?yw747_1⟩) (by assumption) ?nw747_1
            case hw747_1 => simp only [List.getElem?_toArray, List.getElem?_cons_succ, List.getElem?_cons_zero]; rfl
            case sw747_1 => rfl
            case yw747_1 => (intro w hSw; (try dsimp only at hSw); go_simp <;> with_reducible rfl)
            try simp only [Act.put, List.setIfInBounds_toArray, List.set_cons_zero, List.set_cons_succ]
            refine hR.take (i := 2) (oi := ?ow748_2) (v := ?vw748_2) (m' := 7) ?hw748_2 (by kernel_rfl) (by kernel_rfl) (fun _ _ _ h => h) (Or.inl ⟨?sw748_2, ?yw748_2⟩) (by assumption) ?nw748_2
            case hw748_2 => simp only [List.getElem?_toArray, List.getElem?_cons_succ, List.getElem?_cons_zero]; rfl
            case sw748_2 => rfl
            case yw748_2 => (intro w hSw; (try dsimp only at hSw); go_simp <;> with_reducible rfl)
            try simp only [Act.put, List.setIfInBounds_toArray, List.set_cons_zero, List.set_cons_succ]
            refine hR.take (i := 3) (oi := ?ow749_3) (v := ?vw749_3) (m' := 15) ?hw749_3 (by kernel_rfl) (by kernel_rfl) (fun _ _ _ h => h) (Or.inl ⟨?sw749_3, ?yw749_3⟩) (by assumption) ?nw749_3
            case hw749_3 => simp only [List.getElem?_toArray, List.getElem?_cons_succ, List.getElem?_cons_zero]; rfl
            case sw749_3 => rfl
            case yw749_3 => (intro w hSw; (try dsimp only at hSw); go_simp <;> with_reducible rfl)
            try simp only [Act.put, List.setIfInBounds_toArray, List.set_cons_zero, List.set_cons_succ]
            refine hR.take (i := 4) (oi := ?ow750_4) (v := ?vw750_4) (m' := 31) ?hw750_4 (by kernel_rfl) (by kernel_rfl) (fun _ _ _ h => h) (Or.inl ⟨?sw750_4, ?yw750_4⟩) (by assumption) ?nw750_4
            case hw750_4 => simp only [List.getElem?_toArray, List.getElem?_cons_succ, List.getElem?_cons_zero]; rfl
            case sw750_4 => rfl
            case yw750_4 => (intro w hSw; (try dsimp only at hSw); go_simp <;> with_reducible rfl)
            try simp only [Act.put, List.setIfInBounds_toArray, List.set_cons_zero, List.set_cons_succ]
            refine hR.take (i := 5) (oi := ?ow751_5) (v := ?vw751_5) (m' := 63) ?hw751_5 (by kernel_rfl) (by kernel_rfl) (fun _ _ _ h => h) (Or.inl ⟨?sw751_5, ?yw751_5⟩) (by assumption) ?nw751_5
            case hw751_5 => simp only [List.getElem?_toArray, List.getElem?_cons_succ, List.getElem?_cons_zero]; rfl
            case sw751_5 => rfl
            case yw751_5 => (intro w hSw; (try dsimp only at hSw); go_simp <;> with_reducible rfl)
            try simp only [Act.put, List.setIfInBounds_toArray, List.set_cons_zero, List.set_cons_succ]
            refine hR.take (i := 6) (oi := ?ow752_6) (v := ?vw752_6) (m' := 127) ?hw752_6 (by kernel_rfl) (by kernel_rfl) (fun _ _ _ h => h) (Or.inl ⟨?sw752_6, ?yw752_6⟩) (by assumption) ?nw752_6
            case hw752_6 => simp only [List.getElem?_toArray, List.getElem?_cons_succ, List.getElem?_cons_zero]; rfl
            case sw752_6 => rfl
            case yw752_6 => (intro w hSw; (try dsimp only at hSw); go_simp <;> with_reducible rfl)
            try simp only [Act.put, List.setIfInBounds_toArray, List.set_cons_zero, List.set_cons_succ]
            refine hR.take (i := 7) (oi := ?ow753_7) (v := ?vw753_7) (m' := 255) ?hw753_7 (by kernel_rfl) (by kernel_rfl) (fun _ _ _ h => h) (Or.inr ⟨?sw753_7, ?yw753_7⟩) (by assumption) ?nw753_7
            case hw753_7 => simp only [List.getElem?_toArray, List.getElem?_cons_succ, List.getElem?_cons_zero]; rfl
            case sw753_7 => rfl
            case yw753_7 => rfl
            try simp only [Act.put, List.setIfInBounds_toArray, List.set_cons_zero, List.set_cons_succ]
            refine hR.take (i := 8) (oi := ?ow754_8) (v := ?vw754_8) (m' := 511) ?hw754_8 (by kernel_rfl) (by kernel_rfl) (fun _ _ _ h => h) (Or.inr ⟨?sw754_8, ?yw754_8⟩) (by assumption) ?nw754_8
            case hw754_8 => simp only [List.getElem?_toArray, List.getElem?_cons_succ, List.getElem?_cons_zero]; rfl
            case sw754_8 => rfl
            case yw754_8 => rfl
            try simp only [Act.put, List.setIfInBounds_toArray, List.set_cons_zero, List.set_cons_succ]
            refine hR.take (i := 9) (oi := ?ow755_9) (v := ?vw755_9) (m' := 1023) ?hw755_9 (by kernel_rfl) (by kernel_rfl) (fun _ _ _ h => h) (Or.inr ⟨?sw755_9, ?yw755_9⟩) (by assumption) ?nw755_9
            case hw755_9 => simp only [List.getElem?_toArray, List.getElem?_cons_succ, List.getElem?_cons_zero]; rfl
            case sw755_9 => rfl
            case yw755_9 => rfl
            try simp only [Act.put, List.setIfInBounds_toArray, List.set_cons_zero, List.set_cons_succ]
            refine hR.take (i := 10) (oi := ?ow756_10) (v := ?vw756_10) (m' := 2047) ?hw756_10 (by kernel_rfl) (by kernel_rfl) (fun _ _ _ h => h) (Or.inr ⟨?sw756_10, ?yw756_10⟩) (by assumption) ?nw756_10
            case hw756_10 => simp only [List.getElem?_toArray, List.getElem?_cons_succ, List.getElem?_cons_zero]; rfl
            case sw756_10 => rfl
            case yw756_10 => rfl
            try simp only [Act.put, List.setIfInBounds_toArray, List.set_cons_zero, List.set_cons_succ]
            refine hR.take (i := 11) (oi := ?ow757_11) (v := ?vw757_11) (m' := 4095) ?hw757_11 (by kernel_rfl) (by kernel_rfl) (fun _ _ _ h => h) (Or.inr ⟨?sw757_11, ?yw757_11⟩) (by assumption) ?nw757_11
            case hw757_11 => simp only [List.getElem?_toArray, List.getElem?_cons_succ, List.getElem?_cons_zero]; rfl
            case sw757_11 => rfl
            case yw757_11 => rfl
            try simp only [Act.put, List.setIfInBounds_toArray, List.set_cons_zero, List.set_cons_succ]
            refine hR.take (i := 12) (oi := ?ow758_12) (v := ?vw758_12) (m' := 8191) ?hw758_12 (by kernel_rfl) (by kernel_rfl) (fun _ _ _ h => h) (Or.inr ⟨?sw758_12, ?yw758_12⟩) (by assumption) ?nw758_12
            case hw758_12 => simp only [List.getElem?_toArray, List.getElem?_cons_succ, List.getElem?_cons_zero]; rfl
            case sw758_12 => rfl
            case yw758_12 => rfl
            try simp only [Act.put, List.setIfInBounds_toArray, List.set_cons_zero, List.set_cons_succ]
            refine hR.take (i := 13) (oi := ?ow759_13) (v := ?vw759_13) (m' := 16383) ?hw759_13 (by kernel_rfl) (by kernel_rfl) (fun _ _ _ h => h) (Or.inr ⟨?sw759_13, ?yw759_13⟩) (by assumption) ?nw759_13
            case hw759_13 => simp only [List.getElem?_toArray, List.getElem?_cons_succ, List.getElem?_cons_zero]; rfl
            case sw759_13 => rfl
            case yw759_13 => rfl
            try simp only [Act.put, List.setIfInBounds_toArray, List.set_cons_zero, List.set_cons_succ]
            refine hR.take (i := 14) (oi := ?ow760_14) (v := ?vw760_14) (m' := 32767) ?hw760_14 (by kernel_rfl) (by kernel_rfl) (fun _ _ _ h => h) (Or.inr ⟨?sw760_14, ?yw760_14⟩) (by assumption) ?nw760_14
            case hw760_14 => simp only [List.getElem?_toArray, List.getElem?_cons_succ, List.getElem?_cons_zero]; rfl
            case sw760_14 => rfl
            case yw760_14 => rfl
            try simp only [Act.put, List.setIfInBounds_toArray, List.set_cons_zero, List.set_cons_succ]
            refine hR.take (i := 15) (oi := ?ow761_15) (v := ?vw761_15) (m' := 65535) ?hw761_15 (by kernel_rfl) (by kernel_rfl) (fun _ _ _ h => h) (Or.inr ⟨?sw761_15, ?yw761_15⟩) (by assumption) ?nw761_15
            case hw761_15 => simp only [List.getElem?_toArray, List.getElem?_cons_succ, List.getElem?_cons_zero]; rfl
            case sw761_15 => rfl
            case yw761_15 => rfl
            try simp only [Act.put, List.setIfInBounds_toArray, List.set_cons_zero, List.set_cons_succ]
            refine hR.take (i := 16) (oi := ?ow762_16) (v := ?vw762_16) (m' := 131071) ?hw762_16 (by kernel_rfl) (by kernel_rfl) (fun _ _ _ h => h) (Or.inl ⟨?sw762_16, ?yw762_16⟩) (by assumption) ?nw762_16
            case hw762_16 => simp only [List.getElem?_toArray, List.getElem?_cons_succ, List.getElem?_cons_zero]; rfl
            case sw762_16 => rfl
            case yw762_16 => (intro w hSw; (try dsimp only at hSw); go_simp <;> with_reducible rfl)
            try simp only [Act.put, List.setIfInBounds_toArray, List.set_cons_zero, List.set_cons_succ]
            refine hR.take (i := 17) (oi := ?ow763_17) (v := ?vw763_17) (m' := 262143) ?hw763_17 (by kernel_rfl) (by kernel_rfl) (fun _ _ _ h => h) (Or.inl ⟨?sw763_17, ?yw763_17⟩) (by assumption) ?nw763_17
            case hw763_17 => simp only [List.getElem?_toArray, List.getElem?_cons_succ, List.getElem?_cons_zero]; rfl
            case sw763_17 => rfl
            case yw763_17 => (intro w hSw; (try dsimp only at hSw); go_simp <;> with_reducible rfl)
            try simp only [Act.put, List.setIfInBounds_toArray, List.set_cons_zero, List.set_cons_succ]
            refine hR.take (i := 18) (oi := ?ow764_18) (v := ?vw764_18) (m' := 524287) ?hw764_18 (by kernel_rfl) (by kernel_rfl) (fun _ _ _ h => h) (Or.inr ⟨?sw764_18, ?yw764_18⟩) (by assumption) ?nw764_18
            case hw764_18 => simp only [List.getElem?_toArray, List.getElem?_cons_succ, List.getElem?_cons_zero]; rfl
            case sw764_18 => rfl
            case yw764_18 => rfl
            try simp only [Act.put, List.setIfInBounds_toArray, List.set_cons_zero, List.set_cons_succ]
            refine hR.take (i := 19) (oi := ?ow765_19) (v := ?vw765_19) (m' := 1048575) ?hw765_19 (by kernel_rfl) (by kernel_rfl) (fun _ _ _ h => h) (Or.inr ⟨?sw765_19, ?yw765_19⟩) (by assumption) ?nw765_19
            case hw765_19 => simp only [List.getElem?_toArray, List.getElem?_cons_succ, List.getElem?_cons_zero]; rfl
            case sw765_19 => rfl
            case yw765_19 => rfl
            try simp only [Act.put, List.setIfInBounds_toArray, List.set_cons_zero, List.set_cons_succ]
            refine hR.take (i := 20) (oi := ?ow766_20) (v := ?vw766_20) (m' := 2097151) ?hw766_20 (by kernel_rfl) (by kernel_rfl) (fun _ _ _ h => h) (Or.inr ⟨?sw766_20, ?yw766_20⟩) (by assumption) ?nw766_20
            case hw766_20 => simp only [List.getElem?_toArray, List.getElem?_cons_succ, List.getElem?_cons_zero]; rfl
            case sw766_20 => rfl
            case yw766_20 => rfl
            try simp only [Act.put, List.setIfInBounds_toArray, List.set_cons_zero, List.set_cons_succ]
            refine hR.take (i := 21) (oi := ?ow767_21) (v := ?vw767_21) (m' := 4194303) ?hw767_21 (by kernel_rfl) (by kernel_rfl) (fun _ _ _ h => h) (Or.inr ⟨?sw767_21, ?yw767_21⟩) (by assumption) ?nw767_21
            case hw767_21 => simp only [List.getElem?_toArray, List.getElem?_cons_succ, List.getElem?_cons_zero]; rfl
            case sw767_21 => rfl
            case yw767_21 => rfl
            try simp only [Act.put, List.setIfInBounds_toArray, List.set_cons_zero, List.set_cons_succ]
            refine hR.take (i := 22) (oi := ?ow768_22) (v := ?vw768_22) (m' := 8388607) ?hw768_22 (by kernel_rfl) (by kernel_rfl) (fun _ _ _ h => h) (Or.inr ⟨?sw768_22, ?yw768_22⟩) (by assumption) ?nw768_22
            case hw768_22 => simp only [List.getElem?_toArray, List.getElem?_cons_succ, List.getElem?_cons_zero]; rfl
            case sw768_22 => rfl
            case yw768_22 => rfl
            try simp only [Act.put, List.setIfInBounds_toArray, List.set_cons_zero, List.set_cons_succ]
            refine hR.take (i := 23) (oi := ?ow769_23) (v := ?vw769_23) (m' := 16777215) ?hw769_23 (by kernel_rfl) (by kernel_rfl) (fun _ _ _ h => h) (Or.inr ⟨?sw769_23, ?yw769_23⟩) (by assumption) ?nw769_23
            case hw769_23 => simp only [List.getElem?_toArray, List.getElem?_cons_succ, List.getElem?_cons_zero]; rfl
            case sw769_23 => rfl
            case yw769_23 => rfl
            try simp only [Act.put, List.setIfInBounds_toArray, List.set_cons_zero, List.set_cons_succ]
            refine hR.take (i := 24) (oi := ?ow770_24) (v := ?vw770_24) (m' := 33554431) ?hw770_24 (by kernel_rfl) (by kernel_rfl) (fun _ _ _ h => h) (Or.inr ⟨?sw770_24, ?yw770_24⟩) (by assumption) ?nw770_24
            case hw770_24 => simp only [List.getElem?_toArray, List.getElem?_cons_succ, List.getElem?_cons_zero]; rfl
            case sw770_24 => rfl
            case yw770_24 => rfl
            try simp only [Act.put, List.setIfInBounds_toArray, List.set_cons_zero, List.set_cons_succ]
            refine hR.take (i := 25) (oi := ?ow771_25) (v := ?vw771_25) (m' := 67108863) ?hw771_25 (by kernel_rfl) (by kernel_rfl) (fun _ _ _ h => h) (Or.inr ⟨?sw771_25, ?yw771_25⟩) (by assumption) ?nw771_25
            case hw771_25 => simp only [List.getElem?_toArray, List.getElem?_cons_succ, List.getElem?_cons_zero]; rfl
            case sw771_25 => rfl
            case yw771_25 => rfl
            try simp only [Act.put, List.setIfInBounds_toArray, List.set_cons_zero, List.set_cons_succ]
            refine hR.take (i := 26) (oi := ?ow772_26) (v := ?vw772_26) (m' := 134217727) ?hw772_26 (by kernel_rfl) (by kernel_rfl) (fun _ _ _ h => h) (Or.inr ⟨?sw772_26, ?yw772_26⟩) (by assumption) ?nw772_26
            case hw772_26 => simp only [List.getElem?_toArray, List.getElem?_cons_succ, List.getElem?_cons_zero]; rfl
            case sw772_26 => rfl
            case yw772_26 => rfl
            try simp only [Act.put, List.setIfInBounds_toArray, List.set_cons_zero, List.set_cons_succ]
            refine hR.take (i := 27) (oi := ?ow773_27) (v := ?vw773_27) (m' := 268435455) ?hw773_27 (by kernel_rfl) (by kernel_rfl) (fun _ _ _ h => h) (Or.inl ⟨?sw773_27, ?yw773_27⟩) (by assumption) ?nw773_27
            case hw773_27 => simp only [List.getElem?_toArray, List.getElem?_cons_succ, List.getElem?_cons_zero]; rfl
            case sw773_27 => rfl
            case yw773_27 => (intro w hSw; (try dsimp only at hSw); go_simp <;> with_reducible rfl)
            try simp only [Act.put, List.setIfInBounds_toArray, List.set_cons_zero, List.set_cons_succ]
            refine hR.all (by kernel_rfl) ?_ _
            refine NoPanic.normal ?_
            go_wp2_with fail
            go_roundw
            case rel => exact ⟨j + 1, A1, c1, k1, by omega, by go_num, rfl, Lib.hid (by rw [HST.out, if_neg (by rw [PB.out]; simp)]; exact HK1.out), Lib.hid (by rw [HST.out, if_neg (by rw [PB.out]; simp)]; exact (mvO HO1 (by (first | with_reducible assumption | (with_reducible refine Below.drew ?_; with_reducible assumption) | (with_reducible refine ba _ _ ?_; with_reducible assumption) | (with_reducible refine Below.drew ?_; with_reducible refine ba _ _ ?_; with_reducible assumption) | exact Below.refl _ _ | exact (Below.refl _ _).drew | exact (Below.refl _ _).alloc (Nat.le_refl _) _ | (refine bc _ _ (by assumption) (by assumption))))).out), Lib.hid (hbx.out.trans (Below.mono (by (first | with_reducible assumption | (with_reducible refine Below.drew ?_; with_reducible assumption) | (with_reducible refine ba _ _ ?_; with_reducible assumption) | (with_reducible refine Below.drew ?_; with_reducible refine ba _ _ ?_; with_reducible assumption) | exact Below.refl _ _ | exact (Below.refl _ _).drew | exact (Below.refl _ _).alloc (Nat.le_refl _) _ | (refine bc _ _ (by assumption) (by assumption)))) hbx.out.size))⟩
            case measure => simp [intOf]; omega
          
          | false =>
            cases hm1 : matchB f r with
            | false =>
              have PB := Lib.hid (show prB f m v (r, false) = false by simp [prB, hm1])
              refine wp_region_noPanic ?_
              refine wp_region_held_drew (S := fun X => Below wr.heap.size wr X) (by kernel_rfl) ?_ (fun hHeld => ?_)
              · (first | (repeat' (first | with_reducible assumption | exact Nat.le_refl _ | with_reducible refine Below.drew ?_ | with_reducible refine ba _ _ ?_ | omega | (simp <;> omega))) | (first | with_reducible assumption | (with_reducible refine Below.drew ?_; with_reducible assumption) | (with_reducible refine ba _ _ ?_; with_reducible assumption) | (with_reducible refine Below.drew ?_; with_reducible refine ba _ _ ?_; with_reducible assumption) | exact Below.refl _ _ | exact (Below.refl _ _).drew | exact (Below.refl _ _).alloc (Nat.le_refl _) _ | (refine bc _ _ (by assumption) (by assumption))))
              refine RegOk.begin_ (n := 28) (T := evL4) ⟨by kernel_rfl, by kernel_rfl, by kernel_rfl, by kernel_rfl⟩ fun hR => ?_
              refine hR.take (i := 0) (oi := ?ow774_0) (v := ?vw774_0) (m' := 1) ?hw774_0 (by kernel_rfl) (by kernel_rfl) (fun _ _ _ h => h) (Or.inl ⟨?sw774_0, ?yw774_0⟩) (by assumption) ?nw774_0
              case hw774_0 => simp only [List.getElem?_toArray, List.getElem?_cons_succ, List.getElem?_cons_zero]; rfl
              case sw774_0 => rfl
              case yw774_0 => (intro w hSw; (try dsimp only at hSw); go_simp <;> with_reducible rfl)
              try simp only [Act.put, List.setIfInBounds_toArray, List.set_cons_zero, List.set_cons_succ]
              refine hR.take (i := 1) (oi := ?ow775_1) (v := ?vw775_1) (m' := 3) ?hw775_1 (by kernel_rfl) (by kernel_rfl) (fun _ _ _ h => h) (Or.inl ⟨?sw775_1, ?yw775_1⟩) (by assumption) ?nw775_1
              case hw775_1 => simp only [List.getElem?_toArray, List.getElem?_cons_succ, List.getElem?_cons_zero]; rfl
              case sw775_1 => rfl
              case yw775_1 => (intro w hSw; (try dsimp only at hSw); go_simp <;> with_reducible rfl)
              try simp only [Act.put, List.setIfInBounds_toArray, List.set_cons_zero, List.set_cons_succ]
              refine hR.take (i := 2) (oi := ?ow776_2) (v := ?vw776_2) (m' := 7) ?hw776_2 (by kernel_rfl) (by kernel_rfl) (fun _ _ _ h => h) (Or.inl ⟨?sw776_2, ?yw776_2⟩) (by assumption) ?nw776_2
              case hw776_2 => simp only [List.getElem?_toArray, List.getElem?_cons_succ, List.getElem?_cons_zero]; rfl
              case sw776_2 => rfl
              case yw776_2 => (intro w hSw; (try dsimp only at hSw); go_simp <;> with_reducible rfl)
              try simp only [Act.put, List.setIfInBounds_toArray, List.set_cons_zero, List.set_cons_succ]
              refine hR.take (i := 3) (oi := ?ow777_3) (v := ?vw777_3) (m' := 15) ?hw777_3 (by kernel_rfl) (by kernel_rfl) (fun _ _ _ h => h) (Or.inl ⟨?sw777_3, ?yw777_3⟩) (by assumption) ?nw777_3
              case hw777_3 => simp only [List.getElem?_toArray, List.getElem?_cons_succ, List.getElem?_cons_zero]; rfl
              case sw777_3 => rfl
              case yw777_3 => (intro w hSw; (try dsimp only at hSw); go_simp <;> with_reducible rfl)
              try simp only [Act.put, List.setIfInBounds_toArray, List.set_cons_zero, List.set_cons_succ]
              refine hR.take (i := 4) (oi := ?ow778_4) (v := ?vw778_4) (m' := 31) ?hw778_4 (by kernel_rfl) (by kernel_rfl) (fun _ _ _ h => h) (Or.inl ⟨?sw778_4, ?yw778_4⟩) (by assumption) ?nw778_4
              case hw778_4 => simp only [List.getElem?_toArray, List.getElem?_cons_succ, List.getElem?_cons_zero]; rfl
              case sw778_4 => rfl
              case yw778_4 => (intro w hSw; (try dsimp only at hSw); go_simp <;> with_reducible rfl)
              try simp only [Act.put, List.setIfInBounds_toArray, List.set_cons_zero, List.set_cons_succ]
              refine hR.take (i := 5) (oi := ?ow779_5) (v := ?vw779_5) (m' := 63) ?hw779_5 (by kernel_rfl) (by kernel_rfl) (fun _ _ _ h => h) (Or.inl ⟨?sw779_5, ?yw779_5⟩) (by assumption) ?nw779_5
              case hw779_5 => simp only [List.getElem?_toArray, List.getElem?_cons_succ, List.getElem?_cons_zero]; rfl
              case sw779_5 => rfl
              case yw779_5 => (intro w hSw; (try dsimp only at hSw); go_simp <;> with_reducible rfl)
              try simp only [Act.put, List.setIfInBounds_toArray, List.set_cons_zero, List.set_cons_succ]
              refine hR.take (i := 6) (oi := ?ow780_6) (v := ?vw780_6) (m' := 127) ?hw780_6 (by kernel_rfl) (by kernel_rfl) (fun _ _ _ h => h) (Or.inl ⟨?sw780_6, ?yw780_6⟩) (by assumption) ?nw780_6
              case hw780_6 => simp only [List.getElem?_toArray, List.getElem?_cons_succ, List.getElem?_cons_zero]; rfl
              case sw780_6 => rfl
              case yw780_6 => (intro w hSw; (try dsimp only at hSw); go_simp <;> with_reducible rfl)
              try simp only [Act.put, List.setIfInBounds_toArray, List.set_cons_zero, List.set_cons_succ]
              refine hR.take (i := 7) (oi := ?ow781_7) (v := ?vw781_7) (m' := 255) ?hw781_7 (by kernel_rfl) (by kernel_rfl) (fun _ _ _ h => h) (Or.inl ⟨?sw781_7, ?yw781_7⟩) (by assumption) ?nw781_7
              case hw781_7 => simp only [List.getElem?_toArray, List.getElem?_cons_succ, List.getElem?_cons_zero]; rfl
              case sw781_7 => rfl
              case yw781_7 => (intro w hSw; (try dsimp only at hSw); go_simp <;> with_reducible rfl)
              try simp only [Act.put, List.setIfInBounds_toArray, List.set_cons_zero, List.set_cons_succ]
              refine hR.take (i := 8) (oi := ?ow782_8) (v := ?vw782_8) (m' := 511) ?hw782_8 (by kernel_rfl) (by kernel_rfl) (fun _ _ _ h => h) (Or.inl ⟨?sw782_8, ?yw782_8⟩) (by assumption) ?nw782_8
              case hw782_8 => simp only [List.getElem?_toArray, List.getElem?_cons_succ, List.getElem?_cons_zero]; rfl
              case sw782_8 => rfl
              case yw782_8 => (intro w hSw; (try dsimp only at hSw); go_simp <;> with_reducible rfl)
              try simp only [Act.put, List.setIfInBounds_toArray, List.set_cons_zero, List.set_cons_succ]
              refine hR.take (i := 9) (oi := ?ow783_9) (v := ?vw783_9) (m' := 1023) ?hw783_9 (by kernel_rfl) (by kernel_rfl) (fun _ _ _ h => h) (Or.inl ⟨?sw783_9, ?yw783_9⟩) (by assumption) ?nw783_9
              case hw783_9 => simp only [List.getElem?_toArray, List.getElem?_cons_succ, List.getElem?_cons_zero]; rfl
              case sw783_9 => rfl
              case yw783_9 => (intro w hSw; (try dsimp only at hSw); go_simp <;> with_reducible rfl)
              try simp only [Act.put, List.setIfInBounds_toArray, List.set_cons_zero, List.set_cons_succ]
              refine hR.take (i := 10) (oi := ?ow784_10) (v := ?vw784_10) (m' := 2047) ?hw784_10 (by kernel_rfl) (by kernel_rfl) (fun _ _ _ h => h) (Or.inl ⟨?sw784_10, ?yw784_10⟩) (by assumption) ?nw784_10
              case hw784_10 => simp only [List.getElem?_toArray, List.getElem?_cons_succ, List.getElem?_cons_zero]; rfl
              case sw784_10 => rfl
              case yw784_10 => (intro w hSw; (try dsimp only at hSw); go_simp <;> with_reducible rfl)
              try simp only [Act.put, List.setIfInBounds_toArray, List.set_cons_zero, List.set_cons_succ]
              refine hR.take (i := 11) (oi := ?ow785_11) (v := ?vw785_11) (m' := 4095) ?hw785_11 (by kernel_rfl) (by kernel_rfl) (fun _ _ _ h => h) (Or.inl ⟨?sw785_11, ?yw785_11⟩) (by assumption) ?nw785_11
              case hw785_11 => simp only [List.getElem?_toArray, List.getElem?_cons_succ, List.getElem?_cons_zero]; rfl
              case sw785_11 => rfl
              case yw785_11 => (intro w hSw; (try dsimp only at hSw); go_simp <;> with_reducible rfl)
              try simp only [Act.put, List.setIfInBounds_toArray, List.set_cons_zero, List.set_cons_succ]
              refine hR.take (i := 12) (oi := ?ow786_12) (v := ?vw786_12) (m' := 8191) ?hw786_12 (by kernel_rfl) (by kernel_rfl) (fun _ _ _ h => h) (Or.inl ⟨?sw786_12, ?yw786_12⟩) (by assumption) ?nw786_12
              case hw786_12 => simp only [List.getElem?_toArray, List.getElem?_cons_succ, List.getElem?_cons_zero]; rfl
              case sw786_12 => rfl
              case yw786_12 => (intro w hSw; (try dsimp only at hSw); go_simp <;> with_reducible rfl)
              try simp only [Act.put, List.setIfInBounds_toArray, List.set_cons_zero, List.set_cons_succ]
              refine hR.take (i := 13) (oi := ?ow787_13) (v := ?vw787_13) (m' := 16383) ?hw787_13 (by kernel_rfl) (by kernel_rfl) (fun _ _ _ h => h) (Or.inl ⟨?sw787_13, ?yw787_13⟩) (by assumption) ?nw787_13
              case hw787_13 => simp only [List.getElem?_toArray, List.getElem?_cons_succ, List.getElem?_cons_zero]; rfl
              case sw787_13 => rfl
              case yw787_13 => (intro w hSw; (try dsimp only at hSw); go_simp <;> with_reducible rfl)
              try simp only [Act.put, List.setIfInBounds_toArray, List.set_cons_zero, List.set_cons_succ]
              refine hR.take (i := 14) (oi := ?ow788_14) (v := ?vw788_14) (m' := 32767) ?hw788_14 (by kernel_rfl) (by kernel_rfl) (fun _ _ _ h => h) (Or.inl ⟨?sw788_14, ?yw788_14⟩) (by assumption) ?nw788_14
              case hw788_14 => simp only [List.getElem?_toArray, List.getElem?_cons_succ, List.getElem?_cons_zero]; rfl
              case sw788_14 => rfl
              case yw788_14 => (intro w hSw; (try dsimp only at hSw); go_simp <;> with_reducible rfl)
              try simp only [Act.put, List.setIfInBounds_toArray, List.set_cons_zero, List.set_cons_succ]
              refine hR.come (rs := [15]) (by kernel_rfl) (by simp) ?_
              refine AllReadyH.cons (o := ?o789_15) ?h789_15 (fun K hK => ?kw789_15) AllReadyH.nil
              case h789_15 => simp only [List.getElem?_toArray, List.getElem?_cons_succ, List.getElem?_cons_zero]; rfl
              go_simp
              go_at_call 23; ((with_reducible refine (matchN (l := f) (r := r) (S := fun _ => True) hm1 rfl _ (mvI P1 (by (first | with_reducible assumption | (with_reducible refine Below.drew ?_; with_reducible assumption) | (with_reducible refine ba _ _ ?_; with_reducible assumption) | (with_reducible refine Below.drew ?_; with_reducible refine ba _ _ ?_; with_reducible assumption) | exact Below.refl _ _ | exact (Below.refl _ _).drew | exact (Below.refl _ _).alloc (Nat.le_refl _) _ | (refine bc _ _ (by assumption) (by assumption))))).out VV.out).mono ?_)); rintro e wM ⟨rfl, hbM⟩; have hkM := bc _ _ (by (first | with_reducible assumption | (with_reducible refine Below.drew ?_; with_reducible assumption) | (with_reducible refine ba _ _ ?_; with_reducible assumption) | (with_reducible refine Below.drew ?_; with_reducible refine ba _ _ ?_; with_reducible assumption) | exact Below.refl _ _ | exact (Below.refl _ _).drew | exact (Below.refl _ _).alloc (Nat.le_refl _) _ | (refine bc _ _ (by assumption) (by assumption)))) hbM
              refine hK.out _ _ ?_ (fun hHeld => ?_)
              · (first | (repeat' (first | with_reducible assumption | exact Nat.le_refl _ | with_reducible refine Below.drew ?_ | with_reducible refine ba _ _ ?_ | omega | (simp <;> omega))) | (first | with_reducible assumption | (with_reducible refine Below.drew ?_; with_reducible assumption) | (with_reducible refine ba _ _ ?_; with_reducible assumption) | (with_reducible refine Below.drew ?_; with_reducible refine ba _ _ ?_; with_reducible assumption) | exact Below.refl _ _ | exact (Below.refl _ _).drew | exact (Below.refl _ _).alloc (Nat.le_refl _) _ | (refine bc _ _ (by assumption) (by assumption))))
              clear hK K
              refine RegOk.put_ (m' := 65535) (by kernel_rfl) ?_
              try simp only [Act.put, List.setIfInBounds_toArray, List.set_cons_zero, List.set_cons_succ]
              refine hR.take (i := 16) (oi := ?ow790_16) (v := ?vw790_16) (m' := 131071) ?hw790_16 (by kernel_rfl) (by kernel_rfl) (fun _ _ _ h => h) (Or.inl ⟨?sw790_16, ?yw790_16⟩) (by assumption) ?nw790_16
              case hw790_16 => simp only [List.getElem?_toArray, List.getElem?_cons_succ, List.getElem?_cons_zero]; rfl
              case sw790_16 => rfl
              case yw790_16 => (intro w hSw; (try dsimp only at hSw); go_simp <;> with_reducible rfl)
              try simp only [Act.put, List.setIfInBounds_toArray, List.set_cons_zero, List.set_cons_succ]
              refine hR.take (i := 17) (oi := ?ow791_17) (v := ?vw791_17) (m' := 262143) ?hw791_17 (by kernel_rfl) (by kernel_rfl) (fun _ _ _ h => h) (Or.inl ⟨?sw791_17, ?yw791_17⟩) (by assumption) ?nw791_17
              case hw791_17 => simp only [List.getElem?_toArray, List.getElem?_cons_succ, List.getElem?_cons_zero]; rfl
              case sw791_17 => rfl
              case yw791_17 => (intro w hSw; (try dsimp only at hSw); go_simp <;> with_reducible rfl)
              try simp only [Act.put, List.setIfInBounds_toArray, List.set_cons_zero, List.set_cons_succ]
              refine hR.take (i := 18) (oi := ?ow792_18) (v := ?vw792_18) (m' := 524287) ?hw792_18 (by kernel_rfl) (by kernel_rfl) (fun _ _ _ h => h) (Or.inr ⟨?sw792_18, ?yw792_18⟩) (by assumption) ?nw792_18
              case hw792_18 => simp only [List.getElem?_toArray, List.getElem?_cons_succ, List.getElem?_cons_zero]; rfl
              case sw792_18 => rfl
              case yw792_18 => rfl
              try simp only [Act.put, List.setIfInBounds_toArray, List.set_cons_zero, List.set_cons_succ]
              refine hR.take (i := 19) (oi := ?ow793_19) (v := ?vw793_19) (m' := 1048575) ?hw793_19 (by kernel_rfl) (by kernel_rfl) (fun _ _ _ h => h) (Or.inr ⟨?sw793_19, ?yw793_19⟩) (by assumption) ?nw793_19
              case hw793_19 => simp only [List.getElem?_toArray, List.getElem?_cons_succ, List.getElem?_cons_zero]; rfl
              case sw793_19 => rfl
              case yw793_19 => rfl
              try simp only [Act.put, List.setIfInBounds_toArray, List.set_cons_zero, List.set_cons_succ]
              refine hR.take (i := 20) (oi := ?ow794_20) (v := ?vw794_20) (m' := 2097151) ?hw794_20 (by kernel_rfl) (by kernel_rfl) (fun _ _ _ h => h) (Or.inr ⟨?sw794_20, ?yw794_20⟩) (by assumption) ?nw794_20
              case hw794_20 => simp only [List.getElem?_toArray, List.getElem?_cons_succ, List.getElem?_cons_zero]; rfl
              case sw794_20 => rfl
              case yw794_20 => rfl
              try simp only [Act.put, List.setIfInBounds_toArray, List.set_cons_zero, List.set_cons_succ]
              refine hR.take (i := 21) (oi := ?ow795_21) (v := ?vw795_21) (m' := 4194303) ?hw795_21 (by kernel_rfl) (by kernel_rfl) (fun _ _ _ h => h) (Or.inr ⟨?sw795_21, ?yw795_21⟩) (by assumption) ?nw795_21
              case hw795_21 => simp only [List.getElem?_toArray, List.getElem?_cons_succ, List.getElem?_cons_zero]; rfl
              case sw795_21 => rfl
              case yw795_21 => rfl
              try simp only [Act.put, List.setIfInBounds_toArray, List.set_cons_zero, List.set_cons_succ]
              refine hR.take (i := 22) (oi := ?ow796_22) (v := ?vw796_22) (m' := 8388607) ?hw796_22 (by kernel_rfl) (by kernel_rfl) (fun _ _ _ h => h) (Or.inr ⟨?sw796_22, ?yw796_22⟩) (by assumption) ?nw796_22
              case hw796_22 => simp only [List.getElem?_toArray, List.getElem?_cons_succ, List.getElem?_cons_zero]; rfl
              case sw796_22 => rfl
              case yw796_22 => rfl
              try simp only [Act.put, List.setIfInBounds_toArray, List.set_cons_zero, List.set_cons_succ]
              refine hR.take (i := 23) (oi := ?ow797_23) (v := ?vw797_23) (m' := 16777215) ?hw797_23 (by kernel_rfl) (by kernel_rfl) (fun _ _ _ h => h) (Or.inr ⟨?sw797_23, ?yw797_23⟩) (by assumption) ?nw797_23
              case hw797_23 => simp only [List.getElem?_toArray, List.getElem?_cons_succ, List.getElem?_cons_zero]; rfl
              case sw797_23 => rfl
              case yw797_23 => rfl
              try simp only [Act.put, List.setIfInBounds_toArray, List.set_cons_zero, List.set_cons_succ]
              refine hR.take (i := 24) (oi := ?ow798_24) (v := ?vw798_24) (m' := 33554431) ?hw798_24 (by kernel_rfl) (by kernel_rfl) (fun _ _ _ h => h) (Or.inr ⟨?sw798_24, ?yw798_24⟩) (by assumption) ?nw798_24
              case hw798_24 => simp only [List.getElem?_toArray, List.getElem?_cons_succ, List.getElem?_cons_zero]; rfl
              case sw798_24 => rfl
              case yw798_24 => rfl
              try simp only [Act.put, List.setIfInBounds_toArray, List.set_cons_zero, List.set_cons_succ]
              refine hR.take (i := 25) (oi := ?ow799_25) (v := ?vw799_25) (m' := 67108863) ?hw799_25 (by kernel_rfl) (by kernel_rfl) (fun _ _ _ h => h) (Or.inr ⟨?sw799_25, ?yw799_25⟩) (by assumption) ?nw799_25
              case hw799_25 => simp only [List.getElem?_toArray, List.getElem?_cons_succ, List.getElem?_cons_zero]; rfl
              case sw799_25 => rfl
              case yw799_25 => rfl
              try simp only [Act.put, List.setIfInBounds_toArray, List.set_cons_zero, List.set_cons_succ]
              refine hR.take (i := 26) (oi := ?ow800_26) (v := ?vw800_26) (m' := 134217727) ?hw800_26 (by kernel_rfl) (by kernel_rfl) (fun _ _ _ h => h) (Or.inr ⟨?sw800_26, ?yw800_26⟩) (by assumption) ?nw800_26
              case hw800_26 => simp only [List.getElem?_toArray, List.getElem?_cons_succ, List.getElem?_cons_zero]; rfl
              case sw800_26 => rfl
              case yw800_26 => rfl
              try simp only [Act.put, List.setIfInBounds_toArray, List.set_cons_zero, List.set_cons_succ]
              refine hR.take (i := 27) (oi := ?ow801_27) (v := ?vw801_27) (m' := 268435455) ?hw801_27 (by kernel_rfl) (by kernel_rfl) (fun _ _ _ h => h) (Or.inl ⟨?sw801_27, ?yw801_27⟩) (by assumption) ?nw801_27
              case hw801_27 => simp only [List.getElem?_toArray, List.getElem?_cons_succ, List.getElem?_cons_zero]; rfl
              case sw801_27 => rfl
              case yw801_27 => (intro w hSw; (try dsimp only at hSw); go_simp <;> with_reducible rfl)
              try simp only [Act.put, List.setIfInBounds_toArray, List.set_cons_zero, List.set_cons_succ]
              refine hR.all (by kernel_rfl) ?_ _
              refine NoPanic.normal ?_
              go_wp2_with fail
              go_roundw
              case rel => exact ⟨j + 1, A1, c1, k1, by omega, by go_num, rfl, Lib.hid (by rw [HST.out, if_neg (by rw [PB.out]; simp)]; exact HK1.out), Lib.hid (by rw [HST.out, if_neg (by rw [PB.out]; simp)]; exact (mvO HO1 (by (first | with_reducible assumption | (with_reducible refine Below.drew ?_; with_reducible assumption) | (with_reducible refine ba _ _ ?_; with_reducible assumption) | (with_reducible refine Below.drew ?_; with_reducible refine ba _ _ ?_; with_reducible assumption) | exact Below.refl _ _ | exact (Below.refl _ _).drew | exact (Below.refl _ _).alloc (Nat.le_refl _) _ | (refine bc _ _ (by assumption) (by assumption))))).out), Lib.hid (hbx.out.trans (Below.mono (by (first | with_reducible assumption | (with_reducible refine Below.drew ?_; with_reducible assumption) | (with_reducible refine ba _ _ ?_; with_reducible assumption) | (with_reducible refine Below.drew ?_; with_reducible refine ba _ _ ?_; with_reducible assumption) | exact Below.refl _ _ | exact (Below.refl _ _).drew | exact (Below.refl _ _).alloc (Nat.le_refl _) _ | (refine bc _ _ (by assumption) (by assumption)))) hbx.out.size))⟩
              case measure => simp [intOf]; omega
          
            | true =>
              obtain ⟨fy, hfy⟩ : ∃ y, fldI r m = y := ⟨_, rfl⟩
              have HFY := Lib.hid hfy
              by_cases hfv : fy = (v : Int)
              · have e1 : (fy == (v : Int)) = true := by rw [hfv]; simp
                have PB0 := Lib.hid (show prB f m v (r, false) = true by simp [prB, hm1, hfy, hfv])
                clear hfy hfv
                have PB := Lib.hid (show prB f m v (r, false) = true by exact PB0.out)
                refine wp_region_noPanic ?_
                refine wp_region_held_drew (S := fun X => Below wr.heap.size wr X) (by kernel_rfl) ?_ (fun hHeld => ?_)
                · (first | (repeat' (first | with_reducible assumption | exact Nat.le_refl _ | with_reducible refine Below.drew ?_ | with_reducible refine ba _ _ ?_ | omega | (simp <;> omega))) | (first | with_reducible assumption | (with_reducible refine Below.drew ?_; with_reducible assumption) | (with_reducible refine ba _ _ ?_; with_reducible assumption) | (with_reducible refine Below.drew ?_; with_reducible refine ba _ _ ?_; with_reducible assumption) | exact Below.refl _ _ | exact (Below.refl _ _).drew | exact (Below.refl _ _).alloc (Nat.le_refl _) _ | (refine bc _ _ (by assumption) (by assumption))))
                refine RegOk.begin_ (n := 28) (T := evL4) ⟨by kernel_rfl, by kernel_rfl, by kernel_rfl, by kernel_rfl⟩ fun hR => ?_
                refine hR.take (i := 0) (oi := ?ow802_0) (v := ?vw802_0) (m' := 1) ?hw802_0 (by kernel_rfl) (by kernel_rfl) (fun _ _ _ h => h) (Or.inl ⟨?sw802_0, ?yw802_0⟩) (by assumption) ?nw802_0
                case hw802_0 => simp only [List.getElem?_toArray, List.getElem?_cons_succ, List.getElem?_cons_zero]; rfl
                case sw802_0 => rfl
                case yw802_0 => (intro w hSw; (try dsimp only at hSw); go_simp <;> with_reducible rfl)
                try simp only [Act.put, List.setIfInBounds_toArray, List.set_cons_zero, List.set_cons_succ]
                refine hR.take (i := 1) (oi := ?ow803_1) (v := ?vw803_1) (m' := 3) ?hw803_1 (by kernel_rfl) (by kernel_rfl) (fun _ _ _ h => h) (Or.inl ⟨?sw803_1, ?yw803_1⟩) (by assumption) ?nw803_1
                case hw803_1 => simp only [List.getElem?_toArray, List.getElem?_cons_succ, List.getElem?_cons_zero]; rfl
                case sw803_1 => rfl
                case yw803_1 => (intro w hSw; (try dsimp only at hSw); go_simp <;> with_reducible rfl)
                try simp only [Act.put, List.setIfInBounds_toArray, List.set_cons_zero, List.set_cons_succ]
                refine hR.take (i := 2) (oi := ?ow804_2) (v := ?vw804_2) (m' := 7) ?hw804_2 (by kernel_rfl) (by kernel_rfl) (fun _ _ _ h => h) (Or.inl ⟨?sw804_2, ?yw804_2⟩) (by assumption) ?nw804_2
                case hw804_2 => simp only [List.getElem?_toArray, List.getElem?_cons_succ, List.getElem?_cons_zero]; rfl
                case sw804_2 => rfl
                case yw804_2 => (intro w hSw; (try dsimp only at hSw); go_simp <;> with_reducible rfl)
                try simp only [Act.put, List.setIfInBounds_toArray, List.set_cons_zero, List.set_cons_succ]
                refine hR.take (i := 3) (oi := ?ow805_3) (v := ?vw805_3) (m' := 15) ?hw805_3 (by kernel_rfl) (by kernel_rfl) (fun _ _ _ h => h) (Or.inl ⟨?sw805_3, ?yw805_3⟩) (by assumption) ?nw805_3
                case hw805_3 => simp only [List.getElem?_toArray, List.getElem?_cons_succ, List.getElem?_cons_zero]; rfl
                case sw805_3 => rfl
                case yw805_3 => (intro w hSw; (try dsimp only at hSw); go_simp <;> with_reducible rfl)
                try simp only [Act.put, List.setIfInBounds_toArray, List.set_cons_zero, List.set_cons_succ]
                refine hR.take (i := 4) (oi := ?ow806_4) (v := ?vw806_4) (m' := 31) ?hw806_4 (by kernel_rfl) (by kernel_rfl) (fun _ _ _ h => h) (Or.inl ⟨?sw806_4, ?yw806_4⟩) (by assumption) ?nw806_4
                case hw806_4 => simp only [List.getElem?_toArray, List.getElem?_cons_succ, List.getElem?_cons_zero]; rfl
                case sw806_4 => rfl
                case yw806_4 => (intro w hSw; (try dsimp only at hSw); go_simp <;> with_reducible rfl)
                try simp only [Act.put, List.setIfInBounds_toArray, List.set_cons_zero, List.set_cons_succ]
                refine hR.take (i := 5) (oi := ?ow807_5) (v := ?vw807_5) (m' := 63) ?hw807_5 (by kernel_rfl) (by kernel_rfl) (fun _ _ _ h => h) (Or.inl ⟨?sw807_5, ?yw807_5⟩) (by assumption) ?nw807_5
                case hw807_5 => simp only [List.getElem?_toArray, List.getElem?_cons_succ, List.getElem?_cons_zero]; rfl
                case sw807_5 => rfl
                case yw807_5 => (intro w hSw; (try dsimp only at hSw); go_simp <;> with_reducible rfl)
                try simp only [Act.put, List.setIfInBounds_toArray, List.set_cons_zero, List.set_cons_succ]
                refine hR.take (i := 6) (oi := ?ow808_6) (v := ?vw808_6) (m' := 127) ?hw808_6 (by kernel_rfl) (by kernel_rfl) (fun _ _ _ h => h) (Or.inl ⟨?sw808_6, ?yw808_6⟩) (by assumption) ?nw808_6
                case hw808_6 => simp only [List.getElem?_toArray, List.getElem?_cons_succ, List.getElem?_cons_zero]; rfl
                case sw808_6 => rfl
                case yw808_6 => (intro w hSw; (try dsimp only at hSw); go_simp <;> with_reducible rfl)
                try simp only [Act.put, List.setIfInBounds_toArray, List.set_cons_zero, List.set_cons_succ]
                refine hR.take (i := 7) (oi := ?ow809_7) (v := ?vw809_7) (m' := 255) ?hw809_7 (by kernel_rfl) (by kernel_rfl) (fun _ _ _ h => h) (Or.inl ⟨?sw809_7, ?yw809_7⟩) (by assumption) ?nw809_7
                case hw809_7 => simp only [List.getElem?_toArray, List.getElem?_cons_succ, List.getElem?_cons_zero]; rfl
                case sw809_7 => rfl
                case yw809_7 => (intro w hSw; (try dsimp only at hSw); go_simp <;> with_reducible rfl)
                try simp only [Act.put, List.setIfInBounds_toArray, List.set_cons_zero, List.set_cons_succ]
                refine hR.take (i := 8) (oi := ?ow810_8) (v := ?vw810_8) (m' := 511) ?hw810_8 (by kernel_rfl) (by kernel_rfl) (fun _ _ _ h => h) (Or.inl ⟨?sw810_8, ?yw810_8⟩) (by assumption) ?nw810_8
                case hw810_8 => simp only [List.getElem?_toArray, List.getElem?_cons_succ, List.getElem?_cons_zero]; rfl
                case sw810_8 => rfl
                case yw810_8 => (intro w hSw; (try dsimp only at hSw); go_simp <;> with_reducible rfl)
                try simp only [Act.put, List.setIfInBounds_toArray, List.set_cons_zero, List.set_cons_succ]
                refine hR.take (i := 9) (oi := ?ow811_9) (v := ?vw811_9) (m' := 1023) ?hw811_9 (by kernel_rfl) (by kernel_rfl) (fun _ _ _ h => h) (Or.inl ⟨?sw811_9, ?yw811_9⟩) (by assumption) ?nw811_9
                case hw811_9 => simp only [List.getElem?_toArray, List.getElem?_cons_succ, List.getElem?_cons_zero]; rfl
                case sw811_9 => rfl
                case yw811_9 => (intro w hSw; (try dsimp only at hSw); go_simp <;> with_reducible rfl)
                try simp only [Act.put, List.setIfInBounds_toArray, List.set_cons_zero, List.set_cons_succ]
                refine hR.take (i := 10) (oi := ?ow812_10) (v := ?vw812_10) (m' := 2047) ?hw812_10 (by kernel_rfl) (by kernel_rfl) (fun _ _ _ h => h) (Or.inl ⟨?sw812_10, ?yw812_10⟩) (by assumption) ?nw812_10
                case hw812_10 => simp only [List.getElem?_toArray, List.getElem?_cons_succ, List.getElem?_cons_zero]; rfl
                case sw812_10 => rfl
                case yw812_10 => (intro w hSw; (try dsimp only at hSw); go_simp <;> with_reducible rfl)
                try simp only [Act.put, List.setIfInBounds_toArray, List.set_cons_zero, List.set_cons_succ]
                refine hR.take (i := 11) (oi := ?ow813_11) (v := ?vw813_11) (m' := 4095) ?hw813_11 (by kernel_rfl) (by kernel_rfl) (fun _ _ _ h => h) (Or.inl ⟨?sw813_11, ?yw813_11⟩) (by assumption) ?nw813_11
                case hw813_11 => simp only [List.getElem?_toArray, List.getElem?_cons_succ, List.getElem?_cons_zero]; rfl
                case sw813_11 => rfl
                case yw813_11 => (intro w hSw; (try dsimp only at hSw); go_simp <;> with_reducible rfl)
                try simp only [Act.put, List.setIfInBounds_toArray, List.set_cons_zero, List.set_cons_succ]
                refine hR.take (i := 12) (oi := ?ow814_12) (v := ?vw814_12) (m' := 8191) ?hw814_12 (by kernel_rfl) (by kernel_rfl) (fun _ _ _ h => h) (Or.inl ⟨?sw814_12, ?yw814_12⟩) (by assumption) ?nw814_12
                case hw814_12 => simp only [List.getElem?_toArray, List.getElem?_cons_succ, List.getElem?_cons_zero]; rfl
                case sw814_12 => rfl
                case yw814_12 => (intro w hSw; (try dsimp only at hSw); go_simp <;> with_reducible rfl)
                try simp only [Act.put, List.setIfInBounds_toArray, List.set_cons_zero, List.set_cons_succ]
                refine hR.take (i := 13) (oi := ?ow815_13) (v := ?vw815_13) (m' := 16383) ?hw815_13 (by kernel_rfl) (by kernel_rfl) (fun _ _ _ h => h) (Or.inl ⟨?sw815_13, ?yw815_13⟩) (by assumption) ?nw815_13
                case hw815_13 => simp only [List.getElem?_toArray, List.getElem?_cons_succ, List.getElem?_cons_zero]; rfl
                case sw815_13 => rfl
                case yw815_13 => (intro w hSw; (try dsimp only at hSw); go_simp <;> with_reducible rfl)
                try simp only [Act.put, List.setIfInBounds_toArray, List.set_cons_zero, List.set_cons_succ]
                refine hR.take (i := 14) (oi := ?ow816_14) (v := ?vw816_14) (m' := 32767) ?hw816_14 (by kernel_rfl) (by kernel_rfl) (fun _ _ _ h => h) (Or.inl ⟨?sw816_14, ?yw816_14⟩) (by assumption) ?nw816_14
                case hw816_14 => simp only [List.getElem?_toArray, List.getElem?_cons_succ, List.getElem?_cons_zero]; rfl
                case sw816_14 => rfl
                case yw816_14 => (intro w hSw; (try dsimp only at hSw); go_simp <;> with_reducible rfl)
                try simp only [Act.put, List.setIfInBounds_toArray, List.set_cons_zero, List.set_cons_succ]
                refine hR.come (rs := [15]) (by kernel_rfl) (by simp) ?_
                refine AllReadyH.cons (o := ?o817_15) ?h817_15 (fun K hK => ?kw817_15) AllReadyH.nil
                case h817_15 => simp only [List.getElem?_toArray, List.getElem?_cons_succ, List.getElem?_cons_zero]; rfl
                go_simp
                go_at_call 23; ((with_reducible refine (matchN (l := f) (r := r) (S := fun _ => True) hm1 rfl _ (mvI P1 (by (first | with_reducible assumption | (with_reducible refine Below.drew ?_; with_reducible assumption) | (with_reducible refine ba _ _ ?_; with_reducible assumption) | (with_reducible refine Below.drew ?_; with_reducible refine ba _ _ ?_; with_reducible assumption) | exact Below.refl _ _ | exact (Below.refl _ _).drew | exact (Below.refl _ _).alloc (Nat.le_refl _) _ | (refine bc _ _ (by assumption) (by assumption))))).out VV.out).mono ?_)); rintro e wM ⟨rfl, hbM⟩; have hkM := bc _ _ (by (first | with_reducible assumption | (with_reducible refine Below.drew ?_; with_reducible assumption) | (with_reducible refine ba _ _ ?_; with_reducible assumption) | (with_reducible refine Below.drew ?_; with_reducible refine ba _ _ ?_; with_reducible assumption) | exact Below.refl _ _ | exact (Below.refl _ _).drew | exact (Below.refl _ _).alloc (Nat.le_refl _) _ | (refine bc _ _ (by assumption) (by assumption)))) hbM
                refine hK.out _ _ ?_ (fun hHeld => ?_)
                · (first | (repeat' (first | with_reducible assumption | exact Nat.le_refl _ | with_reducible refine Below.drew ?_ | with_reducible refine ba _ _ ?_ | omega | (simp <;> omega))) | (first | with_reducible assumption | (with_reducible refine Below.drew ?_; with_reducible assumption) | (with_reducible refine ba _ _ ?_; with_reducible assumption) | (with_reducible refine Below.drew ?_; with_reducible refine ba _ _ ?_; with_reducible assumption) | exact Below.refl _ _ | exact (Below.refl _ _).drew | exact (Below.refl _ _).alloc (Nat.le_refl _) _ | (refine bc _ _ (by assumption) (by assumption))))
                clear hK K
                refine RegOk.put_ (m' := 65535) (by kernel_rfl) ?_
                try simp only [Act.put, List.setIfInBounds_toArray, List.set_cons_zero, List.set_cons_succ]
                refine hR.take (i := 16) (oi := ?ow818_16) (v := ?vw818_16) (m' := 131071) ?hw818_16 (by kernel_rfl) (by kernel_rfl) (fun _ _ _ h => h) (Or.inl ⟨?sw818_16, ?yw818_16⟩) (by assumption) ?nw818_16
                case hw818_16 => simp only [List.getElem?_toArray, List.getElem?_cons_succ, List.getElem?_cons_zero]; rfl
                case sw818_16 => rfl
                case yw818_16 => (intro w hSw; (try dsimp only at hSw); go_simp <;> with_reducible rfl)
                try simp only [Act.put, List.setIfInBounds_toArray, List.set_cons_zero, List.set_cons_succ]
                refine hR.take (i := 17) (oi := ?ow819_17) (v := ?vw819_17) (m' := 262143) ?hw819_17 (by kernel_rfl) (by kernel_rfl) (fun _ _ _ h => h) (Or.inl ⟨?sw819_17, ?yw819_17⟩) (by assumption) ?nw819_17
                case hw819_17 => simp only [List.getElem?_toArray, List.getElem?_cons_succ, List.getElem?_cons_zero]; rfl
                case sw819_17 => rfl
                case yw819_17 => (intro w hSw; (try dsimp only at hSw); go_simp <;> with_reducible rfl)
                try simp only [Act.put, List.setIfInBounds_toArray, List.set_cons_zero, List.set_cons_succ]
                refine hR.take (i := 18) (oi := ?ow820_18) (v := ?vw820_18) (m' := 524287) ?hw820_18 (by kernel_rfl) (by kernel_rfl) (fun _ _ _ h => h) (Or.inl ⟨?sw820_18, ?yw820_18⟩) (by assumption) ?nw820_18
                case hw820_18 => simp only [List.getElem?_toArray, List.getElem?_cons_succ, List.getElem?_cons_zero]; rfl
                case sw820_18 => rfl
                case yw820_18 => (intro w hSw; (try dsimp only at hSw); go_simp <;> with_reducible rfl)
                try simp only [Act.put, List.setIfInBounds_toArray, List.set_cons_zero, List.set_cons_succ]
                refine hR.take (i := 19) (oi := ?ow821_19) (v := ?vw821_19) (m' := 1048575) ?hw821_19 (by kernel_rfl) (by kernel_rfl) (fun _ _ _ h => h) (Or.inl ⟨?sw821_19, ?yw821_19⟩) (by assumption) ?nw821_19
                case hw821_19 => simp only [List.getElem?_toArray, List.getElem?_cons_succ, List.getElem?_cons_zero]; rfl
                case sw821_19 => rfl
                case yw821_19 => (intro w hSw; (try dsimp only at hSw); go_simp <;> with_reducible rfl)
                try simp only [Act.put, List.setIfInBounds_toArray, List.set_cons_zero, List.set_cons_succ]
                refine hR.take (i := 20) (oi := ?ow822_20) (v := ?vw822_20) (m' := 2097151) ?hw822_20 (by kernel_rfl) (by kernel_rfl) (fun _ _ _ h => h) (Or.inl ⟨?sw822_20, ?yw822_20⟩) (by assumption) ?nw822_20
                case hw822_20 => simp only [List.getElem?_toArray, List.getElem?_cons_succ, List.getElem?_cons_zero]; rfl
                case sw822_20 => rfl
                case yw822_20 => (intro w hSw; (try dsimp only at hSw); go_simp <;> with_reducible rfl)
                try simp only [Act.put, List.setIfInBounds_toArray, List.set_cons_zero, List.set_cons_succ]
                refine hR.take (i := 21) (oi := ?ow823_21) (v := ?vw823_21) (m' := 4194303) ?hw823_21 (by kernel_rfl) (by kernel_rfl) (fun _ _ _ h => h) (Or.inl ⟨?sw823_21, ?yw823_21⟩) (by assumption) ?nw823_21
                case hw823_21 => simp only [List.getElem?_toArray, List.getElem?_cons_succ, List.getElem?_cons_zero]; rfl
                case sw823_21 => rfl
                case yw823_21 => (intro w hSw; (try dsimp only at hSw); go_simp <;> with_reducible rfl)
                try simp only [Act.put, List.setIfInBounds_toArray, List.set_cons_zero, List.set_cons_succ]
                refine hR.take (i := 22) (oi := ?ow824_22) (v := ?vw824_22) (m' := 8388607) ?hw824_22 (by kernel_rfl) (by kernel_rfl) (fun _ _ _ h => h) (Or.inl ⟨?sw824_22, ?yw824_22⟩) (by assumption) ?nw824_22
                case hw824_22 => simp only [List.getElem?_toArray, List.getElem?_cons_succ, List.getElem?_cons_zero]; rfl
                case sw824_22 => rfl
                case yw824_22 => (intro w hSw; (try dsimp only at hSw); go_simp <;> with_reducible rfl)
                try simp only [Act.put, List.setIfInBounds_toArray, List.set_cons_zero, List.set_cons_succ]
                refine hR.take (i := 23) (oi := ?ow825_23) (v := ?vw825_23) (m' := 16777215) ?hw825_23 (by kernel_rfl) (by kernel_rfl) (fun _ _ _ h => h) (Or.inl ⟨?sw825_23, ?yw825_23⟩) (by assumption) ?nw825_23
                case hw825_23 => simp only [List.getElem?_toArray, List.getElem?_cons_succ, List.getElem?_cons_zero]; rfl
                case sw825_23 => rfl
                case yw825_23 => (intro w hSw; (try dsimp only at hSw); go_simp <;> with_reducible rfl)
                try simp only [Act.put, List.setIfInBounds_toArray, List.set_cons_zero, List.set_cons_succ]
                refine hR.take (i := 25) (oi := ?ow826_25) (v := ?vw826_25) (m' := 50331647) ?hw826_25 (by kernel_rfl) (by kernel_rfl) (fun _ _ _ h => h) (Or.inl ⟨?sw826_25, ?yw826_25⟩) (by assumption) ?nw826_25
                case hw826_25 => simp only [List.getElem?_toArray, List.getElem?_cons_succ, List.getElem?_cons_zero]; rfl
                case sw826_25 => rfl
                case yw826_25 => (intro w hSw; (try dsimp only at hSw); go_simp <;> with_reducible rfl)
                try simp only [Act.put, List.setIfInBounds_toArray, List.set_cons_zero, List.set_cons_succ]
                refine hR.come (rs := [24]) (by kernel_rfl) (by simp) ?_
                refine AllReadyH.cons (o := ?o827_24) ?h827_24 (fun K hK => ?kw827_24) AllReadyH.nil
                case h827_24 => simp only [List.getElem?_toArray, List.getElem?_cons_succ, List.getElem?_cons_zero]; rfl
                go_simp
                go_at_call 24; ((with_reducible refine (fieldI (r := r) (col := (m : Int)) _ hm0).mono ?_)); rw [HFY.out]; rintro e wN ⟨rfl, hbN⟩; have hkN := bc _ _ (by (first | with_reducible assumption | (with_reducible refine Below.drew ?_; with_reducible assumption) | (with_reducible refine ba _ _ ?_; with_reducible assumption) | (with_reducible refine Below.drew ?_; with_reducible refine ba _ _ ?_; with_reducible assumption) | exact Below.refl _ _ | exact (Below.refl _ _).drew | exact (Below.refl _ _).alloc (Nat.le_refl _) _ | (refine bc _ _ (by assumption) (by assumption)))) hbN
                refine hK.out _ _ ?_ (fun hHeld => ?_)
                · (first | (repeat' (first | with_reducible assumption | exact Nat.le_refl _ | with_reducible refine Below.drew ?_ | with_reducible refine ba _ _ ?_ | omega | (simp <;> omega))) | (first | with_reducible assumption | (with_reducible refine Below.drew ?_; with_reducible assumption) | (with_reducible refine ba _ _ ?_; with_reducible assumption) | (with_reducible refine Below.drew ?_; with_reducible refine ba _ _ ?_; with_reducible assumption) | exact Below.refl _ _ | exact (Below.refl _ _).drew | exact (Below.refl _ _).alloc (Nat.le_refl _) _ | (refine bc _ _ (by assumption) (by assumption))))
                clear hK K
                refine RegOk.put_ (m' := 67108863) (by kernel_rfl) ?_
                try simp only [Act.put, List.setIfInBounds_toArray, List.set_cons_zero, List.set_cons_succ]
                refine hR.take (i := 26) (oi := ?ow828_26) (v := ?vw828_26) (m' := 134217727) ?hw828_26 (by kernel_rfl) (by kernel_rfl) (fun _ _ _ h => h) (Or.inl ⟨?sw828_26, ?yw828_26⟩) (by assumption) ?nw828_26
                case hw828_26 => simp only [List.getElem?_toArray, List.getElem?_cons_succ, List.getElem?_cons_zero]; rfl
                case sw828_26 => rfl
                case yw828_26 => (intro w hSw; (try dsimp only at hSw); go_simp <;> with_reducible rfl)
                try simp only [Act.put, List.setIfInBounds_toArray, List.set_cons_zero, List.set_cons_succ]
                refine hR.take (i := 27) (oi := ?ow829_27) (v := ?vw829_27) (m' := 268435455) ?hw829_27 (by kernel_rfl) (by kernel_rfl) (fun _ _ _ h => h) (Or.inl ⟨?sw829_27, ?yw829_27⟩) (by assumption) ?nw829_27
                case hw829_27 => simp only [List.getElem?_toArray, List.getElem?_cons_succ, List.getElem?_cons_zero]; rfl
                case sw829_27 => rfl
                case yw829_27 => (intro w hSw; (try dsimp only at hSw); go_simp <;> with_reducible rfl)
                try simp only [Act.put, List.setIfInBounds_toArray, List.set_cons_zero, List.set_cons_succ]
                refine hR.all (by kernel_rfl) ?_ _
                refine NoPanic.normal ?_
                have hkN' := Lib.hid hkN
                have HON := mvO HO1 hkN
                have loN := HON.out.lt
                go_wp2_with (at_builtin; go_must ((refine wpList_append_E (E := .i64) (S := fun b => b = wN.heap.size) rfl (.tmp 75) (.tmp 77) rfl i64sT (base := w4.heap.size) (v := .slice A1 k1 c1) (xs := valTo f m ps v ++ List.replicate (cntP f m v (ps.take j)) (v : Int)) (ys := [(v : Int)]) (by rfl) (by rfl) rfl (nz := k1 + 1) (by rw [List.length_append, HK1.out]; rfl) ((HON.out.flat i64_flat).alloc _) (Sl.litAt (S := fun b => b = wN.heap.size) rfl (.single rfl) (by unfold maxLen; simp) (fun _ h _ => h) rfl) (by rw [HK1.out]; unfold maxLen; simp; omega) (by rw [HK1.out]; simp; omega) (by have := hkN'.out.size; have := hbx.out.size; simp; omega) (fun g hg (hs : g = wN.heap.size) => by have := (loN g hg).2; omega) ?_); intro A6 c6 w6 hown6 hg6 hor6))
                go_roundw
                case rel =>
                  have hb6 := hbx.out.trans (hkN'.out.mono hbx.out.size)
                  have HST' : cntP f m v (ps.take (j + 1)) = cntP f m v (ps.take j) + 1 := by rw [HST.out, if_pos PB.out]
                  refine ⟨j + 1, A6, c6, k1 + 1, by omega, by go_num, rfl, Lib.hid ?_, Lib.hid ?_, Lib.hid ((hb6.alloc hb6.size _).grown hg6 (by have := hb6.size; simp; omega) (fun g hg => (loN g hg).1))⟩
                  · rw [HST', List.replicate_succ', ← List.append_assoc, List.length_append, HK1.out]; rfl
                  · rw [HST', List.replicate_succ', ← List.append_assoc]
                    exact hown6.flat i64_flat
                case measure => simp [intOf]; omega
          
              · have e1 : (fy == (v : Int)) = false := by rw [beq_eq_false_iff_ne]; exact hfv
                have PB0 := Lib.hid (show prB f m v (r, false) = false by simp [prB, hm1, hfy, hfv])
                clear hfy hfv
                have PB := Lib.hid (show prB f m v (r, false) = false by exact PB0.out)
                refine wp_region_noPanic ?_
                refine wp_region_held_drew (S := fun X => Below wr.heap.size wr X) (by kernel_rfl) ?_ (fun hHeld => ?_)
                · (first | (repeat' (first | with_reducible assumption | exact Nat.le_refl _ | with_reducible refine Below.drew ?_ | with_reducible refine ba _ _ ?_ | omega | (simp <;> omega))) | (first | with_reducible assumption | (with_reducible refine Below.drew ?_; with_reducible assumption) | (with_reducible refine ba _ _ ?_; with_reducible assumption) | (with_reducible refine Below.drew ?_; with_reducible refine ba _ _ ?_; with_reducible assumption) | exact Below.refl _ _ | exact (Below.refl _ _).drew | exact (Below.refl _ _).alloc (Nat.le_refl _) _ | (refine bc _ _ (by assumption) (by assumption))))
                refine RegOk.begin_ (n := 28) (T := evL4) ⟨by kernel_rfl, by kernel_rfl, by kernel_rfl, by kernel_rfl⟩ fun hR => ?_
                refine hR.take (i := 0) (oi := ?ow830_0) (v := ?vw830_0) (m' := 1) ?hw830_0 (by kernel_rfl) (by kernel_rfl) (fun _ _ _ h => h) (Or.inl ⟨?sw830_0, ?yw830_0⟩) (by assumption) ?nw830_0
                case hw830_0 => simp only [List.getElem?_toArray, List.getElem?_cons_succ, List.getElem?_cons_zero]; rfl
                case sw830_0 => rfl
                case yw830_0 => (intro w hSw; (try dsimp only at hSw); go_simp <;> with_reducible rfl)
                try simp only [Act.put, List.setIfInBounds_toArray, List.set_cons_zero, List.set_cons_succ]
                refine hR.take (i := 1) (oi := ?ow831_1) (v := ?vw831_1) (m' := 3) ?hw831_1 (by kernel_rfl) (by kernel_rfl) (fun _ _ _ h => h) (Or.inl ⟨?sw831_1, ?yw831_1⟩) (by assumption) ?nw831_1
                case hw831_1 => simp only [List.getElem?_toArray, List.getElem?_cons_succ, List.getElem?_cons_zero]; rfl
                case sw831_1 => rfl
                case yw831_1 => (intro w hSw; (try dsimp only at hSw); go_simp <;> with_reducible rfl)
                try simp only [Act.put, List.setIfInBounds_toArray, List.set_cons_zero, List.set_cons_succ]
                refine hR.take (i := 2) (oi := ?ow832_2) (v := ?vw832_2) (m' := 7) ?hw832_2 (by kernel_rfl) (by kernel_rfl) (fun _ _ _ h => h) (Or.inl ⟨?sw832_2, ?yw832_2⟩) (by assumption) ?nw832_2
                case hw832_2 => simp only [List.getElem?_toArray, List.getElem?_cons_succ, List.getElem?_cons_zero]; rfl
                case sw832_2 => rfl
                case yw832_2 => (intro w hSw; (try dsimp only at hSw); go_simp <;> with_reducible rfl)
                try simp only [Act.put, List.setIfInBounds_toArray, List.set_cons_zero, List.set_cons_succ]
                refine hR.take (i := 3) (oi := ?ow833_3) (v := ?vw833_3) (m' := 15) ?hw833_3 (by kernel_rfl) (by kernel_rfl) (fun _ _ _ h => h) (Or.inl ⟨?sw833_3, ?yw833_3⟩) (by assumption) ?nw833_3
                case hw833_3 => simp only [List.getElem?_toArray, List.getElem?_cons_succ, List.getElem?_cons_zero]; rfl
                case sw833_3 => rfl
                case yw833_3 => (intro w hSw; (try dsimp only at hSw); go_simp <;> with_reducible rfl)
                try simp only [Act.put, List.setIfInBounds_toArray, List.set_cons_zero, List.set_cons_succ]
                refine hR.take (i := 4) (oi := ?ow834_4) (v := ?vw834_4) (m' := 31) ?hw834_4 (by kernel_rfl) (by kernel_rfl) (fun _ _ _ h => h) (Or.inl ⟨?sw834_4, ?yw834_4⟩) (by assumption) ?nw834_4
                case hw834_4 => simp only [List.getElem?_toArray, List.getElem?_cons_succ, List.getElem?_cons_zero]; rfl
                case sw834_4 => rfl
                case yw834_4 => (intro w hSw; (try dsimp only at hSw); go_simp <;> with_reducible rfl)
                try simp only [Act.put, List.setIfInBounds_toArray, List.set_cons_zero, List.set_cons_succ]
                refine hR.take (i := 5) (oi := ?ow835_5) (v := ?vw835_5) (m' := 63) ?hw835_5 (by kernel_rfl) (by kernel_rfl) (fun _ _ _ h => h) (Or.inl ⟨?sw835_5, ?yw835_5⟩) (by assumption) ?nw835_5
                case hw835_5 => simp only [List.getElem?_toArray, List.getElem?_cons_succ, List.getElem?_cons_zero]; rfl
                case sw835_5 => rfl
                case yw835_5 => (intro w hSw; (try dsimp only at hSw); go_simp <;> with_reducible rfl)
                try simp only [Act.put, List.setIfInBounds_toArray, List.set_cons_zero, List.set_cons_succ]
                refine hR.take (i := 6) (oi := ?ow836_6) (v := ?vw836_6) (m' := 127) ?hw836_6 (by kernel_rfl) (by kernel_rfl) (fun _ _ _ h => h) (Or.inl ⟨?sw836_6, ?yw836_6⟩) (by assumption) ?nw836_6
                case hw836_6 => simp only [List.getElem?_toArray, List.getElem?_cons_succ, List.getElem?_cons_zero]; rfl
                case sw836_6 => rfl
                case yw836_6 => (intro w hSw; (try dsimp only at hSw); go_simp <;> with_reducible rfl)
                try simp only [Act.put, List.setIfInBounds_toArray, List.set_cons_zero, List.set_cons_succ]
                refine hR.take (i := 7) (oi := ?ow837_7) (v := ?vw837_7) (m' := 255) ?hw837_7 (by kernel_rfl) (by kernel_rfl) (fun _ _ _ h => h) (Or.inl ⟨?sw837_7, ?yw837_7⟩) (by assumption) ?nw837_7
                case hw837_7 => simp only [List.getElem?_toArray, List.getElem?_cons_succ, List.getElem?_cons_zero]; rfl
                case sw837_7 => rfl
                case yw837_7 => (intro w hSw; (try dsimp only at hSw); go_simp <;> with_reducible rfl)
                try simp only [Act.put, List.setIfInBounds_toArray, List.set_cons_zero, List.set_cons_succ]
                refine hR.take (i := 8) (oi := ?ow838_8) (v := ?vw838_8) (m' := 511) ?hw838_8 (by kernel_rfl) (by kernel_rfl) (fun _ _ _ h => h) (Or.inl ⟨?sw838_8, ?yw838_8⟩) (by assumption) ?nw838_8
                case hw838_8 => simp only [List.getElem?_toArray, List.getElem?_cons_succ, List.getElem?_cons_zero]; rfl
                case sw838_8 => rfl
                case yw838_8 => (intro w hSw; (try dsimp only at hSw); go_simp <;> with_reducible rfl)
                try simp only [Act.put, List.setIfInBounds_toArray, List.set_cons_zero, List.set_cons_succ]
                refine hR.take (i := 9) (oi := ?ow839_9) (v := ?vw839_9) (m' := 1023) ?hw839_9 (by kernel_rfl) (by kernel_rfl) (fun _ _ _ h => h) (Or.inl ⟨?sw839_9, ?yw839_9⟩) (by assumption) ?nw839_9
                case hw839_9 => simp only [List.getElem?_toArray, List.getElem?_cons_succ, List.getElem?_cons_zero]; rfl
                case sw839_9 => rfl
                case yw839_9 => (intro w hSw; (try dsimp only at hSw); go_simp <;> with_reducible rfl)
                try simp only [Act.put, List.setIfInBounds_toArray, List.set_cons_zero, List.set_cons_succ]
                refine hR.take (i := 10) (oi := ?ow840_10) (v := ?vw840_10) (m' := 2047) ?hw840_10 (by kernel_rfl) (by kernel_rfl) (fun _ _ _ h => h) (Or.inl ⟨?sw840_10, ?yw840_10⟩) (by assumption) ?nw840_10
                case hw840_10 => simp only [List.getElem?_toArray, List.getElem?_cons_succ, List.getElem?_cons_zero]; rfl
                case sw840_10 => rfl
                case yw840_10 => (intro w hSw; (try dsimp only at hSw); go_simp <;> with_reducible rfl)
                try simp only [Act.put, List.setIfInBounds_toArray, List.set_cons_zero, List.set_cons_succ]
                refine hR.take (i := 11) (oi := ?ow841_11) (v := ?vw841_11) (m' := 4095) ?hw841_11 (by kernel_rfl) (by kernel_rfl) (fun _ _ _ h => h) (Or.inl ⟨?sw841_11, ?yw841_11⟩) (by assumption) ?nw841_11
                case hw841_11 => simp only [List.getElem?_toArray, List.getElem?_cons_succ, List.getElem?_cons_zero]; rfl
                case sw841_11 => rfl
                case yw841_11 => (intro w hSw; (try dsimp only at hSw); go_simp <;> with_reducible rfl)
                try simp only [Act.put, List.setIfInBounds_toArray, List.set_cons_zero, List.set_cons_succ]
                refine hR.take (i := 12) (oi := ?ow842_12) (v := ?vw842_12) (m' := 8191) ?hw842_12 (by kernel_rfl) (by kernel_rfl) (fun _ _ _ h => h) (Or.inl ⟨?sw842_12, ?yw842_12⟩) (by assumption) ?nw842_12
                case hw842_12 => simp only [List.getElem?_toArray, List.getElem?_cons_succ, List.getElem?_cons_zero]; rfl
                case sw842_12 => rfl
                case yw842_12 => (intro w hSw; (try dsimp only at hSw); go_simp <;> with_reducible rfl)
                try simp only [Act.put, List.setIfInBounds_toArray, List.set_cons_zero, List.set_cons_succ]
                refine hR.take (i := 13) (oi := ?ow843_13) (v := ?vw843_13) (m' := 16383) ?hw843_13 (by kernel_rfl) (by kernel_rfl) (fun _ _ _ h => h) (Or.inl ⟨?sw843_13, ?yw843_13⟩) (by assumption) ?nw843_13
                case hw843_13 => simp only [List.getElem?_toArray, List.getElem?_cons_succ, List.getElem?_cons_zero]; rfl
                case sw843_13 => rfl
                case yw843_13 => (intro w hSw; (try dsimp only at hSw); go_simp <;> with_reducible rfl)
                try simp only [Act.put, List.setIfInBounds_toArray, List.set_cons_zero, List.set_cons_succ]
                refine hR.take (i := 14) (oi := ?ow844_14) (v := ?vw844_14) (m' := 32767) ?hw844_14 (by kernel_rfl) (by kernel_rfl) (fun _ _ _ h => h) (Or.inl ⟨?sw844_14, ?yw844_14⟩) (by assumption) ?nw844_14
                case hw844_14 => simp only [List.getElem?_toArray, List.getElem?_cons_succ, List.getElem?_cons_zero]; rfl
                case sw844_14 => rfl
                case yw844_14 => (intro w hSw; (try dsimp only at hSw); go_simp <;> with_reducible rfl)
                try simp only [Act.put, List.setIfInBounds_toArray, List.set_cons_zero, List.set_cons_succ]
                refine hR.come (rs := [15]) (by kernel_rfl) (by simp) ?_
                refine AllReadyH.cons (o := ?o845_15) ?h845_15 (fun K hK => ?kw845_15) AllReadyH.nil
                case h845_15 => simp only [List.getElem?_toArray, List.getElem?_cons_succ, List.getElem?_cons_zero]; rfl
                go_simp
                go_at_call 23; ((with_reducible refine (matchN (l := f) (r := r) (S := fun _ => True) hm1 rfl _ (mvI P1 (by (first | with_reducible assumption | (with_reducible refine Below.drew ?_; with_reducible assumption) | (with_reducible refine ba _ _ ?_; with_reducible assumption) | (with_reducible refine Below.drew ?_; with_reducible refine ba _ _ ?_; with_reducible assumption) | exact Below.refl _ _ | exact (Below.refl _ _).drew | exact (Below.refl _ _).alloc (Nat.le_refl _) _ | (refine bc _ _ (by assumption) (by assumption))))).out VV.out).mono ?_)); rintro e wM ⟨rfl, hbM⟩; have hkM := bc _ _ (by (first | with_reducible assumption | (with_reducible refine Below.drew ?_; with_reducible assumption) | (with_reducible refine ba _ _ ?_; with_reducible assumption) | (with_reducible refine Below.drew ?_; with_reducible refine ba _ _ ?_; with_reducible assumption) | exact Below.refl _ _ | exact (Below.refl _ _).drew | exact (Below.refl _ _).alloc (Nat.le_refl _) _ | (refine bc _ _ (by assumption) (by assumption)))) hbM
                refine hK.out _ _ ?_ (fun hHeld => ?_)
                · (first | (repeat' (first | with_reducible assumption | exact Nat.le_refl _ | with_reducible refine Below.drew ?_ | with_reducible refine ba _ _ ?_ | omega | (simp <;> omega))) | (first | with_reducible assumption | (with_reducible refine Below.drew ?_; with_reducible assumption) | (with_reducible refine ba _ _ ?_; with_reducible assumption) | (with_reducible refine Below.drew ?_; with_reducible refine ba _ _ ?_; with_reducible assumption) | exact Below.refl _ _ | exact (Below.refl _ _).drew | exact (Below.refl _ _).alloc (Nat.le_refl _) _ | (refine bc _ _ (by assumption) (by assumption))))
                clear hK K
                refine RegOk.put_ (m' := 65535) (by kernel_rfl) ?_
                try simp only [Act.put, List.setIfInBounds_toArray, List.set_cons_zero, List.set_cons_succ]
                refine hR.take (i := 16) (oi := ?ow846_16) (v := ?vw846_16) (m' := 131071) ?hw846_16 (by kernel_rfl) (by kernel_rfl) (fun _ _ _ h => h) (Or.inl ⟨?sw846_16, ?yw846_16⟩) (by assumption) ?nw846_16
                case hw846_16 => simp only [List.getElem?_toArray, List.getElem?_cons_succ, List.getElem?_cons_zero]; rfl
                case sw846_16 => rfl
                case yw846_16 => (intro w hSw; (try dsimp only at hSw); go_simp <;> with_reducible rfl)
                try simp only [Act.put, List.setIfInBounds_toArray, List.set_cons_zero, List.set_cons_succ]
                refine hR.take (i := 17) (oi := ?ow847_17) (v := ?vw847_17) (m' := 262143) ?hw847_17 (by kernel_rfl) (by kernel_rfl) (fun _ _ _ h => h) (Or.inl ⟨?sw847_17, ?yw847_17⟩) (by assumption) ?nw847_17
                case hw847_17 => simp only [List.getElem?_toArray, List.getElem?_cons_succ, List.getElem?_cons_zero]; rfl
                case sw847_17 => rfl
                case yw847_17 => (intro w hSw; (try dsimp only at hSw); go_simp <;> with_reducible rfl)
                try simp only [Act.put, List.setIfInBounds_toArray, List.set_cons_zero, List.set_cons_succ]
                refine hR.take (i := 18) (oi := ?ow848_18) (v := ?vw848_18) (m' := 524287) ?hw848_18 (by kernel_rfl) (by kernel_rfl) (fun _ _ _ h => h) (Or.inl ⟨?sw848_18, ?yw848_18⟩) (by assumption) ?nw848_18
                case hw848_18 => simp only [List.getElem?_toArray, List.getElem?_cons_succ, List.getElem?_cons_zero]; rfl
                case sw848_18 => rfl
                case yw848_18 => (intro w hSw; (try dsimp only at hSw); go_simp <;> with_reducible rfl)
                try simp only [Act.put, List.setIfInBounds_toArray, List.set_cons_zero, List.set_cons_succ]
                refine hR.take (i := 19) (oi := ?ow849_19) (v := ?vw849_19) (m' := 1048575) ?hw849_19 (by kernel_rfl) (by kernel_rfl) (fun _ _ _ h => h) (Or.inl ⟨?sw849_19, ?yw849_19⟩) (by assumption) ?nw849_19
                case hw849_19 => simp only [List.getElem?_toArray, List.getElem?_cons_succ, List.getElem?_cons_zero]; rfl
                case sw849_19 => rfl
                case yw849_19 => (intro w hSw; (try dsimp only at hSw); go_simp <;> with_reducible rfl)
                try simp only [Act.put, List.setIfInBounds_toArray, List.set_cons_zero, List.set_cons_succ]
                refine hR.take (i := 20) (oi := ?ow850_20) (v := ?vw850_20) (m' := 2097151) ?hw850_20 (by kernel_rfl) (by kernel_rfl) (fun _ _ _ h => h) (Or.inl ⟨?sw850_20, ?yw850_20⟩) (by assumption) ?nw850_20
                case hw850_20 => simp only [List.getElem?_toArray, List.getElem?_cons_succ, List.getElem?_cons_zero]; rfl
                case sw850_20 => rfl
                case yw850_20 => (intro w hSw; (try dsimp only at hSw); go_simp <;> with_reducible rfl)
                try simp only [Act.put, List.setIfInBounds_toArray, List.set_cons_zero, List.set_cons_succ]
                refine hR.take (i := 21) (oi := ?ow851_21) (v := ?vw851_21) (m' := 4194303) ?hw851_21 (by kernel_rfl) (by kernel_rfl) (fun _ _ _ h => h) (Or.inl ⟨?sw851_21, ?yw851_21⟩) (by assumption) ?nw851_21
                case hw851_21 => simp only [List.getElem?_toArray, List.getElem?_cons_succ, List.getElem?_cons_zero]; rfl
                case sw851_21 => rfl
                case yw851_21 => (intro w hSw; (try dsimp only at hSw); go_simp <;> with_reducible rfl)
                try simp only [Act.put, List.setIfInBounds_toArray, List.set_cons_zero, List.set_cons_succ]
                refine hR.take (i := 22) (oi := ?ow852_22) (v := ?vw852_22) (m' := 8388607) ?hw852_22 (by kernel_rfl) (by kernel_rfl) (fun _ _ _ h => h) (Or.inl ⟨?sw852_22, ?yw852_22⟩) (by assumption) ?nw852_22
                case hw852_22 => simp only [List.getElem?_toArray, List.getElem?_cons_succ, List.getElem?_cons_zero]; rfl
                case sw852_22 => rfl
                case yw852_22 => (intro w hSw; (try dsimp only at hSw); go_simp <;> with_reducible rfl)
                try simp only [Act.put, List.setIfInBounds_toArray, List.set_cons_zero, List.set_cons_succ]
                refine hR.take (i := 23) (oi := ?ow853_23) (v := ?vw853_23) (m' := 16777215) ?hw853_23 (by kernel_rfl) (by kernel_rfl) (fun _ _ _ h => h) (Or.inl ⟨?sw853_23, ?yw853_23⟩) (by assumption) ?nw853_23
                case hw853_23 => simp only [List.getElem?_toArray, List.getElem?_cons_succ, List.getElem?_cons_zero]; rfl
                case sw853_23 => rfl
                case yw853_23 => (intro w hSw; (try dsimp only at hSw); go_simp <;> with_reducible rfl)
                try simp only [Act.put, List.setIfInBounds_toArray, List.set_cons_zero, List.set_cons_succ]
                refine hR.take (i := 25) (oi := ?ow854_25) (v := ?vw854_25) (m' := 50331647) ?hw854_25 (by kernel_rfl) (by kernel_rfl) (fun _ _ _ h => h) (Or.inl ⟨?sw854_25, ?yw854_25⟩) (by assumption) ?nw854_25
                case hw854_25 => simp only [List.getElem?_toArray, List.getElem?_cons_succ, List.getElem?_cons_zero]; rfl
                case sw854_25 => rfl
                case yw854_25 => (intro w hSw; (try dsimp only at hSw); go_simp <;> with_reducible rfl)
                try simp only [Act.put, List.setIfInBounds_toArray, List.set_cons_zero, List.set_cons_succ]
                refine hR.come (rs := [24]) (by kernel_rfl) (by simp) ?_
                refine AllReadyH.cons (o := ?o855_24) ?h855_24 (fun K hK => ?kw855_24) AllReadyH.nil
                case h855_24 => simp only [List.getElem?_toArray, List.getElem?_cons_succ, List.getElem?_cons_zero]; rfl
                go_simp
                go_at_call 24; ((with_reducible refine (fieldI (r := r) (col := (m : Int)) _ hm0).mono ?_)); rw [HFY.out]; rintro e wN ⟨rfl, hbN⟩; have hkN := bc _ _ (by (first | with_reducible assumption | (with_reducible refine Below.drew ?_; with_reducible assumption) | (with_reducible refine ba _ _ ?_; with_reducible assumption) | (with_reducible refine Below.drew ?_; with_reducible refine ba _ _ ?_; with_reducible assumption) | exact Below.refl _ _ | exact (Below.refl _ _).drew | exact (Below.refl _ _).alloc (Nat.le_refl _) _ | (refine bc _ _ (by assumption) (by assumption)))) hbN
                refine hK.out _ _ ?_ (fun hHeld => ?_)
                · (first | (repeat' (first | with_reducible assumption | exact Nat.le_refl _ | with_reducible refine Below.drew ?_ | with_reducible refine ba _ _ ?_ | omega | (simp <;> omega))) | (first | with_reducible assumption | (with_reducible refine Below.drew ?_; with_reducible assumption) | (with_reducible refine ba _ _ ?_; with_reducible assumption) | (with_reducible refine Below.drew ?_; with_reducible refine ba _ _ ?_; with_reducible assumption) | exact Below.refl _ _ | exact (Below.refl _ _).drew | exact (Below.refl _ _).alloc (Nat.le_refl _) _ | (refine bc _ _ (by assumption) (by assumption))))
                clear hK K
                refine RegOk.put_ (m' := 67108863) (by kernel_rfl) ?_
                try simp only [Act.put, List.setIfInBounds_toArray, List.set_cons_zero, List.set_cons_succ]
                refine hR.take (i := 26) (oi := ?ow856_26) (v := ?vw856_26) (m' := 134217727) ?hw856_26 (by kernel_rfl) (by kernel_rfl) (fun _ _ _ h => h) (Or.inl ⟨?sw856_26, ?yw856_26⟩) (by assumption) ?nw856_26
                case hw856_26 => simp only [List.getElem?_toArray, List.getElem?_cons_succ, List.getElem?_cons_zero]; rfl
                case sw856_26 => rfl
                case yw856_26 => (intro w hSw; (try dsimp only at hSw); go_simp <;> with_reducible rfl)
                try simp only [Act.put, List.setIfInBounds_toArray, List.set_cons_zero, List.set_cons_succ]
                refine hR.take (i := 27) (oi := ?ow857_27) (v := ?vw857_27) (m' := 268435455) ?hw857_27 (by kernel_rfl) (by kernel_rfl) (fun _ _ _ h => h) (Or.inl ⟨?sw857_27, ?yw857_27⟩) (by assumption) ?nw857_27
                case hw857_27 => simp only [List.getElem?_toArray, List.getElem?_cons_succ, List.getElem?_cons_zero]; rfl
                case sw857_27 => rfl
                case yw857_27 => (intro w hSw; (try dsimp only at hSw); go_simp <;> with_reducible rfl)
                try simp only [Act.put, List.setIfInBounds_toArray, List.set_cons_zero, List.set_cons_succ]
                refine hR.all (by kernel_rfl) ?_ _
                refine NoPanic.normal ?_
                go_wp2_with fail
                go_roundw
                case rel => exact ⟨j + 1, A1, c1, k1, by omega, by go_num, rfl, Lib.hid (by rw [HST.out, if_neg (by rw [PB.out]; simp)]; exact HK1.out), Lib.hid (by rw [HST.out, if_neg (by rw [PB.out]; simp)]; exact (mvO HO1 (by (first | with_reducible assumption | (with_reducible refine Below.drew ?_; with_reducible assumption) | (with_reducible refine ba _ _ ?_; with_reducible assumption) | (with_reducible refine Below.drew ?_; with_reducible refine ba _ _ ?_; with_reducible assumption) | exact Below.refl _ _ | exact (Below.refl _ _).drew | exact (Below.refl _ _).alloc (Nat.le_refl _) _ | (refine bc _ _ (by assumption) (by assumption))))).out), Lib.hid (hbx.out.trans (Below.mono (by (first | with_reducible assumption | (with_reducible refine Below.drew ?_; with_reducible assumption) | (with_reducible refine ba _ _ ?_; with_reducible assumption) | (with_reducible refine Below.drew ?_; with_reducible refine ba _ _ ?_; with_reducible assumption) | exact Below.refl _ _ | exact (Below.refl _ _).drew | exact (Below.refl _ _).alloc (Nat.le_refl _) _ | (refine bc _ _ (by assumption) (by assumption)))) hbx.out.size))⟩
                case measure => simp [intOf]; omega
        · have hj1 : ¬ (j : Int) < (ns : Int) := by omega
          obtain rfl : j = ns := by omega
          have e1 : valTo f m ps (v + 1) = valTo f m ps v ++ List.replicate (cntP f m v (ps.take j)) (v : Int) := by rw [valTo_succ, List.take_of_length_le (by rw [HPL.out]; omega)]
          have HE := Lib.hid e1
          clear e1
          go_wp2_with fail
          go_roundw
          case rel => exact ⟨v + 1, A1, c1, k1, by omega, by go_num, rfl, Lib.hid (by rw [HE.out]; exact HK1.out), Lib.hid (by rw [HE.out]; exact HO1.out), hbx⟩
          case measure => simp [intOf]; omega
    · have hv1 : ¬ (v : Int) < 16 := by omega
      obtain rfl : v = 16 := by omega
      obtain ⟨w5, hwv⟩ : ∃ x, x = wr := ⟨_, rfl⟩
      subst hwv
      have b5 := Lib.hid (b4.out.trans (hbr.out.mono b4.out.size))
      replace Ss := mvSt Ss hbr.out
      replace Ff := mvF Ff hbr.out
      have hk320 : k0 ≤ 320 := by
        have h1 := valTo_len f m ps 16
        rw [HPL.out, HK0.out] at h1
        omega
      obtain ⟨cs, hcs⟩ : ∃ cs, csF f m ps 16 = cs := ⟨_, rfl⟩
      obtain ⟨vs, hvs⟩ : ∃ vs, valTo f m ps 16 = vs := ⟨_, rfl⟩
      have HVC := Lib.hid (show vs = vals 0 cs by rw [← hvs, ← hcs]; rfl)
      rw [hvs] at HK0 HO0
      obtain ⟨xs, hxs⟩ : ∃ xs, sumsF ⟨4, (m : Int), 0, [f]⟩ (liveF s) = xs := ⟨_, rfl⟩
      have HXC := Lib.hid (show xs = cs.map (fun (n : Nat) => (n : Int)) by rw [← hxs, sums_cs, HPS.out, hcs])
      have HNxs := Lib.hid (show xs.length = 16 from sums_len2 hxs (by kernel_rfl))
      have HXB := Lib.hid (show ∀ x ∈ xs, 0 ≤ x ∧ x ≤ 1000 from fun x hx => by
        have h1 := sums_cnt (q := ⟨4, (m : Int), 0, [f]⟩) (by dsimp only; decide) (liveF s) x (by rw [hxs]; exact hx)
        have h2 := live_len s
        omega)
      have hm3 : 0 ≤ (m : Int) ∧ (m : Int) ≤ 3 := by have := HM02.out; omega
      have HXX := Lib.hid hxs
      have HM3 := Lib.hid hm3
      clear hcs hvs hxs hm3 hlt hv b4 hbr
      go_upto_region 14 with fail
      obtain ⟨r, hr, hr20⟩ : ∃ r : Nat, (kk : Int).tmod (20 : Nat) = (r : Int) ∧ r < 20 := tmod_bd kk 20 (by omega)
      obtain ⟨rk, hrk⟩ : ∃ k, r + 1 = k := ⟨_, rfl⟩
      have HRK := Lib.hid hrk
      clear hrk
      go_cut [16] (fun v wx => v = .int .i64 (rk : Int) ∧ wx = w5)
      case first =>
        have hr4 : (kk : Int).tmod 20 = (r : Int) := hr
        have hw0 : IntKind.u8.wrap (r : Int) = (r : Int) := IntWalk.u8_in _ (by omega)
        have hw2 : IntKind.i64.wrap (1 + (r : Int)) = (rk : Int) := by rw [show 1 + (r : Int) = (rk : Int) by have := HRK.out; omega]; exact IntWalk.i64_in _ (by have := HRK.out; omega)
        have hw1 : wrap64 (1 + (r : Int)) = (rk : Int) := by rw [show 1 + (r : Int) = (rk : Int) by have := HRK.out; omega]; exact IntWalk.wrap64_in _ (by have := HRK.out; omega)
        go_wp2_with fail
        go_meet
        case rel => exact ⟨rfl, rfl⟩
      obtain ⟨rfl, hwx⟩ := hcut
      subst hwx
      obtain ⟨w5, hwv⟩ : ∃ x, x = wc := ⟨_, rfl⟩
      subst hwv
      clear hr
      obtain ⟨ya, hya⟩ : ∃ ya, smallF xs (rk : Int) = ya := ⟨_, rfl⟩
      obtain ⟨na, hna⟩ : ∃ n, ya.length = n := ⟨_, rfl⟩
      obtain ⟨d0, hd0⟩ : ∃ d, nzF xs = d := ⟨_, rfl⟩
      have HYA := Lib.hid hya
      have HD0 := Lib.hid hd0
      have hk1 : 1 ≤ (rk : Int) := by have := HRK.out; omega
      have hk2 : (rk : Int) ≤ 65536 := by have := HRK.out; omega
      have V17 := Lib.hid (q1_valid Vf.out (col := (m : Int)) HM3.out (kd := 6) (k := (rk : Int)) (.inr (.inr (.inr (.inr (.inr ⟨rfl, hk1, hk2⟩))))))
      have V18 := Lib.hid (q1_valid Vf.out (col := (m : Int)) HM3.out (kd := 5) (k := 0) (.inr (.inr (.inr (.inr (.inl ⟨rfl, rfl⟩))))))
      have V19 := Lib.hid (q1_valid Vf.out (col := (m : Int)) HM3.out (kd := 4) (k := 0) (.inr (.inr (.inr (.inl ⟨rfl, rfl⟩)))))
      have W17 := Lib.hid (q1_narrow (kd := 6) (col := (m : Int)) (k := (rk : Int)) (f := f) (.inr HM02.out))
      have W18 := Lib.hid (q1_narrow (kd := 5) (col := (m : Int)) (k := 0) (f := f) (.inr HM02.out))
      have W19 := Lib.hid (q1_narrow (kd := 4) (col := (m : Int)) (k := 0) (f := f) (.inr HM02.out))
      have HX17 := Lib.hid (show sumsF ⟨6, (m : Int), (rk : Int), [f]⟩ (liveF s) = xs by rw [← HXX.out]; exact sums_k V17.out (by decide) (by decide))
      have HX18 := Lib.hid (show sumsF ⟨5, (m : Int), 0, [f]⟩ (liveF s) = xs by rw [← HXX.out]; exact sums_k V18.out (by decide) (by decide))
      have HX19 := HXX
      have HY17 := Lib.hid (show resF ⟨6, (m : Int), (rk : Int), [f]⟩ xs = ya from hya)
      have HY18 := Lib.hid (show resF ⟨5, (m : Int), 0, [f]⟩ xs = [d0] by rw [← hd0]; rfl)
      have HY19 := Lib.hid (show resF ⟨4, (m : Int), 0, [f]⟩ xs = xs from rfl)
      have HN17 := Lib.hid hna
      have HN18 := Lib.hid (show [d0].length = 1 from rfl)
      have HN19 := HNxs
      clear hya hna hd0 hk1 hk2
      obtain ⟨L, cl, G, cg, hg, hsL, hsG⟩ := Ss.out
      obtain ⟨s0, s1⟩ := two2 (Lib.hid hg)
      have HSL := Lib.hid hsL
      have HSG := Lib.hid hsG
      clear hg hsL hsG
      go_upto_region 15 with fail
      go_cut [17] (fun p wx => ∃ g, p = .pointer (some ⟨g, 0, none⟩) ∧ An wx g xs ya 16 na ∧ Below w5.heap.size w5 wx)
      case first =>
        go_wp2_with (go_at_call 15; refine (answerN (q := ⟨6, m, rk, [f]⟩) (s := s) (n := 16) (m := na) HX17.out HY17.out rfl HNxs.out HN17.out rfl rfl _ V17.out W17.out HOKs.out hls1000 Ff.out HSL.out HSG.out).mono ?_; rintro e wC ⟨A, c, B, d, rfl, h1, h2, hbC⟩; have H1 := Lib.hid h1; have H2 := Lib.hid h2; have bC := Lib.hid hbC; clear h1 h2 hbC)
        go_meet
        case rel => exact ⟨_, rfl, ⟨A, c, B, d, heap_alloc_at rfl, (H1.out.alloc_ _).sub (fun _ _ _ => trivial), (H2.out.alloc_ _).sub (fun _ _ _ => trivial)⟩, bC.out.alloc bC.out.size _⟩
      obtain ⟨g17, rfl, ha, hb⟩ := hcut
      obtain ⟨w6, hwv⟩ : ∃ x, x = wc := ⟨_, rfl⟩
      subst hwv
      have A17 := Lib.hid ha
      have b6 := Lib.hid (b5.out.trans (hb.mono b5.out.size))
      replace Ss := mvSt Ss hb
      replace Ff := mvF Ff hb
      replace HO0 := mvO HO0 hb
      clear ha hb b5 HSL HSG s0 s1
      obtain ⟨L, cl, G, cg, hg, hsL, hsG⟩ := Ss.out
      obtain ⟨s0, s1⟩ := two2 (Lib.hid hg)
      have HSL := Lib.hid hsL
      have HSG := Lib.hid hsG
      clear hg hsL hsG
      go_upto_region 16 with fail
      go_cut [18] (fun p wx => ∃ g, p = .pointer (some ⟨g, 0, none⟩) ∧ An wx g xs [d0] 16 1 ∧ Below w6.heap.size w6 wx)
      case first =>
        go_wp2_with (go_at_call 15; refine (answerN (q := ⟨5, m, 0, [f]⟩) (s := s) (n := 16) (m := 1) HX18.out HY18.out rfl HNxs.out HN18.out rfl rfl _ V18.out W18.out HOKs.out hls1000 Ff.out HSL.out HSG.out).mono ?_; rintro e wC ⟨A, c, B, d, rfl, h1, h2, hbC⟩; have H1 := Lib.hid h1; have H2 := Lib.hid h2; have bC := Lib.hid hbC; clear h1 h2 hbC)
        go_meet
        case rel => exact ⟨_, rfl, ⟨A, c, B, d, heap_alloc_at rfl, (H1.out.alloc_ _).sub (fun _ _ _ => trivial), (H2.out.alloc_ _).sub (fun _ _ _ => trivial)⟩, bC.out.alloc bC.out.size _⟩
      obtain ⟨g18, rfl, ha, hb⟩ := hcut
      obtain ⟨w7, hwv⟩ : ∃ x, x = wc := ⟨_, rfl⟩
      subst hwv
      have A18 := Lib.hid ha
      have b7 := Lib.hid (b6.out.trans (hb.mono b6.out.size))
      replace Ss := mvSt Ss hb
      replace Ff := mvF Ff hb
      replace HO0 := mvO HO0 hb
      replace A17 := mvAn A17 hb
      clear ha hb b6 HSL HSG s0 s1
      obtain ⟨L, cl, G, cg, hg, hsL, hsG⟩ := Ss.out
      obtain ⟨s0, s1⟩ := two2 (Lib.hid hg)
      have HSL := Lib.hid hsL
      have HSG := Lib.hid hsG
      clear hg hsL hsG
      go_upto_region 17 with fail
      go_cut [19] (fun p wx => ∃ g, p = .pointer (some ⟨g, 0, none⟩) ∧ An wx g xs xs 16 16 ∧ Below w7.heap.size w7 wx)
      case first =>
        go_wp2_with (go_at_call 15; refine (answerN (q := ⟨4, m, 0, [f]⟩) (s := s) (n := 16) (m := 16) HX19.out HY19.out rfl HNxs.out HN19.out rfl rfl _ V19.out W19.out HOKs.out hls1000 Ff.out HSL.out HSG.out).mono ?_; rintro e wC ⟨A, c, B, d, rfl, h1, h2, hbC⟩; have H1 := Lib.hid h1; have H2 := Lib.hid h2; have bC := Lib.hid hbC; clear h1 h2 hbC)
        go_meet
        case rel => exact ⟨_, rfl, ⟨A, c, B, d, heap_alloc_at rfl, (H1.out.alloc_ _).sub (fun _ _ _ => trivial), (H2.out.alloc_ _).sub (fun _ _ _ => trivial)⟩, bC.out.alloc bC.out.size _⟩
      obtain ⟨g19, rfl, ha, hb⟩ := hcut
      obtain ⟨w8, hwv⟩ : ∃ x, x = wc := ⟨_, rfl⟩
      subst hwv
      have A19 := Lib.hid ha
      have b8 := Lib.hid (b7.out.trans (hb.mono b7.out.size))
      replace Ss := mvSt Ss hb
      replace Ff := mvF Ff hb
      replace HO0 := mvO HO0 hb
      replace A17 := mvAn A17 hb
      replace A18 := mvAn A18 hb
      clear ha hb b7 HSL HSG s0 s1
      have IV := Lib.hid (HO0.out.flatSl i64_flat (T := fun _ => True) (fun _ _ => trivial))
      have HKV := HK0
      clear HO0 Ss Ff HK0
      go_upto_if 103 with fail
      go_cut [20] (fun v wx => ∃ A c, v = .slice A na c ∧ Sl .i64 (fun _ => True) wx A c ya ∧ Below w8.heap.size w8 wx)
      case first =>
        by_cases hrk : r < k0
        · obtain ⟨x, hx, hsm⟩ := vals_small (cs := cs) (k := r) (by rw [← HVC.out, HKV.out]; exact hrk)
          have hya : ya = [x] := by rw [← HYA.out, HXC.out, show (rk : Int) = (r : Int) + 1 by have := HRK.out; omega]; exact hsm
          subst hya
          have hn1 : na = 1 := HN17.out.symm
          subst hn1
          obtain ⟨b6, o6, rfl, -, l6, v6⟩ := i64_at IV.out (i := r) (r := x) (by rw [HVC.out]; exact hx)
          have g1 : ((rk : Int) ≤ (k0 : Int)) := by have := HRK.out; omega
          have hw3 : IntKind.i64.wrap ((rk : Int) - 1) = (r : Int) := by rw [show (rk : Int) - 1 = (r : Int) by have := HRK.out; omega]; exact IntWalk.i64_in _ (by omega)
          have hw1 : wrap64 ((rk : Int) - 1) = (r : Int) := by rw [show (rk : Int) - 1 = (r : Int) by have := HRK.out; omega]; exact IntWalk.wrap64_in _ (by omega)
          have hr0 : (0 : Int) ≤ (r : Int) := by omega
          have hr1 : (r : Int) < (k0 : Int) := by omega
          clear hx hsm
          go_wp2_with (at_builtin; go_must ((refine wpList_append_E (E := .i64) (S := fun b => b = w8.heap.size + 1) rfl (.tmp 104) (.tmp 110) rfl i64sT (base := w8.heap.size) (v := .slice (some ⟨w8.heap.size, 0, none⟩) 0 0) (xs := []) (ys := [x]) (by rfl) (by rfl) rfl (nz := 1) (by simp) ((Own.litAt _ _ _ _ rfl (Nat.le_refl _)).alloc _) (Sl.litAt (S := fun b => b = w8.heap.size + 1) (by simp) (.single rfl) (by unfold maxLen; simp) (fun _ h _ => h) (by simp)) (by unfold maxLen; simp) (by simp) (by simp <;> omega) (fun g hg (hs : g = w8.heap.size + 1) => by have h1 : some w8.heap.size = some g := hg; injection h1 with h1; omega) ?_); intro A6 c6 w6 hown6 hg6 hor6))
          go_meet
          case rel =>
            exact ⟨A6, c6, rfl, hown6.flatSl i64_flat (fun _ _ => trivial), (((Below.refl w8.heap.size w8).alloc (Nat.le_refl _) _).alloc (by simp) _).grown hg6 (by simp <;> omega) (fun k hk => by have h2 : some w8.heap.size = some k := hk; injection h2 with h2; omega)⟩
        · have hya : ya = [] := by rw [← HYA.out, HXC.out, show (rk : Int) = (r : Int) + 1 by have := HRK.out; omega]; exact vals_big (by rw [← HVC.out, HKV.out]; exact hrk)
          subst hya
          have hn1 : na = 0 := HN17.out.symm
          subst hn1
          have g1 : ¬ ((rk : Int) ≤ (k0 : Int)) := by have := HRK.out; omega
          go_wp2_with fail
          go_meet
          case rel => exact ⟨_, _, rfl, Sl.nil_ _ _ _ _ (Nat.zero_le _), (Below.refl w8.heap.size w8).alloc (Nat.le_refl _) _⟩
      obtain ⟨AW, cW, rfl, hs, hb⟩ := hcut
      obtain ⟨w9, hwv⟩ : ∃ x, x = wc := ⟨_, rfl⟩
      subst hwv
      have IW := Lib.hid hs
      have b9 := Lib.hid (b8.out.trans (hb.mono b8.out.size))
      replace IV := mvI IV hb
      replace A17 := mvAn A17 hb
      replace A18 := mvAn A18 hb
      replace A19 := mvAn A19 hb
      clear hs hb b8 HYA
      have hcb : ∀ j, j ≤ k0 → 0 ≤ chg none (vs.take j) ∧ chg none (vs.take j) ≤ 1000 := fun j hj => by
        have h1 := chg_bd (vs.take j) none
        have h2 : (vs.take j).length ≤ j := List.length_take_le _ _
        omega
      have HCB := Lib.hid hcb
      clear hcb
      go_wp2_with fail
      go_loopw [21, 22] (fun d i wx => ∃ j : Nat, j ≤ k0 ∧ i = .int .i64 j ∧ d = .int .i64 (chg none (vs.take j)) ∧ Hid (Below w9.heap.size w9 wx)) (fun _ i _ => k0 - (intOf i).toNat)
      case atStart => exact ⟨0, Nat.zero_le _, rfl, rfl, Lib.hid (Below.refl _ _)⟩
      case round =>
        obtain ⟨j, hj, rfl, hd, hbx⟩ := hrel
        obtain ⟨y, hy⟩ : ∃ y, chg none (vs.take j) = y := ⟨_, rfl⟩
        have hyb := HCB.out j hj
        rw [hy] at hd hyb
        subst hd
        have HY := Lib.hid hy
        have hkr := hbx.out
        have hj0 : (0 : Int) ≤ (j : Int) := by omega
        clear hy
        by_cases hjt : j < k0
        · have hj1 : (j : Int) < (k0 : Int) := by omega
          obtain ⟨x, hx⟩ : ∃ x, vs[j]? = some x := ⟨_, List.getElem?_eq_getElem (by rw [HKV.out]; exact hjt)⟩
          have HS := Lib.hid (chg_step hx)
          obtain ⟨b6, o6, rfl, -, l6, v6⟩ := i64_at (mvI IV hkr).out hx
          have hyw : IntKind.i64.wrap (y + 1) = y + 1 := IntWalk.i64_in _ (by omega)
          clear hx
          by_cases hz : j = 0
          · have e0 : ((j : Int) == 0) = true := by rw [hz]; rfl
            have HZ := Lib.hid hz
            clear hz
            go_wp2_with fail
            go_quiet (fail)
            go_wp2_with fail
            go_roundw
            case rel => exact ⟨j + 1, by omega, by go_num, by rw [HS.out, if_pos (.inl HZ.out), HY.out], Lib.hid (below_drewN hkr _)⟩
            case measure => simp [intOf]; omega
          · have e0 : ((j : Int) == 0) = false := by rw [beq_eq_false_iff_ne]; omega
            have e1 : ¬ (j : Int) = 0 := by omega
            obtain ⟨p, hp⟩ : ∃ p : Nat, j = p + 1 := ⟨j - 1, by omega⟩
            obtain ⟨x', hx'⟩ : ∃ x, vs[p]? = some x := ⟨_, List.getElem?_eq_getElem (by rw [HKV.out]; omega)⟩
            obtain ⟨b7, o7, e7, -, -, v7⟩ := i64_at (mvI IV hkr).out hx'
            obtain ⟨rfl, rfl⟩ : b6 = b7 ∧ o6 = o7 := by injection e7 with h; injection h with h1 h2; exact ⟨h1, h2⟩
            have hwp : wrap64 ((j : Int) - 1) = (p : Int) := by rw [show (j : Int) - 1 = (p : Int) by omega]; exact IntWalk.wrap64_in _ (by omega)
            have hwq : IntKind.i64.wrap ((j : Int) - 1) = (p : Int) := by rw [show (j : Int) - 1 = (p : Int) by omega]; exact IntWalk.i64_in _ (by omega)
            have hp0 : (0 : Int) ≤ (p : Int) := by omega
            have hp1 : (p : Int) < (k0 : Int) := by omega
            have HX' := Lib.hid (show vs[j - 1]? = some x' by rw [hp]; exact hx')
            have HZ := Lib.hid hz
            clear hp hx' e7 hz
            by_cases hxx : x = x'
            · have e2 : (x != x') = false := by rw [hxx]; simp
              have HXX' := Lib.hid hxx
              clear hxx
              go_wp2_with fail
              go_quiet (fail)
              go_wp2_with fail
              go_roundw
              case rel => exact ⟨j + 1, by omega, by go_num, by rw [HS.out, if_neg (by rintro (h | h); exact HZ.out h; exact h (by rw [HX'.out, HXX'.out])), Int.add_zero, HY.out], Lib.hid (below_drewN hkr _)⟩
              case measure => simp [intOf]; omega
            · have e2 : (x != x') = true := by rw [bne_iff_ne]; exact hxx
              have HXX' := Lib.hid hxx
              clear hxx
              go_wp2_with fail
              go_quiet (fail)
              go_wp2_with fail
              go_roundw
              case rel => exact ⟨j + 1, by omega, by go_num, by rw [HS.out, if_pos (.inr (by rw [HX'.out]; intro h; injection h with h; exact HXX'.out h.symm)), HY.out], Lib.hid (below_drewN hkr _)⟩
              case measure => simp [intOf]; omega
        · have hj1 : ¬ (j : Int) < (k0 : Int) := by omega
          obtain rfl : j = k0 := by omega
          have hyd : y = d0 := by rw [← HY.out, List.take_of_length_le (by rw [HKV.out]; omega), HVC.out, chg_vals cs 0 none (fun x h => by cases h), ← HD0.out, HXC.out]
          subst hyd
          obtain ⟨w10, hwv⟩ : ∃ x, x = wr := ⟨_, rfl⟩
          subst hwv
          have b10 := Lib.hid (b9.out.trans (hkr.mono b9.out.size))
          replace IW := mvI IW hkr
          replace A17 := mvAn A17 hkr
          replace A18 := mvAn A18 hkr
          replace A19 := mvAn A19 hkr
          clear hkr hbx IV b9 hyb hj0 hj1 hjt hj
          obtain ⟨P17, p17, Q17, r17, y, sA, sB⟩ := A17.out
          have Y17 := Lib.hid y
          have SB17 := Lib.hid sB
          clear y sA sB A17
          obtain ⟨P18, p18, Q18, r18, y, sA, sB⟩ := A18.out
          have Y18 := Lib.hid y
          have SB18 := Lib.hid sB
          clear y sA sB A18
          obtain ⟨P19, p19, Q19, r19, y, sA, sB⟩ := A19.out
          have Y19 := Lib.hid y
          have SB19 := Lib.hid sB
          clear y sA sB A19
          have lg19 := heap_lt Y19.out
          go_wp2_with fail
          go_loopw [23, 24] (fun t i wx => ∃ v : Nat, v ≤ 16 ∧ i = .int .i64 v ∧ t = .int .i64 (xs.take v).sum ∧ Hid (Below w10.heap.size w10 wx)) (fun _ i _ => 16 - (intOf i).toNat)
          case atStart => exact ⟨0, Nat.zero_le _, rfl, rfl, Lib.hid (Below.refl _ _)⟩
          case round =>
            obtain ⟨v, hv, rfl, ht, hbx⟩ := hrel
            obtain ⟨z, hz⟩ : ∃ z, (xs.take v).sum = z := ⟨_, rfl⟩
            rw [hz] at ht
            subst ht
            have HZ := Lib.hid hz
            have hzb : 0 ≤ z ∧ z ≤ 16000 := by
              have h1 := sum_bd (M := 1000) (xs := xs.take v) (fun x hx => HXB.out x (List.mem_of_mem_take hx))
              have h2 : (xs.take v).length ≤ v := List.length_take_le _ _
              rw [hz] at h1
              omega
            clear hz
            have hkr := hbx.out
            have hv0 : (0 : Int) ≤ (v : Int) := by omega
            obtain ⟨y0, y1, -⟩ := zAn Y19 hkr
            by_cases hvt : v < 16
            · have hv1 : (v : Int) < 16 := by omega
              obtain ⟨x, hx⟩ : ∃ x, xs[v]? = some x := ⟨_, List.getElem?_eq_getElem (by rw [HNxs.out]; exact hvt)⟩
              have hxb := HXB.out x (List.mem_of_getElem? hx)
              have HS := Lib.hid (sum_step hx)
              obtain ⟨b6, o6, rfl, -, l6, v6⟩ := i64_at (mvI SB19 hkr).out hx
              have hzw : IntKind.i64.wrap (z + x) = z + x := IntWalk.i64_in _ (by omega)
              clear hx
              go_wp2_with fail
              go_roundw
              case rel => exact ⟨v + 1, by omega, by go_num, by rw [HS.out, HZ.out], Lib.hid hkr⟩
              case measure => simp [intOf]; omega
            · have hv1 : ¬ (v : Int) < 16 := by omega
              obtain rfl : v = 16 := by omega
              have hzk : z = (j : Int) := by
                rw [← HZ.out, List.take_of_length_le (by rw [HNxs.out]; omega), HXC.out, ← vals_len 0 cs, ← HVC.out, HKV.out]
              subst hzk
              obtain ⟨w11, hwv⟩ : ∃ x, x = wr := ⟨_, rfl⟩
              subst hwv
              have b11 := Lib.hid (b10.out.trans (hkr.mono b10.out.size))
              replace IW := mvI IW hkr
              replace SB17 := mvI SB17 hkr
              replace Y17 := mvQ Y17 hkr
              have z17 : ∀ W, Below w11.heap.size w11 W → _ ∧ _ ∧ _ := fun W hW => zAn Y17 hW
              replace SB18 := mvI SB18 hkr
              replace Y18 := mvQ Y18 hkr
              have z18 : ∀ W, Below w11.heap.size w11 W → _ ∧ _ ∧ _ := fun W hW => zAn Y18 hW
              replace SB19 := mvI SB19 hkr
              replace Y19 := mvQ Y19 hkr
              have z19 : ∀ W, Below w11.heap.size w11 W → _ ∧ _ ∧ _ := fun W hW => zAn Y19 hW
              clear hkr hbx y0 y1 b10 hzb
              have br : Below w11.heap.size w11 w11 := Below.refl _ _
              have ba : ∀ W o, Below w11.heap.size w11 W → Below w11.heap.size w11 (W.alloc o) := fun W o h => h.alloc h.size o
              have bc : ∀ W W', Below w11.heap.size w11 W → Below W.heap.size W W' → Below w11.heap.size w11 W' := fun W W' h k => h.trans (k.mono h.size)
              obtain ⟨y0, y1, l0⟩ := z17 _ br
              obtain ⟨y2, y3, l1⟩ := z18 _ br
              obtain ⟨y4, y5, l2⟩ := z19 _ br
              go_wp2_with (first
                | (go_at_call 17; ((with_reducible refine (same15N (A := Q17) (xs := ya) (n := na) (S := fun _ => True) (T := fun _ => True) HN17.out _ SB17.out IW.out).mono ?_)); rintro e wS ⟨rfl, hS⟩; have hkS := hS; obtain ⟨s2, s3, m1⟩ := z18 _ hS; obtain ⟨s4, s5, m2⟩ := z19 _ hS)
                | (go_at_call 17; ((with_reducible refine (same15N (A := Q18) (xs := [y]) (n := 1) (S := fun _ => True) (T := fun _ => True) rfl _ ?ma ?mb).mono ?_)); (case ma => exact (mvI SB18 hkS).out.alloc_ _); (case mb => exact Sl.litAt (S := fun _ => True) (T := fun _ => True) rfl (.single rfl) (by unfold maxLen; simp) (fun _ _ _ => trivial) trivial); rintro e wT ⟨rfl, hT⟩; have hkT := (hkS.alloc hkS.size _).trans (hT.mono (by have := hkS.size; simp; omega)); obtain ⟨t4, t5, n2⟩ := z19 _ hkT))
              go_ret
              exact ⟨rfl, b11.out.trans (hkT.mono b11.out.size)⟩
end Go.Proofs.YtmkpaolbejlodaaDoor
