/-
  The law 'EvalMoments', walked: it returns true for every input, and nothing that existed changes. No condition.
-/
import Derived.Lib.Mul64
import Derived.Laws.Bits64b
import Derived.Shelf.Bits.Mul64
import Derived.Test.YtmkpaolbejlodaaDoorC1
import Derived.Test.YtmkpaolbejlodaaDoorC2
import Derived.Test.YtmkpaolbejlodaaDoorC3
import Derived.Test.YtmkpaolbejlodaaDoorC4
import Derived.Test.YtmkpaolbejlodaaDoorC5
import Derived.Test.YtmkpaolbejlodaaDoorC6
import Derived.Test.YtmkpaolbejlodaaDoorC7
import Derived.Test.YtmkpaolbejlodaaDoorC8
import Derived.Test.YtmkpaolbejlodaaDoorC9
import Derived.Test.YtmkpaolbejlodaaDoorC10
import Derived.Test.YtmkpaolbejlodaaDoorC11
import Derived.Test.YtmkpaolbejlodaaDoorC12
import Derived.Test.YtmkpaolbejlodaaDoorC13
import Derived.Test.YtmkpaolbejlodaaDoorC14
import Derived.Test.YtmkpaolbejlodaaDoorC15
set_option linter.unusedSimpArgs false
set_option linter.unusedVariables false
namespace Go.Proofs.YtmkpaolbejlodaaDoor
open Go.RowKit

theorem sums_at {q : Qy} {s : Str} {xs : List Int} {n v : Nat} (h : sumsF q (liveF s) = xs) (hn : xs.length = n) (hv : v < n) : xs[v]? = some (totalF q (liveF s) v) := by
  subst h
  exact sumsF_get (by rw [← sumsF_len q (liveF s), hn]; exact hv)
theorem sums_len2 {q : Qy} {s : Str} {xs : List Int} {n : Nat} (h : sumsF q (liveF s) = xs) (hn : nSums q = n) : xs.length = n := by rw [← h, sumsF_len, hn]
theorem tot_cnt {k : Int} {n : Int} {f : List Cd} {l : List Rd} (hl : l.length ≤ 1000) (v : Nat) : 0 ≤ totalF ⟨4, n, k, [f]⟩ l v ∧ totalF ⟨4, n, k, [f]⟩ l v ≤ 1000 := by
  have := total_cnt (q := ⟨4, n, k, [f]⟩) (by dsimp only; decide) v l
  omega
theorem sumTo_bd {f : Nat → Int} {M : Int} (h : ∀ v, 0 ≤ f v ∧ f v ≤ M) (hM : 0 ≤ M) : ∀ n : Nat, 0 ≤ sumTo n f ∧ sumTo n f ≤ n * M
  | 0 => by simp [sumTo]
  | n + 1 => by
    have h1 := sumTo_bd h hM n
    have h2 := h n
    rw [sumTo_succ, Int.natCast_add, Int.natCast_one, Int.add_mul, Int.one_mul]
    omega
theorem sums_one {q : Qy} {s : Str} (h : nSums q = 1) : sumsF q (liveF s) = [totalF q (liveF s) 0] := by
  unfold sumsF; rw [h]; rfl
theorem sq_bd {v : Nat} (hv : v < 16) {g : Int} (hg : 0 ≤ g ∧ g ≤ 1000) : 0 ≤ (v : Int) * v ∧ (v : Int) * v ≤ 225 ∧ 0 ≤ (v : Int) * v * g ∧ (v : Int) * v * g ≤ 225000 := by
  have h1 : 0 ≤ (v : Int) * v ∧ (v : Int) * v ≤ 15 * 15 := mul_bd (a := (v : Int)) (b := (v : Int)) (M := 15) (by omega) (by omega)
  have h2 : 0 ≤ (v : Int) * v * g := Int.mul_nonneg h1.1 hg.1
  have h3 : (v : Int) * v * g ≤ 225 * 1000 := Int.mul_le_mul h1.2 hg.2 hg.1 (by decide)
  omega
theorem and1_u8 (n : Int) : bits BinOp.and IntKind.u8 n 1 = 0 ∨ bits BinOp.and IntKind.u8 n 1 = 1 := by
  obtain ⟨r, hr⟩ : ∃ r, (BitVec.ofInt 8 n &&& BitVec.ofInt 8 1).toNat = r := ⟨_, rfl⟩
  have hle : r ≤ 1 := by rw [← hr, BitVec.toNat_and]; exact Nat.le_trans Nat.and_le_right (by decide)
  have h1 : bits BinOp.and IntKind.u8 n 1 = (r : Int) := by
    show IntKind.u8.wrap ((BitVec.ofInt 8 n &&& BitVec.ofInt 8 1).toNat : Int) = _
    rw [hr]
    exact IntWalk.u8_in _ (by omega)
  rw [h1]
  omega
set_option maxRecDepth 100000 in
set_option maxHeartbeats 8000000 in
theorem walk_EvalMoments {l : List ROp} {fc : List Cd} {A L : Option Addr} {c cl : Nat} {b0 : Int} (w : World) (h : Sl cdE (fun _ => True) w A c fc) (hl : Sl ropE (fun _ => True) w L cl l) (hb0 : 0 ≤ b0 ∧ b0 ≤ 255) :
    Calls Tryd.prog 8 #[.slice A fc.length c, .slice L l.length cl, .int .u8 b0] w fun e w' => e = .returned (.bool true) ∧ Below w.heap.size w w' := by
  obtain ⟨n, rfl⟩ : ∃ m : Nat, b0 = m := ⟨b0.toNat, by omega⟩
  have hn0 : (0 : Int) ≤ (n : Int) := by omega
  have hn255 : n ≤ 255 := by omega
  have HC := Lib.hid h
  have HL := Lib.hid hl
  have hq63 := h.max
  have hl63 := hl.max
  clear h hl hb0
  go_enter Tryd.func8, Tryd.ntmps8
  go_upto_region 1 with fail
  go_upto_region 2 with (go_at_call 10; refine (sanityL15 _).mono ?_; rintro e w2 ⟨rfl, hb2⟩; have b2 := Lib.hid hb2; have HC2 := Lib.hid (HC.out.keep (Below.agree hb2)); have HL2 := Lib.hid (HL.out.keep (Below.agree hb2)); clear hb2)
  clear HC HL
  obtain ⟨s, hs⟩ : ∃ s, madeF 20 l = s := ⟨_, rfl⟩
  have hok := madeF_ok 20 l
  rw [hs] at hok
  have HMSs := Lib.hid hs
  have HOKs := Lib.hid hok.1
  have hls := hok.2
  have hls1000 : s.l.length ≤ 1000 := by omega
  clear hs hok
  go_upto_region 2 with fail
  go_cut [8] (fun p wx => ∃ g, p = .pointer (some ⟨g, 0, none⟩) ∧ StB wx g s s.l.length s.g.length ∧ Below w2.heap.size w2 wx)
  case first =>
    go_wp2_with (go_at_call 12; refine (madeR (most := 20) (l := l) _ HL2.out (by omega)).mono ?_; rw [HMSs.out]; rintro e wC ⟨A', c', B', d', rfl, h1, h2, hbC⟩; have H1 := Lib.hid h1; have H2 := Lib.hid h2; have bC := Lib.hid hbC; clear h1 h2 hbC)
    go_meet
    case rel => exact ⟨_, rfl, ⟨A', c', B', d', heap_alloc_at rfl, (H1.out.alloc_ _).sub (fun _ _ _ => trivial), (H2.out.alloc_ _).sub (fun _ _ _ => trivial)⟩, bC.out.alloc bC.out.size _⟩
  obtain ⟨gs, rfl, hst, hb⟩ := hcut
  obtain ⟨w3, hwv⟩ : ∃ x, x = wc := ⟨_, rfl⟩
  subst hwv
  have Ss := Lib.hid hst
  have b3 := Lib.hid (b2.out.trans (hb.mono b2.out.size))
  replace HC2 := mvI HC2 hb
  clear hst hb b2 HL2
  have HC3 := HC2
  clear HC2
  go_upto_region 3 with fail
  go_cut [9] (fun v wx => ∃ (f : List Cd) (B : Option Addr), v = .slice B 1 1 ∧ ValidFlt f ∧ Sl cdE.slice (fun _ => True) wx B 1 [f] ∧ Below w3.heap.size w3 wx)
  case first =>
    go_wp2_with (go_at_call 22; refine (condsP _ HC3.out).mono ?_; rintro e wC ⟨f, hvf, A', c', rfl, h1, hbC⟩; have H1 := Lib.hid h1; have bC := Lib.hid hbC; have HVF := Lib.hid hvf; clear h1 hbC hvf)
    go_meet
    case rel => exact ⟨f, _, rfl, HVF.out, sl_fs1 (t := 49) (heap_alloc_at rfl) ((H1.out.alloc_ _).sub (T := fun _ => True) (fun _ _ _ => trivial)) trivial, bC.out.alloc bC.out.size _⟩
  obtain ⟨f, Bf, rfl, hvf, hs, hb⟩ := hcut
  obtain ⟨w4, hwv⟩ : ∃ x, x = wc := ⟨_, rfl⟩
  subst hwv
  have Vf := Lib.hid hvf
  have Ff := Lib.hid hs
  have b4 := Lib.hid (b3.out.trans (hb.mono b3.out.size))
  replace Ss := mvSt Ss hb
  clear hvf hs hb b3 HC3
  obtain ⟨cc, hr, hcc⟩ : ∃ r : Nat, (n : Int).tmod (4 : Nat) = (r : Int) ∧ r < 4 := tmod_bd n 4 (by omega)
  have hr4 : (n : Int).tmod 4 = (cc : Int) := hr
  have hw0 : IntKind.u8.wrap (cc : Int) = (cc : Int) := IntWalk.u8_in _ (by omega)
  go_upto_region 5 with fail
  clear hr hr4 hw0
  obtain ⟨xa, hxa⟩ : ∃ xa, sumsF ⟨3, (cc : Int), 1, [f]⟩ (liveF s) = xa := ⟨_, rfl⟩
  obtain ⟨xb, hxb⟩ : ∃ xb, sumsF ⟨2, (cc : Int), 0, [f]⟩ (liveF s) = xb := ⟨_, rfl⟩
  have hxab : xb = xa := by rw [← hxa, ← hxb, sums_one rfl, sums_one rfl, moment_one (k := 0)]
  subst hxab
  have HXxa := Lib.hid hxa
  have HNxa := Lib.hid (show xb.length = 1 by rw [← hxa, sumsF_len]; rfl)
  have HXxb := Lib.hid hxb
  have HNxb := HNxa
  have Vxa := Lib.hid (q1_valid Vf.out (show 0 ≤ (cc : Int) ∧ (cc : Int) ≤ 3 by omega) (kd := 3) (k := 1) (.inr (.inr (.inl ⟨rfl, by decide, by decide⟩))))
  have Wxa := Lib.hid (q1_narrow (kd := 3) (col := cc) (k := 1) (f := f) (.inl (by decide)))
  have Vxb := Lib.hid (q1_valid Vf.out (show 0 ≤ (cc : Int) ∧ (cc : Int) ≤ 3 by omega) (kd := 2) (k := 0) (.inr (.inl ⟨rfl, rfl⟩)))
  have Wxb := Lib.hid (q1_narrow (kd := 2) (col := cc) (k := 0) (f := f) (.inl (by decide)))
  clear hxa hxb
  obtain ⟨L, cl, G, cg, hg, hsL, hsG⟩ := Ss.out
  obtain ⟨s0, s1⟩ := two2 (Lib.hid hg)
  have HSL := Lib.hid hsL
  have HSG := Lib.hid hsG
  clear hg hsL hsG
  go_upto_region 5 with fail
  go_cut [11] (fun v wx => ∃ A c, v = .slice A 1 c ∧ Sl .i64 (fun _ => True) wx A c xb ∧ Below w4.heap.size w4 wx)
  case first =>
    go_wp2_with (go_at_call 13; refine (sumsN (q := ⟨3, cc, 1, [f]⟩) (s := s) (n := 1) HXxa.out rfl HNxb.out rfl rfl _ Vxa.out Wxa.out HOKs.out hls1000 Ff.out HSL.out HSG.out).mono ?_; rintro e wC ⟨A, c, rfl, h1, hbC⟩; have H1 := Lib.hid h1; have bC := Lib.hid hbC; clear h1 hbC)
    go_meet
    case rel => exact ⟨_, _, rfl, H1.out.sub (fun _ _ _ => trivial), bC.out⟩
  obtain ⟨A11, c11, rfl, hs, hb⟩ := hcut
  obtain ⟨w5, hwv⟩ : ∃ x, x = wc := ⟨_, rfl⟩
  subst hwv
  have I11 := Lib.hid hs
  have b5 := Lib.hid (b4.out.trans (hb.mono b4.out.size))
  replace Ss := mvSt Ss hb
  replace Ff := mvF Ff hb
  clear hs hb b4 HSL HSG s0 s1
  obtain ⟨L, cl, G, cg, hg, hsL, hsG⟩ := Ss.out
  obtain ⟨s0, s1⟩ := two2 (Lib.hid hg)
  have HSL := Lib.hid hsL
  have HSG := Lib.hid hsG
  clear hg hsL hsG
  go_upto_region 6 with fail
  go_cut [12] (fun v wx => ∃ A c, v = .slice A 1 c ∧ Sl .i64 (fun _ => True) wx A c xb ∧ Below w5.heap.size w5 wx)
  case first =>
    go_wp2_with (go_at_call 13; refine (sumsN (q := ⟨2, cc, 0, [f]⟩) (s := s) (n := 1) HXxb.out rfl HNxb.out rfl rfl _ Vxb.out Wxb.out HOKs.out hls1000 Ff.out HSL.out HSG.out).mono ?_; rintro e wC ⟨A, c, rfl, h1, hbC⟩; have H1 := Lib.hid h1; have bC := Lib.hid hbC; clear h1 hbC)
    go_meet
    case rel => exact ⟨_, _, rfl, H1.out.sub (fun _ _ _ => trivial), bC.out⟩
  obtain ⟨A12, c12, rfl, hs, hb⟩ := hcut
  obtain ⟨w6, hwv⟩ : ∃ x, x = wc := ⟨_, rfl⟩
  subst hwv
  have I12 := Lib.hid hs
  have b6 := Lib.hid (b5.out.trans (hb.mono b5.out.size))
  replace Ss := mvSt Ss hb
  replace Ff := mvF Ff hb
  replace I11 := mvI I11 hb
  clear hs hb b5 HSL HSG s0 s1
  clear HXxa HXxb Vxa Wxa Vxb Wxb
  have HA1 := Lib.hid (and1_u8 (n : Int))
  go_upto_region 7 with fail
  go_cut [13] (fun v wx => ∃ m : Nat, ((m : Int) = 0 ∨ (m : Int) = 2) ∧ v = .int .i64 (m : Int) ∧ wx = w6)
  case first =>
    rcases HA1.out with h1 | h1
    · go_wp2_with fail
      go_meet
      case rel => exact ⟨0, .inl rfl, rfl, rfl⟩
    · go_wp2_with fail
      go_meet
      case rel => exact ⟨2, .inr rfl, rfl, rfl⟩
  obtain ⟨m, hm02, rfl, hwx⟩ := hcut
  subst hwx
  obtain ⟨w6, hwv⟩ : ∃ x, x = wc := ⟨_, rfl⟩
  subst hwv
  have HM02 := Lib.hid hm02
  clear hm02 HA1
  go_upto_region 8 with fail
  obtain ⟨xg, hxg⟩ : ∃ xg, sumsF ⟨4, (m : Int), 0, [f]⟩ (liveF s) = xg := ⟨_, rfl⟩
  obtain ⟨xq, hxq⟩ : ∃ xq, sumsF ⟨3, (m : Int), 2, [f]⟩ (liveF s) = xq := ⟨_, rfl⟩
  obtain ⟨xc, hxc⟩ : ∃ xc, sumsF ⟨1, 0, 0, [f]⟩ (liveF s) = xc := ⟨_, rfl⟩
  have hm02 := HM02.out
  have hm3 : 0 ≤ (m : Int) ∧ (m : Int) ≤ 3 := by omega
  have HXxg := Lib.hid hxg
  have HNxg := Lib.hid (show xg.length = 16 from sums_len2 hxg (by kernel_rfl))
  have Vxg := Lib.hid (q1_valid Vf.out (col := (m : Int)) hm3 (kd := 4) (k := 0) (.inr (.inr (.inr (.inl ⟨rfl, rfl⟩)))))
  have Wxg := Lib.hid (q1_narrow (kd := 4) (col := (m : Int)) (k := 0) (f := f) (.inr hm02))
  have HXxq := Lib.hid hxq
  have HNxq := Lib.hid (show xq.length = 1 from sums_len2 hxq (by kernel_rfl))
  have Vxq := Lib.hid (q1_valid Vf.out (col := (m : Int)) hm3 (kd := 3) (k := 2) (.inr (.inr (.inl ⟨rfl, by decide, by decide⟩))))
  have Wxq := Lib.hid (q1_narrow (kd := 3) (col := (m : Int)) (k := 2) (f := f) (.inl (by decide)))
  have HXxc := Lib.hid hxc
  have HNxc := Lib.hid (show xc.length = 1 from sums_len2 hxc (by kernel_rfl))
  have Vxc := Lib.hid (q1_valid Vf.out (col := 0) ⟨by decide, by decide⟩ (kd := 1) (k := 0) (.inl ⟨rfl, rfl, rfl⟩))
  have Wxc := Lib.hid (q1_narrow (kd := 1) (col := 0) (k := 0) (f := f) (.inl (by decide)))
  clear hxg hxq hxc hm02 hm3
  obtain ⟨L, cl, G, cg, hg, hsL, hsG⟩ := Ss.out
  obtain ⟨s0, s1⟩ := two2 (Lib.hid hg)
  have HSL := Lib.hid hsL
  have HSG := Lib.hid hsG
  clear hg hsL hsG
  go_upto_region 8 with fail
  go_cut [14] (fun v wx => ∃ A c, v = .slice A 16 c ∧ Sl .i64 (fun _ => True) wx A c xg ∧ Below w6.heap.size w6 wx)
  case first =>
    go_wp2_with (go_at_call 13; refine (sumsN (q := ⟨4, m, 0, [f]⟩) (s := s) (n := 16) HXxg.out rfl HNxg.out rfl rfl _ Vxg.out Wxg.out HOKs.out hls1000 Ff.out HSL.out HSG.out).mono ?_; rintro e wC ⟨A, c, rfl, h1, hbC⟩; have H1 := Lib.hid h1; have bC := Lib.hid hbC; clear h1 hbC)
    go_meet
    case rel => exact ⟨_, _, rfl, H1.out.sub (fun _ _ _ => trivial), bC.out⟩
  obtain ⟨A14, c14, rfl, hs, hb⟩ := hcut
  obtain ⟨w7, hwv⟩ : ∃ x, x = wc := ⟨_, rfl⟩
  subst hwv
  have I14 := Lib.hid hs
  have b7 := Lib.hid (b6.out.trans (hb.mono b6.out.size))
  replace Ss := mvSt Ss hb
  replace Ff := mvF Ff hb
  replace I11 := mvI I11 hb
  replace I12 := mvI I12 hb
  clear hs hb b6 HSL HSG s0 s1
  obtain ⟨L, cl, G, cg, hg, hsL, hsG⟩ := Ss.out
  obtain ⟨s0, s1⟩ := two2 (Lib.hid hg)
  have HSL := Lib.hid hsL
  have HSG := Lib.hid hsG
  clear hg hsL hsG
  go_upto_region 9 with fail
  go_cut [15] (fun v wx => ∃ A c, v = .slice A 1 c ∧ Sl .i64 (fun _ => True) wx A c xq ∧ Below w7.heap.size w7 wx)
  case first =>
    go_wp2_with (go_at_call 13; refine (sumsN (q := ⟨3, m, 2, [f]⟩) (s := s) (n := 1) HXxq.out rfl HNxq.out rfl rfl _ Vxq.out Wxq.out HOKs.out hls1000 Ff.out HSL.out HSG.out).mono ?_; rintro e wC ⟨A, c, rfl, h1, hbC⟩; have H1 := Lib.hid h1; have bC := Lib.hid hbC; clear h1 hbC)
    go_meet
    case rel => exact ⟨_, _, rfl, H1.out.sub (fun _ _ _ => trivial), bC.out⟩
  obtain ⟨A15, c15, rfl, hs, hb⟩ := hcut
  obtain ⟨w8, hwv⟩ : ∃ x, x = wc := ⟨_, rfl⟩
  subst hwv
  have I15 := Lib.hid hs
  have b8 := Lib.hid (b7.out.trans (hb.mono b7.out.size))
  replace Ss := mvSt Ss hb
  replace Ff := mvF Ff hb
  replace I11 := mvI I11 hb
  replace I12 := mvI I12 hb
  replace I14 := mvI I14 hb
  clear hs hb b7 HSL HSG s0 s1
  obtain ⟨L, cl, G, cg, hg, hsL, hsG⟩ := Ss.out
  obtain ⟨s0, s1⟩ := two2 (Lib.hid hg)
  have HSL := Lib.hid hsL
  have HSG := Lib.hid hsG
  clear hg hsL hsG
  go_upto_region 10 with fail
  go_cut [16] (fun v wx => ∃ A c, v = .slice A 1 c ∧ Sl .i64 (fun _ => True) wx A c xc ∧ Below w8.heap.size w8 wx)
  case first =>
    go_wp2_with (go_at_call 13; refine (sumsN (q := ⟨1, 0, 0, [f]⟩) (s := s) (n := 1) HXxc.out rfl HNxc.out rfl rfl _ Vxc.out Wxc.out HOKs.out hls1000 Ff.out HSL.out HSG.out).mono ?_; rintro e wC ⟨A, c, rfl, h1, hbC⟩; have H1 := Lib.hid h1; have bC := Lib.hid hbC; clear h1 hbC)
    go_meet
    case rel => exact ⟨_, _, rfl, H1.out.sub (fun _ _ _ => trivial), bC.out⟩
  obtain ⟨A16, c16, rfl, hs, hb⟩ := hcut
  obtain ⟨w9, hwv⟩ : ∃ x, x = wc := ⟨_, rfl⟩
  subst hwv
  have I16 := Lib.hid hs
  have b9 := Lib.hid (b8.out.trans (hb.mono b8.out.size))
  replace Ss := mvSt Ss hb
  replace Ff := mvF Ff hb
  replace I11 := mvI I11 hb
  replace I12 := mvI I12 hb
  replace I14 := mvI I14 hb
  replace I15 := mvI I15 hb
  clear hs hb b8 HSL HSG s0 s1
  obtain ⟨G, hG⟩ : ∃ G : Nat → Int, (fun v => totalF ⟨4, (m : Int), 0, [f]⟩ (liveF s) v) = G := ⟨_, rfl⟩
  have hGb : ∀ v, 0 ≤ G v ∧ G v ≤ 1000 := fun v => by rw [← hG]; exact tot_cnt (Nat.le_trans (live_len s) hls1000) v
  have hGx : ∀ v, v < 16 → xg[v]? = some (G v) := fun v hv => by rw [← hG]; exact sums_at HXxg.out HNxg.out hv
  have hq0 : xq[0]? = some (sumTo 16 fun v => (v : Int) * v * G v) := by
    rw [sums_at HXxq.out HNxq.out (by decide), ← hG]
    exact congrArg some (moment_two HM02.out (live_valid HOKs.out)).symm
  have hc0 : xc[0]? = some (sumTo 16 G) := by
    rw [sums_at HXxc.out HNxc.out (by decide), ← hG]
    exact congrArg some (moment_cnt HM02.out (live_valid HOKs.out)).symm
  have HGB := Lib.hid hGb
  have HGX := Lib.hid hGx
  have HQ0 := Lib.hid hq0
  have HC0 := Lib.hid hc0
  clear hG hGb hGx hq0 hc0
  go_wp2_with fail
  go_loopw [17, 18, 19] (fun a b i wr => ∃ v : Nat, v ≤ 16 ∧ i = .int .i64 v ∧ a = .int .i64 (sumTo v fun v => (v : Int) * v * G v) ∧ b = .int .i64 (sumTo v G) ∧ Hid (Below w9.heap.size w9 wr)) (fun _ _ i _ => 16 - (intOf i).toNat)
  case atStart => exact ⟨0, Nat.zero_le _, rfl, rfl, rfl, Lib.hid (Below.refl _ _)⟩
  case round =>
    obtain ⟨v, hv, rfl, ha, hb, hbr⟩ := hrel
    have hkr := hbr.out
    have hv0 : (0 : Int) ≤ (v : Int) := by omega
    have hs1 := sumTo_bd (f := fun v => if v < 16 then (v : Int) * v * G v else 0) (M := 225000) (fun v => by split <;> (first | exact (sq_bd (by assumption) (HGB.out v)).2.2 | omega)) (by decide) v
    rw [sumTo_congr (g := fun v => (v : Int) * v * G v) (fun u hu => if_pos (by omega))] at hs1
    have hs2 := sumTo_bd HGB.out (by decide) v
    obtain ⟨y, hy⟩ : ∃ y, (sumTo v fun v => (v : Int) * v * G v) = y := ⟨_, rfl⟩
    obtain ⟨z, hz⟩ : ∃ z, sumTo v G = z := ⟨_, rfl⟩
    rw [hy] at ha hs1
    rw [hz] at hb hs2
    subst ha; subst hb
    have HY := Lib.hid hy
    have HZ := Lib.hid hz
    clear hy hz
    by_cases hlt : v < 16
    · have hv1 : (v : Int) < 16 := by omega
      obtain ⟨gv, hgv⟩ : ∃ gv, G v = gv := ⟨_, rfl⟩
      have hgb := HGB.out v
      have hxv := HGX.out v hlt
      have hsq := sq_bd hlt hgb
      rw [hgv] at hgb hxv hsq
      have HGV := Lib.hid hgv
      obtain ⟨b5, o5, rfl, -, l5, v5⟩ := i64_at (mvI I14 hkr).out hxv
      have k1 : IntKind.i64.wrap ((v : Int) * v) = (v : Int) * v := IntWalk.i64_in _ (by omega)
      have k2 : IntKind.i64.wrap ((v : Int) * v * gv) = (v : Int) * v * gv := IntWalk.i64_in _ (by omega)
      have k3 : IntKind.i64.wrap (y + (v : Int) * v * gv) = y + (v : Int) * v * gv := IntWalk.i64_in _ (by omega)
      have k4 : IntKind.i64.wrap (z + gv) = z + gv := IntWalk.i64_in _ (by omega)
      clear hgv hxv
      go_wp2_with fail
      go_roundw
      case rel => exact ⟨v + 1, by omega, by go_num, by rw [sumTo_succ, HY.out, HGV.out], by rw [sumTo_succ, HZ.out, HGV.out], Lib.hid hkr⟩
      case measure => simp [intOf]; omega
    · have hv1 : ¬ (v : Int) < 16 := by omega
      obtain rfl : v = 16 := by omega
      have hq0 := HQ0.out
      have hc0 := HC0.out
      rw [HY.out] at hq0
      rw [HZ.out] at hc0
      have hnn : ∀ W, Below wr.heap.size wr W → _ := fun W hW => i64_at (mvI (mvI I15 hkr) hW).out hq0
      obtain ⟨b6, o6, e6, -, l6, v6⟩ := i64_at (mvI I15 hkr).out hq0
      obtain ⟨b7, o7, e7, -, l7, v7⟩ := i64_at (mvI I16 hkr).out hc0
      subst e6; subst e7
      clear hq0 hc0 hnn
      go_wp2_with (go_at_call 17; ((with_reducible refine (same15N (A := A11) (xs := xb) (n := 1) (S := fun _ => True) (T := fun _ => True) HNxa.out _ (mvI I11 hkr).out (mvI I12 hkr).out).mono ?_)); rintro e wS ⟨rfl, hS⟩; have c6 : wS.cell? ⟨b6, o6, none⟩ = some (.int .i64 y) := (hS.cell (p := ⟨b6, o6, none⟩) l6).trans v6; have c7 : wS.cell? ⟨b7, o7, none⟩ = some (.int .i64 z) := (hS.cell (p := ⟨b7, o7, none⟩) l7).trans v7)
      go_ret
      exact ⟨rfl, b9.out.trans ((hkr.trans (hS.mono hkr.size)).mono b9.out.size)⟩
end Go.Proofs.YtmkpaolbejlodaaDoor
