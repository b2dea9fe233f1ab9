/-
  The law 'EvalRetraction', walked: it returns true for every input, and nothing that existed changes. No condition.
-/
import Derived.Lib.Mul64
import Derived.Laws.Bits64b
import Derived.Shelf.Bits.Mul64
import Derived.Test.YtmkpaolbejlodaaDoorB1
import Derived.Test.YtmkpaolbejlodaaDoorB2
import Derived.Test.YtmkpaolbejlodaaDoorB3
import Derived.Test.YtmkpaolbejlodaaDoorB4
import Derived.Test.YtmkpaolbejlodaaDoorB5
import Derived.Test.YtmkpaolbejlodaaDoorB6
import Derived.Test.YtmkpaolbejlodaaDoorB7
import Derived.Test.YtmkpaolbejlodaaDoorB8
import Derived.Test.YtmkpaolbejlodaaDoorB9
import Derived.Test.YtmkpaolbejlodaaDoorB10
import Derived.Test.YtmkpaolbejlodaaDoorB11
import Derived.Test.YtmkpaolbejlodaaDoorB12
import Derived.Test.YtmkpaolbejlodaaDoorB13
import Derived.Test.YtmkpaolbejlodaaDoorB14
import Derived.Test.YtmkpaolbejlodaaDoorB15
import Derived.Test.YtmkpaolbejlodaaDoorB16
import Derived.Test.YtmkpaolbejlodaaDoorB17
import Derived.Test.YtmkpaolbejlodaaDoorB19
set_option linter.unusedSimpArgs false
set_option linter.unusedVariables false
namespace Go.Proofs.YtmkpaolbejlodaaDoor
open Go.RowKit

theorem sums_at {q : Qy} {s : Str} {xs : List Int} {n v : Nat} (h : sumsF q (liveF s) = xs) (hn : xs.length = n) (hv : v < n) : xs[v]? = some (totalF q (liveF s) v) := by
  subst h
  exact sumsF_get (by rw [← sumsF_len q (liveF s), hn]; exact hv)
theorem sums_len2 {q : Qy} {s : Str} {xs : List Int} {n : Nat} (h : sumsF q (liveF s) = xs) (hn : nSums q = n) : xs.length = n := by rw [← h, sumsF_len, hn]
theorem total_bd2 {q : Qy} (hq : ValidQ q) {s : Str} (ok : OkStr s) (hl : s.l.length ≤ 1000) (v : Nat) : 0 ≤ totalF q (liveF s) v ∧ totalF q (liveF s) v ≤ 274941996890625000 := by
  have h1 := totalF_bd (q := q) v (k6_of hq) (live_valid ok)
  have h2 := live_len s
  omega
theorem retractF_nat15 {s : Str} {k : Nat} (h : k < s.l.length) : retractF s (k : Int) = if s.g.getD k false then (emptyStr, 120) else (⟨s.l, s.g.set k true⟩, 0) := by
  unfold retractF
  rw [if_neg (by omega)]
  simp
theorem retractR_eq15 {s : Str} {A B : Option Addr} {c d : Nat} {i : Int} {S : Nat → Prop} {p : Str × Int} (w : World) (h : Sl rdE S w A c s.l) (k : Sl .bool S w B d s.g) (ok : OkStr s) (hl : s.l.length ≤ 1000) (hp : retractF s i = p) :
    Calls Tryd.prog 21 #[.agg #[.slice A s.l.length c, .slice B s.g.length d], .int .i64 i] w (StRes S w p) := by
  rw [← hp]; exact retractR_any w h k ok hl
def evL3A : List FRow := [(0, ([], (49, [8]))), (1, ([], (50, [9]))), (2, ([1], (51, [49]))), (3, ([], (52, [10]))), (4, ([2, 3], (53, [50, 51]))), (5, ([4], (54, [52]))), (6, ([5], (55, [53]))), (7, ([], (56, []))), (8, ([6, 7], (57, [54, 55]))), (9, ([0, 8], (58, [48, 56]))), (10, ([9, 9, 0, 1, 2, 3, 4, 5, 6, 7, 8, 9], (16, [57])))]
set_option maxRecDepth 100000 in
set_option maxHeartbeats 8000000 in
theorem walk_EvalRetraction {q : Qy} {l : List ROp} {A L : Option Addr} {c cl : Nat} {b0 : Int} (w : World) (h : Sl cdE.slice (fun _ => True) w A c q.fs) (hl : Sl ropE (fun _ => True) w L cl l) (hb0 : 0 ≤ b0 ∧ b0 ≤ 255) :
    Calls Tryd.prog 5 #[(.agg #[.int .i64 q.kind, .int .i64 q.col, .int .i64 q.k, .slice A q.fs.length c]), .slice L l.length cl, .int .u8 b0] w fun e w' => e = .returned (.bool true) ∧ Below w.heap.size w w' := by
  obtain ⟨n, rfl⟩ : ∃ m : Nat, b0 = m := ⟨b0.toNat, by omega⟩
  have hn0 : (0 : Int) ≤ (n : Int) := by omega
  have hn255 : n ≤ 255 := by omega
  have H := Lib.hid h
  have HL := Lib.hid hl
  have hq63 := h.max
  have hl63 := hl.max
  clear h hl hb0
  go_enter Tryd.func5, Tryd.ntmps5
  go_upto_region 1 with fail
  refine wp_world (F := fun wx => Below w.heap.size w wx ∧ Hid (wx.heap[w.heap.size]? = some (.cells #[.int .i64 q.kind, .int .i64 q.col, .int .i64 q.k, .slice A q.fs.length c] 24 (0, 0)))) ⟨(by repeat' (first | with_reducible exact Below.refl _ _ | with_reducible assumption | with_reducible refine Below.setCell ?_ ?_ _ | with_reducible refine Below.drew ?_ | with_reducible refine below_drewN ?_ _ | with_reducible refine Below.alloc ?_ ?_ _ | (rintro _ ⟨⟩; simp <;> omega) | omega | (simp <;> omega))), Lib.hid (heap_alloc_at rfl)⟩ ?_
  rintro w1 ⟨bb, gq⟩
  have b1 := Lib.hid bb
  clear bb
  go_upto_region 2 with (go_at_call 10; refine (sanityL15 _).mono ?_; rintro e w2 ⟨rfl, hb2⟩; have b2 := Lib.hid (b1.out.trans (hb2.mono b1.out.size)); have gq2 := mvQ gq hb2; clear hb2)
  obtain ⟨x0, x1, x2, x3⟩ := row4 gq2
  have H2 := Lib.hid (H.out.keep (Below.agree b2.out))
  have HL2 := Lib.hid (HL.out.keep (Below.agree b2.out))
  clear gq b1 H HL
  go_cut [8] (fun p wx => ∃ (g : Nat) (x : Qy) (B : Option Addr) (d : Nat), p = .pointer (some ⟨g, 0, none⟩) ∧ ValidQ x ∧ wideB x = false ∧ Hid (wx.heap[g]? = some (.cells #[.int .i64 x.kind, .int .i64 x.col, .int .i64 x.k, .slice B x.fs.length d] 24 (0, 0))) ∧ Sl cdE.slice (fun _ => True) wx B d x.fs ∧ Below w2.heap.size w2 wx)
  case first =>
    go_wp2_with (go_at_call 11; refine (made15P (q := q) _ H2.out).mono ?_; rintro e wC ⟨x, hv, hnw, B, d, rfl, hs, hbC⟩; have HC := Lib.hid hs; have bC := Lib.hid hbC; have HV := Lib.hid hv; have HN := Lib.hid hnw; clear hs hbC hv hnw)
    go_meet
    case rel => exact ⟨_, x, B, d, rfl, HV.out, HN.out, Lib.hid (heap_alloc_at rfl), (HC.out.sub (fun _ _ _ => trivial)).keep ((Agree.refl _ _).alloc _), bC.out.alloc bC.out.size _⟩
  obtain ⟨g, x, B, d, rfl, hv, hnw, gx, hs, hb⟩ := hcut
  obtain ⟨w3, hwv⟩ : ∃ x, x = wc := ⟨_, rfl⟩
  subst hwv
  have HV := Lib.hid hv
  have HNW := Lib.hid hnw
  have b3 := Lib.hid (b2.out.trans (hb.mono b2.out.size))
  have F3 := Lib.hid hs
  have HL3 := Lib.hid (HL2.out.keep (Below.agree hb))
  clear hv hnw hs hb x0 x1 x2 x3 gq2 b2 H2 HL2
  obtain ⟨s, hs⟩ : ∃ s, madeF 20 l = s := ⟨_, rfl⟩
  have hok := madeF_ok 20 l
  rw [hs] at hok
  have HMSs := Lib.hid hs
  have HOKs := Lib.hid hok.1
  have hls := hok.2
  have hls1000 : s.l.length ≤ 1000 := by omega
  clear hs hok
  go_upto_region 3 with fail
  go_cut [9] (fun p wx => ∃ g, p = .pointer (some ⟨g, 0, none⟩) ∧ StB wx g s s.l.length s.g.length ∧ Below w3.heap.size w3 wx)
  case first =>
    go_wp2_with (go_at_call 12; refine (madeR (most := 20) (l := l) _ HL3.out (by omega)).mono ?_; rw [HMSs.out]; rintro e wC ⟨A', c', B', d', rfl, h1, h2, hbC⟩; have H1 := Lib.hid h1; have H2 := Lib.hid h2; have bC := Lib.hid hbC; clear h1 h2 hbC)
    go_meet
    case rel => exact ⟨_, rfl, ⟨A', c', B', d', heap_alloc_at rfl, (H1.out.alloc_ _).sub (fun _ _ _ => trivial), (H2.out.alloc_ _).sub (fun _ _ _ => trivial)⟩, bC.out.alloc bC.out.size _⟩
  obtain ⟨gs, rfl, hst, hb⟩ := hcut
  obtain ⟨w4, hwv⟩ : ∃ x, x = wc := ⟨_, rfl⟩
  subst hwv
  have Ss := Lib.hid hst
  have b4 := Lib.hid (b3.out.trans (hb.mono b3.out.size))
  replace F3 := mvF F3 hb
  replace gx := mvQ gx hb
  clear hst hb b3 HL3
  obtain ⟨L4, cl4, G4, cg4, hg, hsL, hsG⟩ := Ss.out
  have gS := Lib.hid hg
  obtain ⟨s0, s1⟩ := two2 gS
  have HSL := Lib.hid hsL
  have HSG := Lib.hid hsG
  have lgs := heap_lt hg
  clear hg hsL hsG
  by_cases hpos : 0 < s.l.length
  case neg =>
    have e0 : s.l.length = 0 := by omega
    have e1 : ((s.l.length : Int) == 0) = true := by rw [beq_iff_eq]; omega
    have e2 : s.l = [] := List.length_eq_zero_iff.1 e0
    have e3 : (s.l = []) = True := eq_true e2
    clear e0 e2
    go_wp2_with fail
    go_ret
    exact ⟨rfl, b4.out⟩
  have hpos' : (0 : Int) < (s.l.length : Int) := by omega
  have hne0 : ((s.l.length : Int) == 0) = false := by rw [beq_eq_false_iff_ne]; omega
  have hne1 : ¬ (s.l.length : Int) = 0 := by omega
  have hnil : (s.l = []) = False := eq_false (fun e => by rw [e] at hpos; simp at hpos)
  obtain ⟨k, hr, hk⟩ : ∃ r : Nat, (n : Int).tmod (s.l.length : Int) = (r : Int) ∧ r < s.l.length := tmod_bd n _ hpos
  obtain ⟨p, hp⟩ : ∃ p, retractF s (k : Int) = p := ⟨_, rfl⟩
  have HP := Lib.hid hp
  have hw0 : IntKind.u8.wrap (n : Int) = (n : Int) := IntWalk.u8_in _ (by omega)
  have hk0 : (0 : Int) ≤ (k : Int) := by omega
  have hk1 : (k : Int) < (s.l.length : Int) := by omega
  clear hp
  go_upto_region 7 with fail
  clear hr
  go_cut [11, 12] (fun v e wx => ∃ g, v = .pointer (some ⟨g, 0, none⟩) ∧ e = .int .i64 p.2 ∧ StB wx g p.1 p.1.l.length p.1.g.length ∧ Below w4.heap.size w4 wx)
  case first =>
    go_wp2_with (go_at_call 21; refine (retractR_eq15 (s := s) _ HSL.out HSG.out HOKs.out hls1000 HP.out).mono ?_; rintro e wC ⟨A', c', B', d', rfl, h1, h2, hbC⟩; have H1 := Lib.hid h1; have H2 := Lib.hid h2; have bC := Lib.hid hbC; clear h1 h2 hbC)
    go_meet
    case rel => exact ⟨_, rfl, rfl, ⟨A', c', B', d', heap_alloc_at rfl, (H1.out.alloc_ _).sub (fun _ _ _ => trivial), (H2.out.alloc_ _).sub (fun _ _ _ => trivial)⟩, bC.out.alloc bC.out.size _⟩
  obtain ⟨gt, rfl, rfl, hst, hb⟩ := hcut
  obtain ⟨w5, hwv⟩ : ∃ x, x = wc := ⟨_, rfl⟩
  subst hwv
  have St := Lib.hid hst
  have b5 := Lib.hid (b4.out.trans (hb.mono b4.out.size))
  replace F3 := mvF F3 hb
  replace gx := mvQ gx hb
  replace Ss := mvSt Ss hb
  clear hst hb b4 HSL HSG s0 s1 gS lgs
  have hP := HP.out
  rw [retractF_nat15 hk] at hP
  cases hgk : s.g.getD k false with
  | true =>
    rw [hgk, if_pos rfl] at hP
    rw [← hP]
    dsimp only
    clear hP hgk
    go_wp2_with fail
    go_ret
    exact ⟨rfl, b5.out⟩
  | false =>
  rw [hgk, if_neg (by simp)] at hP
  subst hP
  obtain ⟨t, ht⟩ : ∃ t, (⟨s.l, s.g.set k true⟩ : Str) = t := ⟨_, rfl⟩
  have HT := Lib.hid ht
  have HOKt := Lib.hid (show OkStr t by rw [← ht]; exact ⟨by simp [HOKs.out.len], HOKs.out.valid⟩)
  have hlt1000 : t.l.length ≤ 1000 := by rw [← ht]; exact hls1000
  have St' := Lib.hid (show StB w5 gt t t.l.length t.g.length by rw [← ht]; exact St.out)
  clear St
  have St := St'
  clear St' ht
  obtain ⟨r, hr⟩ : ∃ r, s.l[k]? = some r := ⟨_, List.getElem?_eq_getElem hk⟩
  have HR := Lib.hid hr
  have hok1 : OkStr ⟨[r], [false]⟩ := ⟨rfl, fun y hy => by rw [List.mem_singleton.1 hy]; exact HOKs.out.valid r (List.mem_of_getElem? hr)⟩
  have HOK1 := Lib.hid hok1
  have HBK := Lib.hid (show ∀ v, totalF x (liveF s) v = totalF x (liveF t) v + totalF x [r] v from fun v => by
    rw [← HT.out]
    refine total_back x v s.l s.g k r ?_ hr
    have h1 : k < s.g.length := by rw [HOKs.out.len]; exact hk
    rw [List.getD_eq_getElem?_getD, List.getElem?_eq_getElem h1] at hgk
    rw [List.getElem?_eq_getElem h1]
    exact congrArg some hgk)
  clear hgk hr hok1
  obtain ⟨N, hN⟩ : ∃ N, nSums x = N := ⟨_, rfl⟩
  obtain ⟨xs, hxs⟩ : ∃ xs, sumsF x (liveF s) = xs := ⟨_, rfl⟩
  obtain ⟨ys, hys⟩ : ∃ ys, sumsF x (liveF t) = ys := ⟨_, rfl⟩
  obtain ⟨zs, hzs⟩ : ∃ zs, sumsF x (liveF ⟨[r], [false]⟩) = zs := ⟨_, rfl⟩
  have HXxs := Lib.hid hxs
  have HNxs := Lib.hid (sums_len2 hxs hN)
  have HXys := Lib.hid hys
  have HNys := Lib.hid (sums_len2 hys hN)
  have HXzs := Lib.hid hzs
  have HNzs := Lib.hid (sums_len2 hzs hN)
  have hN32 : N ≤ 32 := by have := (nSums_le HV.out).1; omega
  clear hxs hys hzs hN
  go_upto_region 10 with fail
  obtain ⟨x0, x1, x2, x3⟩ := row4 gx
  obtain ⟨L, cl, G, cg, hg, hsL, hsG⟩ := Ss.out
  obtain ⟨s0, s1⟩ := two2 (Lib.hid hg)
  have HSL := Lib.hid hsL
  have HSG := Lib.hid hsG
  clear hg hsL hsG
  go_upto_region 10 with fail
  go_cut [13] (fun v wx => ∃ A c, v = .slice A N c ∧ Sl .i64 (fun _ => True) wx A c xs ∧ Below w5.heap.size w5 wx)
  case first =>
    go_wp2_with (go_at_call 13; refine (sumsN (q := x) (s := s) HXxs.out rfl HNxs.out rfl rfl _ HV.out HNW.out HOKs.out hls1000 F3.out HSL.out HSG.out).mono ?_; rintro e wC ⟨A, c, rfl, h1, hbC⟩; have H1 := Lib.hid h1; have bC := Lib.hid hbC; clear h1 hbC)
    go_meet
    case rel => exact ⟨_, _, rfl, H1.out.sub (fun _ _ _ => trivial), bC.out⟩
  obtain ⟨A5, c5, rfl, hs, hb⟩ := hcut
  obtain ⟨w6, hwv⟩ : ∃ x, x = wc := ⟨_, rfl⟩
  subst hwv
  have I5 := Lib.hid hs
  have b6 := Lib.hid (b5.out.trans (hb.mono b5.out.size))
  replace F3 := mvF F3 hb
  replace gx := mvQ gx hb
  replace Ss := mvSt Ss hb
  replace St := mvSt St hb
  clear hs hb b5 HSL HSG s0 s1 x0 x1 x2 x3
  obtain ⟨x0, x1, x2, x3⟩ := row4 gx
  obtain ⟨L, cl, G, cg, hg, hsL, hsG⟩ := St.out
  obtain ⟨s0, s1⟩ := two2 (Lib.hid hg)
  have HSL := Lib.hid hsL
  have HSG := Lib.hid hsG
  clear hg hsL hsG
  go_upto_region 11 with fail
  go_cut [14] (fun v wx => ∃ A c, v = .slice A N c ∧ Sl .i64 (fun _ => True) wx A c ys ∧ Below w6.heap.size w6 wx)
  case first =>
    go_wp2_with (go_at_call 13; refine (sumsN (q := x) (s := t) HXys.out rfl HNys.out rfl rfl _ HV.out HNW.out HOKt.out hlt1000 F3.out HSL.out HSG.out).mono ?_; rintro e wC ⟨A, c, rfl, h1, hbC⟩; have H1 := Lib.hid h1; have bC := Lib.hid hbC; clear h1 hbC)
    go_meet
    case rel => exact ⟨_, _, rfl, H1.out.sub (fun _ _ _ => trivial), bC.out⟩
  obtain ⟨A6, c6, rfl, hs, hb⟩ := hcut
  obtain ⟨w7, hwv⟩ : ∃ x, x = wc := ⟨_, rfl⟩
  subst hwv
  have I6 := Lib.hid hs
  have b7 := Lib.hid (b6.out.trans (hb.mono b6.out.size))
  replace F3 := mvF F3 hb
  replace gx := mvQ gx hb
  replace Ss := mvSt Ss hb
  replace I5 := mvI I5 hb
  clear hs hb b6 HSL HSG s0 s1 x0 x1 x2 x3
  obtain ⟨L4, cl4, G4, cg4, hg, hsL, -⟩ := Ss.out
  have gS := Lib.hid hg
  have HSL := Lib.hid hsL
  have lgs := heap_lt hg
  have lgx := heap_lt gx.out
  obtain ⟨b2, o2, rfl, -, l2, y0, y1, y2, y3⟩ := rd_at HSL.out HR.out
  have Y := Lib.hid (show _ ∧ _ ∧ _ ∧ _ from ⟨y0, y1, y2, y3⟩)
  have zs0 : ∀ W, Below w7.heap.size w7 W → _ ∧ _ := fun W hW => two2 (mvQ gS hW)
  have zx : ∀ W, Below w7.heap.size w7 W → _ ∧ _ ∧ _ ∧ _ := fun W hW => row4 (mvQ gx hW)
  have zy : ∀ W, Below w7.heap.size w7 W → W.cell? ⟨b2, o2 + k * 4, none⟩ = some (.int .i64 r.who) ∧ W.cell? ⟨b2, o2 + k * 4 + 1, none⟩ = some (.int .i64 r.whn) ∧ W.cell? ⟨b2, o2 + k * 4 + 2, none⟩ = some (.int .i64 r.knd) ∧ W.cell? ⟨b2, o2 + k * 4 + 3, none⟩ = some (.int .i64 r.val) := fun W hW => ⟨(hW.cell (p := ⟨b2, o2 + k * 4, none⟩) l2).trans Y.out.1, (hW.cell (p := ⟨b2, o2 + k * 4 + 1, none⟩) l2).trans Y.out.2.1, (hW.cell (p := ⟨b2, o2 + k * 4 + 2, none⟩) l2).trans Y.out.2.2.1, (hW.cell (p := ⟨b2, o2 + k * 4 + 3, none⟩) l2).trans Y.out.2.2.2⟩
  clear hg hsL y0 y1 y2 y3
  go_upto_region 12 with fail
  go_cut [15] (fun v wx => ∃ A c, v = .slice A N c ∧ Sl .i64 (fun _ => True) wx A c zs ∧ Below w7.heap.size w7 wx)
  case first =>
    have br : Below w7.heap.size w7 w7 := Below.refl _ _
    have ba : ∀ W o, Below w7.heap.size w7 W → Below w7.heap.size w7 (W.alloc o) := fun W o h => h.alloc h.size o
    have bc : ∀ W W', Below w7.heap.size w7 W → Below W.heap.size W W' → Below w7.heap.size w7 W' := fun W W' h k => h.trans (k.mono h.size)
    refine wp_region_noPanic ?_
    refine wp_region_held_drew (S := fun X => Below w7.heap.size w7 X) (by kernel_rfl) ?_ (fun hHeld => ?_)
    · (first | (repeat' (first | with_reducible assumption | exact Nat.le_refl _ | with_reducible refine Below.drew ?_ | with_reducible refine ba _ _ ?_ | omega | (simp <;> omega))) | (first | with_reducible assumption | (with_reducible refine Below.drew ?_; with_reducible assumption) | (with_reducible refine ba _ _ ?_; with_reducible assumption) | (with_reducible refine Below.drew ?_; with_reducible refine ba _ _ ?_; with_reducible assumption) | exact Below.refl _ _ | exact (Below.refl _ _).drew | exact (Below.refl _ _).alloc (Nat.le_refl _) _ | (refine bc _ _ (by assumption) (by assumption))))
    refine RegOk.begin_ (n := 11) (T := evL3A) ⟨by kernel_rfl, by kernel_rfl, by kernel_rfl, by kernel_rfl⟩ fun hR => ?_
    refine hR.take (i := 0) (oi := ?ow788_0) (v := ?vw788_0) (m' := 1) ?hw788_0 (by kernel_rfl) (by kernel_rfl) (fun _ _ _ h => h) (Or.inl ⟨?sw788_0, ?yw788_0⟩) (by assumption) ?nw788_0
    case hw788_0 => simp only [List.getElem?_toArray, List.getElem?_cons_succ, List.getElem?_cons_zero]; rfl
    case sw788_0 => rfl
    case yw788_0 => (intro w hSw; (try dsimp only at hSw); go_simp <;> with_reducible rfl)
    try simp only [Act.put, List.setIfInBounds_toArray, List.set_cons_zero, List.set_cons_succ]
    refine hR.take (i := 1) (oi := ?ow789_1) (v := ?vw789_1) (m' := 3) ?hw789_1 (by kernel_rfl) (by kernel_rfl) (fun _ _ _ h => h) (Or.inl ⟨?sw789_1, ?yw789_1⟩) (by assumption) ?nw789_1
    case hw789_1 => simp only [List.getElem?_toArray, List.getElem?_cons_succ, List.getElem?_cons_zero]; rfl
    case sw789_1 => rfl
    case yw789_1 => (intro w hSw; (try dsimp only at hSw); go_simp <;> with_reducible rfl)
    try simp only [Act.put, List.setIfInBounds_toArray, List.set_cons_zero, List.set_cons_succ]
    refine hR.take (i := 2) (oi := ?ow790_2) (v := ?vw790_2) (m' := 7) ?hw790_2 (by kernel_rfl) (by kernel_rfl) (fun _ _ _ h => h) (Or.inl ⟨?sw790_2, ?yw790_2⟩) (by assumption) ?nw790_2
    case hw790_2 => simp only [List.getElem?_toArray, List.getElem?_cons_succ, List.getElem?_cons_zero]; rfl
    case sw790_2 => rfl
    case yw790_2 => (intro w hSw; (try dsimp only at hSw); go_simp <;> with_reducible rfl)
    try simp only [Act.put, List.setIfInBounds_toArray, List.set_cons_zero, List.set_cons_succ]
    refine hR.take (i := 3) (oi := ?ow791_3) (v := ?vw791_3) (m' := 15) ?hw791_3 (by kernel_rfl) (by kernel_rfl) (fun _ _ _ h => h) (Or.inl ⟨?sw791_3, ?yw791_3⟩) (by assumption) ?nw791_3
    case hw791_3 => simp only [List.getElem?_toArray, List.getElem?_cons_succ, List.getElem?_cons_zero]; rfl
    case sw791_3 => rfl
    case yw791_3 => (intro w hSw; (try dsimp only at hSw); go_simp <;> with_reducible rfl)
    try simp only [Act.put, List.setIfInBounds_toArray, List.set_cons_zero, List.set_cons_succ]
    refine hR.take (i := 4) (oi := ?ow792_4) (v := ?vw792_4) (m' := 31) ?hw792_4 (by kernel_rfl) (by kernel_rfl) (fun _ _ _ h => h) (Or.inl ⟨?sw792_4, ?yw792_4⟩) (by assumption) ?nw792_4
    case hw792_4 => simp only [List.getElem?_toArray, List.getElem?_cons_succ, List.getElem?_cons_zero]; rfl
    case sw792_4 => rfl
    case yw792_4 => (intro w hSw; (try dsimp only at hSw); go_simp <;> with_reducible rfl)
    try simp only [Act.put, List.setIfInBounds_toArray, List.set_cons_zero, List.set_cons_succ]
    refine hR.take (i := 5) (oi := ?ow793_5) (v := ?vw793_5) (m' := 63) ?hw793_5 (by kernel_rfl) (by kernel_rfl) (fun _ _ _ h => h) (Or.inl ⟨?sw793_5, ?yw793_5⟩) (by assumption) ?nw793_5
    case hw793_5 => simp only [List.getElem?_toArray, List.getElem?_cons_succ, List.getElem?_cons_zero]; rfl
    case sw793_5 => rfl
    case yw793_5 => (intro w hSw; (try dsimp only at hSw); go_simp <;> with_reducible rfl)
    try simp only [Act.put, List.setIfInBounds_toArray, List.set_cons_zero, List.set_cons_succ]
    refine hR.come (rs := [6, 7]) (by kernel_rfl) (by simp) ?_
    refine AllReadyH.cons (o := ?o794_6) ?h794_6 (fun K hK => ?kw794_6) (AllReadyH.cons (o := ?o794_7) ?h794_7 (fun K hK => ?kw794_7) AllReadyH.nil)
    case h794_6 => simp only [List.getElem?_toArray, List.getElem?_cons_succ, List.getElem?_cons_zero]; rfl
    case h794_7 => simp only [List.getElem?_toArray, List.getElem?_cons_succ, List.getElem?_cons_zero]; rfl
    case kw794_6 =>
      go_simp <;> (try go_wp2_with fail)
      refine hK.out _ _ ?_ (fun hHeld => ?_)
      · (first | (repeat' (first | with_reducible assumption | exact Nat.le_refl _ | with_reducible refine Below.drew ?_ | with_reducible refine ba _ _ ?_ | omega | (simp <;> omega))) | (first | with_reducible assumption | (with_reducible refine Below.drew ?_; with_reducible assumption) | (with_reducible refine ba _ _ ?_; with_reducible assumption) | (with_reducible refine Below.drew ?_; with_reducible refine ba _ _ ?_; with_reducible assumption) | exact Below.refl _ _ | exact (Below.refl _ _).drew | exact (Below.refl _ _).alloc (Nat.le_refl _) _ | (refine bc _ _ (by assumption) (by assumption))))
      clear hK K
      refine RegOk.put_ (m' := 127) (by kernel_rfl) ?_
      try simp only [Act.put, List.setIfInBounds_toArray, List.set_cons_zero, List.set_cons_succ]
      refine hR.come (rs := [7]) (by kernel_rfl) (by simp) ?_
      refine AllReadyH.cons (o := ?o795_7) ?h795_7 (fun K hK => ?kw795_7) AllReadyH.nil
      case h795_7 => simp only [List.getElem?_toArray, List.getElem?_cons_succ, List.getElem?_cons_zero]; rfl
      go_simp <;> (try go_wp2_with fail)
      refine hK.out _ _ ?_ (fun hHeld => ?_)
      · (first | (repeat' (first | with_reducible assumption | exact Nat.le_refl _ | with_reducible refine Below.drew ?_ | with_reducible refine ba _ _ ?_ | omega | (simp <;> omega))) | (first | with_reducible assumption | (with_reducible refine Below.drew ?_; with_reducible assumption) | (with_reducible refine ba _ _ ?_; with_reducible assumption) | (with_reducible refine Below.drew ?_; with_reducible refine ba _ _ ?_; with_reducible assumption) | exact Below.refl _ _ | exact (Below.refl _ _).drew | exact (Below.refl _ _).alloc (Nat.le_refl _) _ | (refine bc _ _ (by assumption) (by assumption))))
      clear hK K
      refine RegOk.put_ (m' := 255) (by kernel_rfl) ?_
      try simp only [Act.put, List.setIfInBounds_toArray, List.set_cons_zero, List.set_cons_succ]
      refine hR.take (i := 8) (oi := ?ow796_8) (v := ?vw796_8) (m' := 511) ?hw796_8 (by kernel_rfl) (by kernel_rfl) (fun _ _ _ h => h) (Or.inl ⟨?sw796_8, ?yw796_8⟩) (by assumption) ?nw796_8
      case hw796_8 => simp only [List.getElem?_toArray, List.getElem?_cons_succ, List.getElem?_cons_zero]; rfl
      case sw796_8 => rfl
      case yw796_8 => (intro w hSw; (try dsimp only at hSw); go_simp <;> with_reducible rfl)
      try simp only [Act.put, List.setIfInBounds_toArray, List.set_cons_zero, List.set_cons_succ]
      refine hR.come (rs := [9]) (by kernel_rfl) (by simp) ?_
      refine AllReadyH.cons (o := ?o797_9) ?h797_9 (fun K hK => ?kw797_9) AllReadyH.nil
      case h797_9 => simp only [List.getElem?_toArray, List.getElem?_cons_succ, List.getElem?_cons_zero]; rfl
      go_simp
      go_at_call 13; ((with_reducible refine (sumsN (q := x) (s := ⟨[r], [false]⟩) (nl := 1) (ng := 1) (S := fun _ => True) (T := fun _ => True) (U := fun _ => True) HXzs.out rfl HNzs.out rfl rfl _ HV.out HNW.out HOK1.out ?m1 (mvF F3 (by (first | with_reducible assumption | (with_reducible refine Below.drew ?_; with_reducible assumption) | (with_reducible refine ba _ _ ?_; with_reducible assumption) | (with_reducible refine Below.drew ?_; with_reducible refine ba _ _ ?_; with_reducible assumption) | exact Below.refl _ _ | exact (Below.refl _ _).drew | exact (Below.refl _ _).alloc (Nat.le_refl _) _ | (refine bc _ _ (by assumption) (by assumption))))).out ?m2 ?m3).mono ?_)); (case m1 => simp); (case m2 => exact Sl.ofRow (cs := [.int .i64 r.who, .int .i64 r.whn, .int .i64 r.knd, .int .i64 r.val]) (by repeat' (first | with_reducible assumption | (with_reducible refine heap_alloc_at ?_; (first | rfl | omega | (simp [World.setCell]; done) | (simp [World.setCell]; omega))) | (with_reducible refine (Below.heap_setCell _ _ _ _ ?_).trans ?_) | (with_reducible refine (Below.heap_alloc _ _ _ ?_).trans ?_) | (with_reducible refine drew_get2 ?_) | (simp [World.setCell]; done) | omega | (simp [World.setCell] <;> omega))) ⟨[_, _, _, _], [], rfl, rdE_shut (r := r), rfl⟩ trivial (by unfold maxLen; simp)); (case m3 => exact Sl.ofRow (cs := [.bool false]) (by repeat' (first | with_reducible assumption | (with_reducible refine heap_alloc_at ?_; (first | rfl | omega | (simp [World.setCell]; done) | (simp [World.setCell]; omega))) | (with_reducible refine (Below.heap_setCell _ _ _ _ ?_).trans ?_) | (with_reducible refine (Below.heap_alloc _ _ _ ?_).trans ?_) | (with_reducible refine drew_get2 ?_) | (simp [World.setCell]; done) | omega | (simp [World.setCell] <;> omega))) ⟨[_], [], rfl, rfl, rfl⟩ trivial (by unfold maxLen; simp)); rintro e wC ⟨A, c, rfl, h1, hbC⟩; have hkC := bc _ _ (by (first | with_reducible assumption | (with_reducible refine Below.drew ?_; with_reducible assumption) | (with_reducible refine ba _ _ ?_; with_reducible assumption) | (with_reducible refine Below.drew ?_; with_reducible refine ba _ _ ?_; with_reducible assumption) | exact Below.refl _ _ | exact (Below.refl _ _).drew | exact (Below.refl _ _).alloc (Nat.le_refl _) _ | (refine bc _ _ (by assumption) (by assumption)))) hbC; have H1 := Lib.hid h1; have bC := Lib.hid hkC; clear h1 hbC
      refine hK.out _ _ ?_ (fun hHeld => ?_)
      · (first | (repeat' (first | with_reducible assumption | exact Nat.le_refl _ | with_reducible refine Below.drew ?_ | with_reducible refine ba _ _ ?_ | omega | (simp <;> omega))) | (first | with_reducible assumption | (with_reducible refine Below.drew ?_; with_reducible assumption) | (with_reducible refine ba _ _ ?_; with_reducible assumption) | (with_reducible refine Below.drew ?_; with_reducible refine ba _ _ ?_; with_reducible assumption) | exact Below.refl _ _ | exact (Below.refl _ _).drew | exact (Below.refl _ _).alloc (Nat.le_refl _) _ | (refine bc _ _ (by assumption) (by assumption))))
      clear hK K
      refine RegOk.put_ (m' := 1023) (by kernel_rfl) ?_
      try simp only [Act.put, List.setIfInBounds_toArray, List.set_cons_zero, List.set_cons_succ]
      refine hR.take (i := 10) (oi := ?ow798_10) (v := ?vw798_10) (m' := 2047) ?hw798_10 (by kernel_rfl) (by kernel_rfl) (fun _ _ _ h => h) (Or.inl ⟨?sw798_10, ?yw798_10⟩) (by assumption) ?nw798_10
      case hw798_10 => simp only [List.getElem?_toArray, List.getElem?_cons_succ, List.getElem?_cons_zero]; rfl
      case sw798_10 => rfl
      case yw798_10 => (intro w hSw; (try dsimp only at hSw); go_simp <;> with_reducible rfl)
      try simp only [Act.put, List.setIfInBounds_toArray, List.set_cons_zero, List.set_cons_succ]
      refine hR.all (by kernel_rfl) ?_ _
      refine NoPanic.normal ?_
      go_wp2_with fail
      go_meet
      case rel => exact ⟨_, _, rfl, H1.out.sub (fun _ _ _ => trivial), bC.out⟩
    case kw794_7 =>
      go_simp <;> (try go_wp2_with fail)
      refine hK.out _ _ ?_ (fun hHeld => ?_)
      · (first | (repeat' (first | with_reducible assumption | exact Nat.le_refl _ | with_reducible refine Below.drew ?_ | with_reducible refine ba _ _ ?_ | omega | (simp <;> omega))) | (first | with_reducible assumption | (with_reducible refine Below.drew ?_; with_reducible assumption) | (with_reducible refine ba _ _ ?_; with_reducible assumption) | (with_reducible refine Below.drew ?_; with_reducible refine ba _ _ ?_; with_reducible assumption) | exact Below.refl _ _ | exact (Below.refl _ _).drew | exact (Below.refl _ _).alloc (Nat.le_refl _) _ | (refine bc _ _ (by assumption) (by assumption))))
      clear hK K
      refine RegOk.put_ (m' := 191) (by kernel_rfl) ?_
      try simp only [Act.put, List.setIfInBounds_toArray, List.set_cons_zero, List.set_cons_succ]
      refine hR.come (rs := [6]) (by kernel_rfl) (by simp) ?_
      refine AllReadyH.cons (o := ?o799_6) ?h799_6 (fun K hK => ?kw799_6) AllReadyH.nil
      case h799_6 => simp only [List.getElem?_toArray, List.getElem?_cons_succ, List.getElem?_cons_zero]; rfl
      go_simp <;> (try go_wp2_with fail)
      refine hK.out _ _ ?_ (fun hHeld => ?_)
      · (first | (repeat' (first | with_reducible assumption | exact Nat.le_refl _ | with_reducible refine Below.drew ?_ | with_reducible refine ba _ _ ?_ | omega | (simp <;> omega))) | (first | with_reducible assumption | (with_reducible refine Below.drew ?_; with_reducible assumption) | (with_reducible refine ba _ _ ?_; with_reducible assumption) | (with_reducible refine Below.drew ?_; with_reducible refine ba _ _ ?_; with_reducible assumption) | exact Below.refl _ _ | exact (Below.refl _ _).drew | exact (Below.refl _ _).alloc (Nat.le_refl _) _ | (refine bc _ _ (by assumption) (by assumption))))
      clear hK K
      refine RegOk.put_ (m' := 255) (by kernel_rfl) ?_
      try simp only [Act.put, List.setIfInBounds_toArray, List.set_cons_zero, List.set_cons_succ]
      refine hR.take (i := 8) (oi := ?ow800_8) (v := ?vw800_8) (m' := 511) ?hw800_8 (by kernel_rfl) (by kernel_rfl) (fun _ _ _ h => h) (Or.inl ⟨?sw800_8, ?yw800_8⟩) (by assumption) ?nw800_8
      case hw800_8 => simp only [List.getElem?_toArray, List.getElem?_cons_succ, List.getElem?_cons_zero]; rfl
      case sw800_8 => rfl
      case yw800_8 => (intro w hSw; (try dsimp only at hSw); go_simp <;> with_reducible rfl)
      try simp only [Act.put, List.setIfInBounds_toArray, List.set_cons_zero, List.set_cons_succ]
      refine hR.come (rs := [9]) (by kernel_rfl) (by simp) ?_
      refine AllReadyH.cons (o := ?o801_9) ?h801_9 (fun K hK => ?kw801_9) AllReadyH.nil
      case h801_9 => simp only [List.getElem?_toArray, List.getElem?_cons_succ, List.getElem?_cons_zero]; rfl
      go_simp
      go_at_call 13; ((with_reducible refine (sumsN (q := x) (s := ⟨[r], [false]⟩) (nl := 1) (ng := 1) (S := fun _ => True) (T := fun _ => True) (U := fun _ => True) HXzs.out rfl HNzs.out rfl rfl _ HV.out HNW.out HOK1.out ?m1 (mvF F3 (by (first | with_reducible assumption | (with_reducible refine Below.drew ?_; with_reducible assumption) | (with_reducible refine ba _ _ ?_; with_reducible assumption) | (with_reducible refine Below.drew ?_; with_reducible refine ba _ _ ?_; with_reducible assumption) | exact Below.refl _ _ | exact (Below.refl _ _).drew | exact (Below.refl _ _).alloc (Nat.le_refl _) _ | (refine bc _ _ (by assumption) (by assumption))))).out ?m2 ?m3).mono ?_)); (case m1 => simp); (case m2 => exact Sl.ofRow (cs := [.int .i64 r.who, .int .i64 r.whn, .int .i64 r.knd, .int .i64 r.val]) (by repeat' (first | with_reducible assumption | (with_reducible refine heap_alloc_at ?_; (first | rfl | omega | (simp [World.setCell]; done) | (simp [World.setCell]; omega))) | (with_reducible refine (Below.heap_setCell _ _ _ _ ?_).trans ?_) | (with_reducible refine (Below.heap_alloc _ _ _ ?_).trans ?_) | (with_reducible refine drew_get2 ?_) | (simp [World.setCell]; done) | omega | (simp [World.setCell] <;> omega))) ⟨[_, _, _, _], [], rfl, rdE_shut (r := r), rfl⟩ trivial (by unfold maxLen; simp)); (case m3 => exact Sl.ofRow (cs := [.bool false]) (by repeat' (first | with_reducible assumption | (with_reducible refine heap_alloc_at ?_; (first | rfl | omega | (simp [World.setCell]; done) | (simp [World.setCell]; omega))) | (with_reducible refine (Below.heap_setCell _ _ _ _ ?_).trans ?_) | (with_reducible refine (Below.heap_alloc _ _ _ ?_).trans ?_) | (with_reducible refine drew_get2 ?_) | (simp [World.setCell]; done) | omega | (simp [World.setCell] <;> omega))) ⟨[_], [], rfl, rfl, rfl⟩ trivial (by unfold maxLen; simp)); rintro e wC ⟨A, c, rfl, h1, hbC⟩; have hkC := bc _ _ (by (first | with_reducible assumption | (with_reducible refine Below.drew ?_; with_reducible assumption) | (with_reducible refine ba _ _ ?_; with_reducible assumption) | (with_reducible refine Below.drew ?_; with_reducible refine ba _ _ ?_; with_reducible assumption) | exact Below.refl _ _ | exact (Below.refl _ _).drew | exact (Below.refl _ _).alloc (Nat.le_refl _) _ | (refine bc _ _ (by assumption) (by assumption)))) hbC; have H1 := Lib.hid h1; have bC := Lib.hid hkC; clear h1 hbC
      refine hK.out _ _ ?_ (fun hHeld => ?_)
      · (first | (repeat' (first | with_reducible assumption | exact Nat.le_refl _ | with_reducible refine Below.drew ?_ | with_reducible refine ba _ _ ?_ | omega | (simp <;> omega))) | (first | with_reducible assumption | (with_reducible refine Below.drew ?_; with_reducible assumption) | (with_reducible refine ba _ _ ?_; with_reducible assumption) | (with_reducible refine Below.drew ?_; with_reducible refine ba _ _ ?_; with_reducible assumption) | exact Below.refl _ _ | exact (Below.refl _ _).drew | exact (Below.refl _ _).alloc (Nat.le_refl _) _ | (refine bc _ _ (by assumption) (by assumption))))
      clear hK K
      refine RegOk.put_ (m' := 1023) (by kernel_rfl) ?_
      try simp only [Act.put, List.setIfInBounds_toArray, List.set_cons_zero, List.set_cons_succ]
      refine hR.take (i := 10) (oi := ?ow802_10) (v := ?vw802_10) (m' := 2047) ?hw802_10 (by kernel_rfl) (by kernel_rfl) (fun _ _ _ h => h) (Or.inl ⟨?sw802_10, ?yw802_10⟩) (by assumption) ?nw802_10
      case hw802_10 => simp only [List.getElem?_toArray, List.getElem?_cons_succ, List.getElem?_cons_zero]; rfl
      case sw802_10 => rfl
      case yw802_10 => (intro w hSw; (try dsimp only at hSw); go_simp <;> with_reducible rfl)
      try simp only [Act.put, List.setIfInBounds_toArray, List.set_cons_zero, List.set_cons_succ]
      refine hR.all (by kernel_rfl) ?_ _
      refine NoPanic.normal ?_
      go_wp2_with fail
      go_meet
      case rel => exact ⟨_, _, rfl, H1.out.sub (fun _ _ _ => trivial), bC.out⟩
  obtain ⟨A7, c7, rfl, hs, hb⟩ := hcut
  obtain ⟨w8, hwv⟩ : ∃ x, x = wc := ⟨_, rfl⟩
  subst hwv
  have I7 := Lib.hid hs
  have b8 := Lib.hid (b7.out.trans (hb.mono b7.out.size))
  replace I5 := mvI I5 hb
  replace I6 := mvI I6 hb
  clear hs hb b7 zs0 zx zy gS HSL lgs lgx gx F3 Ss Y
  have hnn : ((N : Int) != (N : Int)) = false := by simp
  go_wp2_with fail
  go_loopw [16] (fun i wr => ∃ v : Nat, v ≤ N ∧ i = .int .i64 v ∧ Hid (Below w8.heap.size w8 wr)) (fun i _ => N - (intOf i).toNat)
  case atStart => exact ⟨0, Nat.zero_le _, rfl, Lib.hid (Below.refl _ _)⟩
  case round =>
    obtain ⟨v, hv, rfl, hbr⟩ := hrel
    have hkr := hbr.out
    have hv0 : (0 : Int) ≤ (v : Int) := by omega
    by_cases hlt : v < N
    · have hv1 : (v : Int) < (N : Int) := by omega
      have ha := total_bd2 HV.out HOKs.out hls1000 v
      have hb := total_bd2 HV.out HOKt.out hlt1000 v
      have hbk := HBK.out v
      have xa := sums_at HXxs.out HNxs.out hlt
      have xb := sums_at HXys.out HNys.out hlt
      have xc : zs[v]? = some (totalF x [r] v) := sums_at HXzs.out HNzs.out hlt
      generalize totalF x (liveF s) v = av at ha xa hbk
      generalize totalF x (liveF t) v = bv at hb xb hbk
      generalize totalF x [r] v = cv at xc hbk
      have hw : IntKind.i64.wrap (bv + cv) = av := by rw [hbk]; exact IntWalk.i64_in _ (by omega)
      obtain ⟨b5, o5, rfl, -, l5, v5⟩ := i64_at (mvI I5 hkr).out xa
      obtain ⟨b6, o6, rfl, -, l6, v6⟩ := i64_at (mvI I6 hkr).out xb
      obtain ⟨b7, o7, rfl, -, l7, v7⟩ := i64_at (mvI I7 hkr).out xc
      have hee : (av != av) = false := by simp
      clear xa xb xc ha hb hbk
      go_wp2_with fail
      go_quiet (fail)
      go_wp2_with fail
      go_roundw
      case rel => exact ⟨v + 1, by omega, by go_num, Lib.hid (below_drewN hkr _)⟩
      case measure => simp [intOf]; omega
    · have hv1 : ¬ (v : Int) < (N : Int) := by omega
      go_wp2_with fail
      go_ret
      exact ⟨rfl, b8.out.trans (hkr.mono b8.out.size)⟩
end Go.Proofs.YtmkpaolbejlodaaDoor
