/-
  The law 'EvalAdditive', walked: it returns true for every input, and nothing that existed changes. No condition.
-/
import Derived.Lib.Mul64
import Derived.Laws.Bits64b
import Derived.Shelf.Bits.Mul64
import Derived.Test.YtmkpaolbejlodaaDoorB1
import Derived.Test.YtmkpaolbejlodaaDoorB2
import Derived.Test.YtmkpaolbejlodaaDoorB3
import Derived.Test.YtmkpaolbejlodaaDoorB4
import Derived.Test.YtmkpaolbejlodaaDoorB5
import Derived.Test.YtmkpaolbejlodaaDoorB6
import Derived.Test.YtmkpaolbejlodaaDoorB7
import Derived.Test.YtmkpaolbejlodaaDoorB8
import Derived.Test.YtmkpaolbejlodaaDoorB9
import Derived.Test.YtmkpaolbejlodaaDoorB10
import Derived.Test.YtmkpaolbejlodaaDoorB11
import Derived.Test.YtmkpaolbejlodaaDoorB12
import Derived.Test.YtmkpaolbejlodaaDoorB13
import Derived.Test.YtmkpaolbejlodaaDoorB14
import Derived.Test.YtmkpaolbejlodaaDoorB15
import Derived.Test.YtmkpaolbejlodaaDoorB16
import Derived.Test.YtmkpaolbejlodaaDoorB17
import Derived.Test.YtmkpaolbejlodaaDoorB19
set_option linter.unusedSimpArgs false
set_option linter.unusedVariables false
namespace Go.Proofs.YtmkpaolbejlodaaDoor
open Go.RowKit

def joinS (s t : Str) : Str := ⟨s.l ++ t.l, s.g ++ t.g⟩
theorem joinS_ok {s t : Str} (hs : OkStr s) (ht : OkStr t) : OkStr (joinS s t) := ⟨by simp [joinS, hs.len, ht.len], fun r hr => (List.mem_append.1 hr).elim (hs.valid r) (ht.valid r)⟩
theorem joinS_live {s t : Str} (hs : OkStr s) : liveF (joinS s t) = liveF s ++ liveF t := live_app hs.len
theorem sums_at {q : Qy} {s : Str} {xs : List Int} {n v : Nat} (h : sumsF q (liveF s) = xs) (hn : xs.length = n) (hv : v < n) : xs[v]? = some (totalF q (liveF s) v) := by
  subst h
  exact sumsF_get (by rw [← sumsF_len q (liveF s), hn]; exact hv)
theorem sums_len2 {q : Qy} {s : Str} {xs : List Int} {n : Nat} (h : sumsF q (liveF s) = xs) (hn : nSums q = n) : xs.length = n := by rw [← h, sumsF_len, hn]
theorem total_bd2 {q : Qy} (hq : ValidQ q) {s : Str} (ok : OkStr s) (hl : s.l.length ≤ 1000) (v : Nat) : 0 ≤ totalF q (liveF s) v ∧ totalF q (liveF s) v ≤ 274941996890625000 := by
  have h1 := totalF_bd (q := q) v (k6_of hq) (live_valid ok)
  have h2 := live_len s
  omega
theorem joinedN {s t j : Str} {A B C D : Option Addr} {c d e f nl ng : Nat} {S T U V : Nat → Prop} (hj : joinS s t = j) (hnl : j.l.length = nl) (hng : j.g.length = ng) (w : World) (h1 : Sl rdE S w A c s.l) (h2 : Sl .bool T w B d s.g) (h3 : Sl rdE U w C e t.l) (h4 : Sl .bool V w D f t.g) (hs : s.l.length ≤ 1000) (hs' : s.g.length ≤ 1000) (ht : t.l.length ≤ 1000) (ht' : t.g.length ≤ 1000) :
    Calls Tryd.prog 20 #[.agg #[.slice A s.l.length c, .slice B s.g.length d], .agg #[.slice C t.l.length e, .slice D t.g.length f]] w
      fun r w' => ∃ A' c' B' d', r = .returned (.agg #[.slice A' nl c', .slice B' ng d']) ∧ Sl rdE (fun _ => True) w' A' c' j.l ∧ Sl .bool (fun _ => True) w' B' d' j.g ∧ Below w.heap.size w w' := by
  subst hj; subst hnl; subst hng
  exact (joinedP w h1 h2 h3 h4 hs hs' ht ht').mono fun r w' ⟨A', c', B', d', g1, g2, g3, g4⟩ => ⟨A', c', B', d', g1, g2.sub fun _ _ _ => trivial, g3.sub fun _ _ _ => trivial, g4⟩
def evL2A : List FRow := [(0, ([], (30, [8]))), (1, ([], (31, [9]))), (2, ([], (32, [10]))), (3, ([1, 2], (33, [30, 31]))), (4, ([0, 3, 3], (34, [29, 32]))), (5, ([4, 4, 0, 1, 2, 3, 4], (14, [33])))]
def evL2B : List FRow := [(0, ([], (35, [8]))), (1, ([], (36, [10]))), (2, ([], (37, [9]))), (3, ([1, 2], (38, [35, 36]))), (4, ([0, 3, 3], (39, [34, 37]))), (5, ([4, 4, 0, 1, 2, 3, 4], (15, [38])))]
set_option maxRecDepth 100000 in
set_option maxHeartbeats 8000000 in
theorem walk_EvalAdditive {q : Qy} {l m : List ROp} {A L M : Option Addr} {c cl cm : Nat} (w : World) (h : Sl cdE.slice (fun _ => True) w A c q.fs) (hl : Sl ropE (fun _ => True) w L cl l) (hm : Sl ropE (fun _ => True) w M cm m) :
    Calls Tryd.prog 4 #[(.agg #[.int .i64 q.kind, .int .i64 q.col, .int .i64 q.k, .slice A q.fs.length c]), .slice L l.length cl, .slice M m.length cm] w fun e w' => e = .returned (.bool true) ∧ Below w.heap.size w w' := by
  have H := Lib.hid h
  have HL := Lib.hid hl
  have HM := Lib.hid hm
  have hq63 := h.max
  have hl63 := hl.max
  have hm63 := hm.max
  clear h hl hm
  go_enter Tryd.func4, Tryd.ntmps4
  go_upto_region 1 with fail
  refine wp_world (F := fun wx => Below w.heap.size w wx ∧ Hid (wx.heap[w.heap.size]? = some (.cells #[.int .i64 q.kind, .int .i64 q.col, .int .i64 q.k, .slice A q.fs.length c] 24 (0, 0)))) ⟨(by repeat' (first | with_reducible exact Below.refl _ _ | with_reducible assumption | with_reducible refine Below.setCell ?_ ?_ _ | with_reducible refine Below.drew ?_ | with_reducible refine below_drewN ?_ _ | with_reducible refine Below.alloc ?_ ?_ _ | (rintro _ ⟨⟩; simp <;> omega) | omega | (simp <;> omega))), Lib.hid (heap_alloc_at rfl)⟩ ?_
  rintro w1 ⟨bb, gq⟩
  have b1 := Lib.hid bb
  clear bb
  go_upto_region 2 with (go_at_call 10; refine (sanityL15 _).mono ?_; rintro e w2 ⟨rfl, hb2⟩; have b2 := Lib.hid (b1.out.trans (hb2.mono b1.out.size)); have gq2 := mvQ gq hb2; clear hb2)
  obtain ⟨x0, x1, x2, x3⟩ := row4 gq2
  have H2 := Lib.hid (H.out.keep (Below.agree b2.out))
  have HL2 := Lib.hid (HL.out.keep (Below.agree b2.out))
  have HM2 := Lib.hid (HM.out.keep (Below.agree b2.out))
  clear gq b1 H HL HM
  go_cut [8] (fun p wx => ∃ (g : Nat) (x : Qy) (B : Option Addr) (d : Nat), p = .pointer (some ⟨g, 0, none⟩) ∧ ValidQ x ∧ wideB x = false ∧ Hid (wx.heap[g]? = some (.cells #[.int .i64 x.kind, .int .i64 x.col, .int .i64 x.k, .slice B x.fs.length d] 24 (0, 0))) ∧ Sl cdE.slice (fun _ => True) wx B d x.fs ∧ Below w2.heap.size w2 wx)
  case first =>
    go_wp2_with (go_at_call 11; refine (made15P (q := q) _ H2.out).mono ?_; rintro e wC ⟨x, hv, hnw, B, d, rfl, hs, hbC⟩; have HC := Lib.hid hs; have bC := Lib.hid hbC; have HV := Lib.hid hv; have HN := Lib.hid hnw; clear hs hbC hv hnw)
    go_meet
    case rel => exact ⟨_, x, B, d, rfl, HV.out, HN.out, Lib.hid (heap_alloc_at rfl), (HC.out.sub (fun _ _ _ => trivial)).keep ((Agree.refl _ _).alloc _), bC.out.alloc bC.out.size _⟩
  obtain ⟨g, x, B, d, rfl, hv, hnw, gx, hs, hb⟩ := hcut
  obtain ⟨w3, hwv⟩ : ∃ x, x = wc := ⟨_, rfl⟩
  subst hwv
  have HV := Lib.hid hv
  have HNW := Lib.hid hnw
  have b3 := Lib.hid (b2.out.trans (hb.mono b2.out.size))
  have F3 := Lib.hid hs
  have HL3 := Lib.hid (HL2.out.keep (Below.agree hb))
  have HM3 := Lib.hid (HM2.out.keep (Below.agree hb))
  clear hv hnw hs hb x0 x1 x2 x3 gq2 b2 H2 HL2 HM2
  obtain ⟨s, hs⟩ : ∃ s, madeF 15 l = s := ⟨_, rfl⟩
  have hok := madeF_ok 15 l
  rw [hs] at hok
  have HMSs := Lib.hid hs
  have HOKs := Lib.hid hok.1
  have hls := hok.2
  have hls1000 : s.l.length ≤ 1000 := by omega
  clear hs hok
  go_upto_region 3 with fail
  go_cut [9] (fun p wx => ∃ g, p = .pointer (some ⟨g, 0, none⟩) ∧ StB wx g s s.l.length s.g.length ∧ Below w3.heap.size w3 wx)
  case first =>
    go_wp2_with (go_at_call 12; refine (madeR (most := 15) (l := l) _ HL3.out (by omega)).mono ?_; rw [HMSs.out]; rintro e wC ⟨A', c', B', d', rfl, h1, h2, hbC⟩; have H1 := Lib.hid h1; have H2 := Lib.hid h2; have bC := Lib.hid hbC; clear h1 h2 hbC)
    go_meet
    case rel => exact ⟨_, rfl, ⟨A', c', B', d', heap_alloc_at rfl, (H1.out.alloc_ _).sub (fun _ _ _ => trivial), (H2.out.alloc_ _).sub (fun _ _ _ => trivial)⟩, bC.out.alloc bC.out.size _⟩
  obtain ⟨gs, rfl, hst, hb⟩ := hcut
  obtain ⟨w4, hwv⟩ : ∃ x, x = wc := ⟨_, rfl⟩
  subst hwv
  have Ss := Lib.hid hst
  have b4 := Lib.hid (b3.out.trans (hb.mono b3.out.size))
  replace F3 := mvF F3 hb
  replace gx := mvQ gx hb
  replace HM3 := mvI HM3 hb
  clear hst hb b3 HL3
  have HM4 := HM3
  clear HM3
  obtain ⟨t, hs⟩ : ∃ t, madeF 15 m = t := ⟨_, rfl⟩
  have hok := madeF_ok 15 m
  rw [hs] at hok
  have HMSt := Lib.hid hs
  have HOKt := Lib.hid hok.1
  have hlt := hok.2
  have hlt1000 : t.l.length ≤ 1000 := by omega
  clear hs hok
  go_upto_region 4 with fail
  go_cut [10] (fun p wx => ∃ g, p = .pointer (some ⟨g, 0, none⟩) ∧ StB wx g t t.l.length t.g.length ∧ Below w4.heap.size w4 wx)
  case first =>
    go_wp2_with (go_at_call 12; refine (madeR (most := 15) (l := m) _ HM4.out (by omega)).mono ?_; rw [HMSt.out]; rintro e wC ⟨A', c', B', d', rfl, h1, h2, hbC⟩; have H1 := Lib.hid h1; have H2 := Lib.hid h2; have bC := Lib.hid hbC; clear h1 h2 hbC)
    go_meet
    case rel => exact ⟨_, rfl, ⟨A', c', B', d', heap_alloc_at rfl, (H1.out.alloc_ _).sub (fun _ _ _ => trivial), (H2.out.alloc_ _).sub (fun _ _ _ => trivial)⟩, bC.out.alloc bC.out.size _⟩
  obtain ⟨gt, rfl, hst, hb⟩ := hcut
  obtain ⟨w5, hwv⟩ : ∃ x, x = wc := ⟨_, rfl⟩
  subst hwv
  have St := Lib.hid hst
  have b5 := Lib.hid (b4.out.trans (hb.mono b4.out.size))
  replace F3 := mvF F3 hb
  replace gx := mvQ gx hb
  replace Ss := mvSt Ss hb
  clear hst hb b4 HM4
  obtain ⟨js, hj⟩ : ∃ j, joinS s t = j := ⟨_, rfl⟩
  obtain ⟨nls, hnl⟩ : ∃ n, js.l.length = n := ⟨_, rfl⟩
  obtain ⟨ngs, hng⟩ : ∃ n, js.g.length = n := ⟨_, rfl⟩
  have HJs := Lib.hid hj
  have HJls := Lib.hid hnl
  have HJgs := Lib.hid hng
  have HOJs := Lib.hid (show OkStr js by rw [← hj]; exact joinS_ok HOKs.out HOKt.out)
  clear hj hnl hng
  obtain ⟨jt, hj⟩ : ∃ j, joinS t s = j := ⟨_, rfl⟩
  obtain ⟨nlt, hnl⟩ : ∃ n, jt.l.length = n := ⟨_, rfl⟩
  obtain ⟨ngt, hng⟩ : ∃ n, jt.g.length = n := ⟨_, rfl⟩
  have HJt := Lib.hid hj
  have HJlt := Lib.hid hnl
  have HJgt := Lib.hid hng
  have HOJt := Lib.hid (show OkStr jt by rw [← hj]; exact joinS_ok HOKt.out HOKs.out)
  clear hj hnl hng
  obtain ⟨N, hN⟩ : ∃ N, nSums x = N := ⟨_, rfl⟩
  obtain ⟨xs, hxs⟩ : ∃ xs, sumsF x (liveF s) = xs := ⟨_, rfl⟩
  obtain ⟨ys, hys⟩ : ∃ ys, sumsF x (liveF t) = ys := ⟨_, rfl⟩
  obtain ⟨zs, hzs⟩ : ∃ zs, sumsF x (liveF js) = zs := ⟨_, rfl⟩
  obtain ⟨us, hus⟩ : ∃ us, sumsF x (liveF jt) = us := ⟨_, rfl⟩
  have HXxs := Lib.hid hxs
  have HNxs := Lib.hid (sums_len2 hxs hN)
  have HXys := Lib.hid hys
  have HNys := Lib.hid (sums_len2 hys hN)
  have HXzs := Lib.hid hzs
  have HNzs := Lib.hid (sums_len2 hzs hN)
  have HXus := Lib.hid hus
  have HNus := Lib.hid (sums_len2 hus hN)
  have hN32 : N ≤ 32 := by have := (nSums_le HV.out).1; omega
  clear hxs hys hzs hus hN
  obtain ⟨x0, x1, x2, x3⟩ := row4 gx
  obtain ⟨L, cl, G, cg, hg, hsL, hsG⟩ := Ss.out
  obtain ⟨s0, s1⟩ := two2 (Lib.hid hg)
  have HSL := Lib.hid hsL
  have HSG := Lib.hid hsG
  clear hg hsL hsG
  go_upto_region 5 with fail
  go_cut [11] (fun v wx => ∃ A c, v = .slice A N c ∧ Sl .i64 (fun _ => True) wx A c xs ∧ Below w5.heap.size w5 wx)
  case first =>
    go_wp2_with (go_at_call 13; refine (sumsN (q := x) (s := s) HXxs.out rfl HNxs.out rfl rfl _ HV.out HNW.out HOKs.out hls1000 F3.out HSL.out HSG.out).mono ?_; rintro e wC ⟨A, c, rfl, h1, hbC⟩; have H1 := Lib.hid h1; have bC := Lib.hid hbC; clear h1 hbC)
    go_meet
    case rel => exact ⟨_, _, rfl, H1.out.sub (fun _ _ _ => trivial), bC.out⟩
  obtain ⟨A5, c5, rfl, hs, hb⟩ := hcut
  obtain ⟨w6, hwv⟩ : ∃ x, x = wc := ⟨_, rfl⟩
  subst hwv
  have I5 := Lib.hid hs
  have b6 := Lib.hid (b5.out.trans (hb.mono b5.out.size))
  replace F3 := mvF F3 hb
  replace gx := mvQ gx hb
  replace Ss := mvSt Ss hb
  replace St := mvSt St hb
  clear hs hb b5 HSL HSG s0 s1 x0 x1 x2 x3
  obtain ⟨x0, x1, x2, x3⟩ := row4 gx
  obtain ⟨L, cl, G, cg, hg, hsL, hsG⟩ := St.out
  obtain ⟨s0, s1⟩ := two2 (Lib.hid hg)
  have HSL := Lib.hid hsL
  have HSG := Lib.hid hsG
  clear hg hsL hsG
  go_upto_region 6 with fail
  go_cut [12] (fun v wx => ∃ A c, v = .slice A N c ∧ Sl .i64 (fun _ => True) wx A c ys ∧ Below w6.heap.size w6 wx)
  case first =>
    go_wp2_with (go_at_call 13; refine (sumsN (q := x) (s := t) HXys.out rfl HNys.out rfl rfl _ HV.out HNW.out HOKt.out hlt1000 F3.out HSL.out HSG.out).mono ?_; rintro e wC ⟨A, c, rfl, h1, hbC⟩; have H1 := Lib.hid h1; have bC := Lib.hid hbC; clear h1 hbC)
    go_meet
    case rel => exact ⟨_, _, rfl, H1.out.sub (fun _ _ _ => trivial), bC.out⟩
  obtain ⟨A6, c6, rfl, hs, hb⟩ := hcut
  obtain ⟨w7, hwv⟩ : ∃ x, x = wc := ⟨_, rfl⟩
  subst hwv
  have I6 := Lib.hid hs
  have b7 := Lib.hid (b6.out.trans (hb.mono b6.out.size))
  replace F3 := mvF F3 hb
  replace gx := mvQ gx hb
  replace Ss := mvSt Ss hb
  replace St := mvSt St hb
  replace I5 := mvI I5 hb
  clear hs hb b6 HSL HSG s0 s1 x0 x1 x2 x3
  obtain ⟨La, cla, Ga, cga, hga, hsLa, hsGa⟩ := Ss.out
  obtain ⟨Lb, clb, Gb, cgb, hgb, hsLb, hsGb⟩ := St.out
  have ga := Lib.hid hga
  have gb := Lib.hid hgb
  have za : ∀ W, Below w7.heap.size w7 W → _ ∧ _ := fun W hW => two2 (mvQ ga hW)
  have zb : ∀ W, Below w7.heap.size w7 W → _ ∧ _ := fun W hW => two2 (mvQ gb hW)
  have zx : ∀ W, Below w7.heap.size w7 W → _ ∧ _ ∧ _ ∧ _ := fun W hW => row4 (mvQ gx hW)
  have HLa := Lib.hid hsLa
  have HGa := Lib.hid hsGa
  have HLb := Lib.hid hsLb
  have HGb := Lib.hid hsGb
  have hg1 : s.g.length ≤ 1000 := by rw [HOKs.out.len]; exact hls1000
  have hg2 : t.g.length ≤ 1000 := by rw [HOKt.out.len]; exact hlt1000
  have lga := heap_lt hga
  have lgb := heap_lt hgb
  have lgx := heap_lt gx.out
  clear hga hgb hsLa hsGa hsLb hsGb
  go_upto_region 7 with fail
  go_cut [13] (fun v wx => ∃ A c, v = .slice A N c ∧ Sl .i64 (fun _ => True) wx A c zs ∧ Below w7.heap.size w7 wx)
  case first =>
    have br : Below w7.heap.size w7 w7 := Below.refl _ _
    have ba : ∀ W o, Below w7.heap.size w7 W → Below w7.heap.size w7 (W.alloc o) := fun W o h => h.alloc h.size o
    have bc : ∀ W W', Below w7.heap.size w7 W → Below W.heap.size W W' → Below w7.heap.size w7 W' := fun W W' h k => h.trans (k.mono h.size)
    refine wp_region_noPanic ?_
    refine wp_region_held_drew (S := fun X => Below w7.heap.size w7 X) (by kernel_rfl) ?_ (fun hHeld => ?_)
    · (first | (repeat' (first | with_reducible assumption | exact Nat.le_refl _ | with_reducible refine Below.drew ?_ | with_reducible refine ba _ _ ?_ | omega | (simp <;> omega))) | (first | with_reducible assumption | (with_reducible refine Below.drew ?_; with_reducible assumption) | (with_reducible refine ba _ _ ?_; with_reducible assumption) | (with_reducible refine Below.drew ?_; with_reducible refine ba _ _ ?_; with_reducible assumption) | exact Below.refl _ _ | exact (Below.refl _ _).drew | exact (Below.refl _ _).alloc (Nat.le_refl _) _ | (refine bc _ _ (by assumption) (by assumption))))
    refine RegOk.begin_ (n := 6) (T := evL2A) ⟨by kernel_rfl, by kernel_rfl, by kernel_rfl, by kernel_rfl⟩ fun hR => ?_
    refine hR.take (i := 0) (oi := ?ow776_0) (v := ?vw776_0) (m' := 1) ?hw776_0 (by kernel_rfl) (by kernel_rfl) (fun _ _ _ h => h) (Or.inl ⟨?sw776_0, ?yw776_0⟩) (by assumption) ?nw776_0
    case hw776_0 => simp only [List.getElem?_toArray, List.getElem?_cons_succ, List.getElem?_cons_zero]; rfl
    case sw776_0 => rfl
    case yw776_0 => (intro w hSw; (try dsimp only at hSw); go_simp <;> with_reducible rfl)
    try simp only [Act.put, List.setIfInBounds_toArray, List.set_cons_zero, List.set_cons_succ]
    refine hR.take (i := 1) (oi := ?ow777_1) (v := ?vw777_1) (m' := 3) ?hw777_1 (by kernel_rfl) (by kernel_rfl) (fun _ _ _ h => h) (Or.inl ⟨?sw777_1, ?yw777_1⟩) (by assumption) ?nw777_1
    case hw777_1 => simp only [List.getElem?_toArray, List.getElem?_cons_succ, List.getElem?_cons_zero]; rfl
    case sw777_1 => rfl
    case yw777_1 => (intro w hSw; (try dsimp only at hSw); go_simp <;> with_reducible rfl)
    try simp only [Act.put, List.setIfInBounds_toArray, List.set_cons_zero, List.set_cons_succ]
    refine hR.take (i := 2) (oi := ?ow778_2) (v := ?vw778_2) (m' := 7) ?hw778_2 (by kernel_rfl) (by kernel_rfl) (fun _ _ _ h => h) (Or.inl ⟨?sw778_2, ?yw778_2⟩) (by assumption) ?nw778_2
    case hw778_2 => simp only [List.getElem?_toArray, List.getElem?_cons_succ, List.getElem?_cons_zero]; rfl
    case sw778_2 => rfl
    case yw778_2 => (intro w hSw; (try dsimp only at hSw); go_simp <;> with_reducible rfl)
    try simp only [Act.put, List.setIfInBounds_toArray, List.set_cons_zero, List.set_cons_succ]
    refine hR.come (rs := [3]) (by kernel_rfl) (by simp) ?_
    refine AllReadyH.cons (o := ?o779_3) ?h779_3 (fun K hK => ?kw779_3) AllReadyH.nil
    case h779_3 => simp only [List.getElem?_toArray, List.getElem?_cons_succ, List.getElem?_cons_zero]; rfl
    go_simp
    go_at_call 20; ((with_reducible refine (joinedN (s := s) (t := t) HJs.out HJls.out HJgs.out _ (mvI HLa (by (first | with_reducible assumption | (with_reducible refine Below.drew ?_; with_reducible assumption) | (with_reducible refine ba _ _ ?_; with_reducible assumption) | (with_reducible refine Below.drew ?_; with_reducible refine ba _ _ ?_; with_reducible assumption) | exact Below.refl _ _ | exact (Below.refl _ _).drew | exact (Below.refl _ _).alloc (Nat.le_refl _) _ | (refine bc _ _ (by assumption) (by assumption))))).out (mvI HGa (by (first | with_reducible assumption | (with_reducible refine Below.drew ?_; with_reducible assumption) | (with_reducible refine ba _ _ ?_; with_reducible assumption) | (with_reducible refine Below.drew ?_; with_reducible refine ba _ _ ?_; with_reducible assumption) | exact Below.refl _ _ | exact (Below.refl _ _).drew | exact (Below.refl _ _).alloc (Nat.le_refl _) _ | (refine bc _ _ (by assumption) (by assumption))))).out (mvI HLb (by (first | with_reducible assumption | (with_reducible refine Below.drew ?_; with_reducible assumption) | (with_reducible refine ba _ _ ?_; with_reducible assumption) | (with_reducible refine Below.drew ?_; with_reducible refine ba _ _ ?_; with_reducible assumption) | exact Below.refl _ _ | exact (Below.refl _ _).drew | exact (Below.refl _ _).alloc (Nat.le_refl _) _ | (refine bc _ _ (by assumption) (by assumption))))).out (mvI HGb (by (first | with_reducible assumption | (with_reducible refine Below.drew ?_; with_reducible assumption) | (with_reducible refine ba _ _ ?_; with_reducible assumption) | (with_reducible refine Below.drew ?_; with_reducible refine ba _ _ ?_; with_reducible assumption) | exact Below.refl _ _ | exact (Below.refl _ _).drew | exact (Below.refl _ _).alloc (Nat.le_refl _) _ | (refine bc _ _ (by assumption) (by assumption))))).out ?m71 ?m72 ?m73 ?m74).mono ?_)); (case m71 => omega); (case m72 => omega); (case m73 => omega); (case m74 => omega); rintro e wJ ⟨A', c', B', d', rfl, hj1, hj2, hbJ⟩; have hkJ := bc _ _ (by (first | with_reducible assumption | (with_reducible refine Below.drew ?_; with_reducible assumption) | (with_reducible refine ba _ _ ?_; with_reducible assumption) | (with_reducible refine Below.drew ?_; with_reducible refine ba _ _ ?_; with_reducible assumption) | exact Below.refl _ _ | exact (Below.refl _ _).drew | exact (Below.refl _ _).alloc (Nat.le_refl _) _ | (refine bc _ _ (by assumption) (by assumption)))) hbJ; have HJ1 := Lib.hid hj1; have HJ2 := Lib.hid hj2; clear hj1 hj2
    refine hK.out _ _ ?_ (fun hHeld => ?_)
    · (first | (repeat' (first | with_reducible assumption | exact Nat.le_refl _ | with_reducible refine Below.drew ?_ | with_reducible refine ba _ _ ?_ | omega | (simp <;> omega))) | (first | with_reducible assumption | (with_reducible refine Below.drew ?_; with_reducible assumption) | (with_reducible refine ba _ _ ?_; with_reducible assumption) | (with_reducible refine Below.drew ?_; with_reducible refine ba _ _ ?_; with_reducible assumption) | exact Below.refl _ _ | exact (Below.refl _ _).drew | exact (Below.refl _ _).alloc (Nat.le_refl _) _ | (refine bc _ _ (by assumption) (by assumption))))
    clear hK K
    refine RegOk.put_ (m' := 15) (by kernel_rfl) ?_
    try simp only [Act.put, List.setIfInBounds_toArray, List.set_cons_zero, List.set_cons_succ]
    refine hR.come (rs := [4]) (by kernel_rfl) (by simp) ?_
    refine AllReadyH.cons (o := ?o780_4) ?h780_4 (fun K hK => ?kw780_4) AllReadyH.nil
    case h780_4 => simp only [List.getElem?_toArray, List.getElem?_cons_succ, List.getElem?_cons_zero]; rfl
    go_simp
    go_at_call 13; ((with_reducible refine (sumsN (q := x) (s := js) (nl := nls) (ng := ngs) (S := fun _ => True) HXzs.out rfl HNzs.out HJls.out HJgs.out _ HV.out HNW.out HOJs.out ?m75 (mvF F3 (by (first | with_reducible assumption | (with_reducible refine Below.drew ?_; with_reducible assumption) | (with_reducible refine ba _ _ ?_; with_reducible assumption) | (with_reducible refine Below.drew ?_; with_reducible refine ba _ _ ?_; with_reducible assumption) | exact Below.refl _ _ | exact (Below.refl _ _).drew | exact (Below.refl _ _).alloc (Nat.le_refl _) _ | (refine bc _ _ (by assumption) (by assumption))))).out HJ1.out HJ2.out).mono ?_)); (case m75 => rw [← HJs.out]; simp [joinS]; omega); rintro e wC ⟨A, c, rfl, h1, hbC⟩; have hkC := bc _ _ (by (first | with_reducible assumption | (with_reducible refine Below.drew ?_; with_reducible assumption) | (with_reducible refine ba _ _ ?_; with_reducible assumption) | (with_reducible refine Below.drew ?_; with_reducible refine ba _ _ ?_; with_reducible assumption) | exact Below.refl _ _ | exact (Below.refl _ _).drew | exact (Below.refl _ _).alloc (Nat.le_refl _) _ | (refine bc _ _ (by assumption) (by assumption)))) hbC; have H1 := Lib.hid h1; have bC := Lib.hid hkC; clear h1 hbC
    refine hK.out _ _ ?_ (fun hHeld => ?_)
    · (first | (repeat' (first | with_reducible assumption | exact Nat.le_refl _ | with_reducible refine Below.drew ?_ | with_reducible refine ba _ _ ?_ | omega | (simp <;> omega))) | (first | with_reducible assumption | (with_reducible refine Below.drew ?_; with_reducible assumption) | (with_reducible refine ba _ _ ?_; with_reducible assumption) | (with_reducible refine Below.drew ?_; with_reducible refine ba _ _ ?_; with_reducible assumption) | exact Below.refl _ _ | exact (Below.refl _ _).drew | exact (Below.refl _ _).alloc (Nat.le_refl _) _ | (refine bc _ _ (by assumption) (by assumption))))
    clear hK K
    refine RegOk.put_ (m' := 31) (by kernel_rfl) ?_
    try simp only [Act.put, List.setIfInBounds_toArray, List.set_cons_zero, List.set_cons_succ]
    refine hR.take (i := 5) (oi := ?ow781_5) (v := ?vw781_5) (m' := 63) ?hw781_5 (by kernel_rfl) (by kernel_rfl) (fun _ _ _ h => h) (Or.inl ⟨?sw781_5, ?yw781_5⟩) (by assumption) ?nw781_5
    case hw781_5 => simp only [List.getElem?_toArray, List.getElem?_cons_succ, List.getElem?_cons_zero]; rfl
    case sw781_5 => rfl
    case yw781_5 => (intro w hSw; (try dsimp only at hSw); go_simp <;> with_reducible rfl)
    try simp only [Act.put, List.setIfInBounds_toArray, List.set_cons_zero, List.set_cons_succ]
    refine hR.all (by kernel_rfl) ?_ _
    refine NoPanic.normal ?_
    go_wp2_with fail
    go_meet
    case rel => exact ⟨_, _, rfl, H1.out.sub (fun _ _ _ => trivial), bC.out⟩
  obtain ⟨A7, c7, rfl, hs, hb⟩ := hcut
  obtain ⟨w8, hwv⟩ : ∃ x, x = wc := ⟨_, rfl⟩
  subst hwv
  have I7 := Lib.hid hs
  have b8 := Lib.hid (b7.out.trans (hb.mono b7.out.size))
  replace F3 := mvF F3 hb
  replace gx := mvQ gx hb
  replace Ss := mvSt Ss hb
  replace St := mvSt St hb
  replace I5 := mvI I5 hb
  replace I6 := mvI I6 hb
  clear hs hb b7 za zb zx ga gb HLa HGa HLb HGb lga lgb lgx
  obtain ⟨La, cla, Ga, cga, hga, hsLa, hsGa⟩ := St.out
  obtain ⟨Lb, clb, Gb, cgb, hgb, hsLb, hsGb⟩ := Ss.out
  have ga := Lib.hid hga
  have gb := Lib.hid hgb
  have za : ∀ W, Below w8.heap.size w8 W → _ ∧ _ := fun W hW => two2 (mvQ ga hW)
  have zb : ∀ W, Below w8.heap.size w8 W → _ ∧ _ := fun W hW => two2 (mvQ gb hW)
  have zx : ∀ W, Below w8.heap.size w8 W → _ ∧ _ ∧ _ ∧ _ := fun W hW => row4 (mvQ gx hW)
  have HLa := Lib.hid hsLa
  have HGa := Lib.hid hsGa
  have HLb := Lib.hid hsLb
  have HGb := Lib.hid hsGb
  have hg1 : s.g.length ≤ 1000 := by rw [HOKs.out.len]; exact hls1000
  have hg2 : t.g.length ≤ 1000 := by rw [HOKt.out.len]; exact hlt1000
  have lga := heap_lt hga
  have lgb := heap_lt hgb
  have lgx := heap_lt gx.out
  clear hga hgb hsLa hsGa hsLb hsGb
  go_upto_region 8 with fail
  go_cut [14] (fun v wx => ∃ A c, v = .slice A N c ∧ Sl .i64 (fun _ => True) wx A c us ∧ Below w8.heap.size w8 wx)
  case first =>
    have br : Below w8.heap.size w8 w8 := Below.refl _ _
    have ba : ∀ W o, Below w8.heap.size w8 W → Below w8.heap.size w8 (W.alloc o) := fun W o h => h.alloc h.size o
    have bc : ∀ W W', Below w8.heap.size w8 W → Below W.heap.size W W' → Below w8.heap.size w8 W' := fun W W' h k => h.trans (k.mono h.size)
    refine wp_region_noPanic ?_
    refine wp_region_held_drew (S := fun X => Below w8.heap.size w8 X) (by kernel_rfl) ?_ (fun hHeld => ?_)
    · (first | (repeat' (first | with_reducible assumption | exact Nat.le_refl _ | with_reducible refine Below.drew ?_ | with_reducible refine ba _ _ ?_ | omega | (simp <;> omega))) | (first | with_reducible assumption | (with_reducible refine Below.drew ?_; with_reducible assumption) | (with_reducible refine ba _ _ ?_; with_reducible assumption) | (with_reducible refine Below.drew ?_; with_reducible refine ba _ _ ?_; with_reducible assumption) | exact Below.refl _ _ | exact (Below.refl _ _).drew | exact (Below.refl _ _).alloc (Nat.le_refl _) _ | (refine bc _ _ (by assumption) (by assumption))))
    refine RegOk.begin_ (n := 6) (T := evL2B) ⟨by kernel_rfl, by kernel_rfl, by kernel_rfl, by kernel_rfl⟩ fun hR => ?_
    refine hR.take (i := 0) (oi := ?ow782_0) (v := ?vw782_0) (m' := 1) ?hw782_0 (by kernel_rfl) (by kernel_rfl) (fun _ _ _ h => h) (Or.inl ⟨?sw782_0, ?yw782_0⟩) (by assumption) ?nw782_0
    case hw782_0 => simp only [List.getElem?_toArray, List.getElem?_cons_succ, List.getElem?_cons_zero]; rfl
    case sw782_0 => rfl
    case yw782_0 => (intro w hSw; (try dsimp only at hSw); go_simp <;> with_reducible rfl)
    try simp only [Act.put, List.setIfInBounds_toArray, List.set_cons_zero, List.set_cons_succ]
    refine hR.take (i := 1) (oi := ?ow783_1) (v := ?vw783_1) (m' := 3) ?hw783_1 (by kernel_rfl) (by kernel_rfl) (fun _ _ _ h => h) (Or.inl ⟨?sw783_1, ?yw783_1⟩) (by assumption) ?nw783_1
    case hw783_1 => simp only [List.getElem?_toArray, List.getElem?_cons_succ, List.getElem?_cons_zero]; rfl
    case sw783_1 => rfl
    case yw783_1 => (intro w hSw; (try dsimp only at hSw); go_simp <;> with_reducible rfl)
    try simp only [Act.put, List.setIfInBounds_toArray, List.set_cons_zero, List.set_cons_succ]
    refine hR.take (i := 2) (oi := ?ow784_2) (v := ?vw784_2) (m' := 7) ?hw784_2 (by kernel_rfl) (by kernel_rfl) (fun _ _ _ h => h) (Or.inl ⟨?sw784_2, ?yw784_2⟩) (by assumption) ?nw784_2
    case hw784_2 => simp only [List.getElem?_toArray, List.getElem?_cons_succ, List.getElem?_cons_zero]; rfl
    case sw784_2 => rfl
    case yw784_2 => (intro w hSw; (try dsimp only at hSw); go_simp <;> with_reducible rfl)
    try simp only [Act.put, List.setIfInBounds_toArray, List.set_cons_zero, List.set_cons_succ]
    refine hR.come (rs := [3]) (by kernel_rfl) (by simp) ?_
    refine AllReadyH.cons (o := ?o785_3) ?h785_3 (fun K hK => ?kw785_3) AllReadyH.nil
    case h785_3 => simp only [List.getElem?_toArray, List.getElem?_cons_succ, List.getElem?_cons_zero]; rfl
    go_simp
    go_at_call 20; ((with_reducible refine (joinedN (s := t) (t := s) HJt.out HJlt.out HJgt.out _ (mvI HLa (by (first | with_reducible assumption | (with_reducible refine Below.drew ?_; with_reducible assumption) | (with_reducible refine ba _ _ ?_; with_reducible assumption) | (with_reducible refine Below.drew ?_; with_reducible refine ba _ _ ?_; with_reducible assumption) | exact Below.refl _ _ | exact (Below.refl _ _).drew | exact (Below.refl _ _).alloc (Nat.le_refl _) _ | (refine bc _ _ (by assumption) (by assumption))))).out (mvI HGa (by (first | with_reducible assumption | (with_reducible refine Below.drew ?_; with_reducible assumption) | (with_reducible refine ba _ _ ?_; with_reducible assumption) | (with_reducible refine Below.drew ?_; with_reducible refine ba _ _ ?_; with_reducible assumption) | exact Below.refl _ _ | exact (Below.refl _ _).drew | exact (Below.refl _ _).alloc (Nat.le_refl _) _ | (refine bc _ _ (by assumption) (by assumption))))).out (mvI HLb (by (first | with_reducible assumption | (with_reducible refine Below.drew ?_; with_reducible assumption) | (with_reducible refine ba _ _ ?_; with_reducible assumption) | (with_reducible refine Below.drew ?_; with_reducible refine ba _ _ ?_; with_reducible assumption) | exact Below.refl _ _ | exact (Below.refl _ _).drew | exact (Below.refl _ _).alloc (Nat.le_refl _) _ | (refine bc _ _ (by assumption) (by assumption))))).out (mvI HGb (by (first | with_reducible assumption | (with_reducible refine Below.drew ?_; with_reducible assumption) | (with_reducible refine ba _ _ ?_; with_reducible assumption) | (with_reducible refine Below.drew ?_; with_reducible refine ba _ _ ?_; with_reducible assumption) | exact Below.refl _ _ | exact (Below.refl _ _).drew | exact (Below.refl _ _).alloc (Nat.le_refl _) _ | (refine bc _ _ (by assumption) (by assumption))))).out ?m81 ?m82 ?m83 ?m84).mono ?_)); (case m81 => omega); (case m82 => omega); (case m83 => omega); (case m84 => omega); rintro e wJ ⟨A', c', B', d', rfl, hj1, hj2, hbJ⟩; have hkJ := bc _ _ (by (first | with_reducible assumption | (with_reducible refine Below.drew ?_; with_reducible assumption) | (with_reducible refine ba _ _ ?_; with_reducible assumption) | (with_reducible refine Below.drew ?_; with_reducible refine ba _ _ ?_; with_reducible assumption) | exact Below.refl _ _ | exact (Below.refl _ _).drew | exact (Below.refl _ _).alloc (Nat.le_refl _) _ | (refine bc _ _ (by assumption) (by assumption)))) hbJ; have HJ1 := Lib.hid hj1; have HJ2 := Lib.hid hj2; clear hj1 hj2
    refine hK.out _ _ ?_ (fun hHeld => ?_)
    · (first | (repeat' (first | with_reducible assumption | exact Nat.le_refl _ | with_reducible refine Below.drew ?_ | with_reducible refine ba _ _ ?_ | omega | (simp <;> omega))) | (first | with_reducible assumption | (with_reducible refine Below.drew ?_; with_reducible assumption) | (with_reducible refine ba _ _ ?_; with_reducible assumption) | (with_reducible refine Below.drew ?_; with_reducible refine ba _ _ ?_; with_reducible assumption) | exact Below.refl _ _ | exact (Below.refl _ _).drew | exact (Below.refl _ _).alloc (Nat.le_refl _) _ | (refine bc _ _ (by assumption) (by assumption))))
    clear hK K
    refine RegOk.put_ (m' := 15) (by kernel_rfl) ?_
    try simp only [Act.put, List.setIfInBounds_toArray, List.set_cons_zero, List.set_cons_succ]
    refine hR.come (rs := [4]) (by kernel_rfl) (by simp) ?_
    refine AllReadyH.cons (o := ?o786_4) ?h786_4 (fun K hK => ?kw786_4) AllReadyH.nil
    case h786_4 => simp only [List.getElem?_toArray, List.getElem?_cons_succ, List.getElem?_cons_zero]; rfl
    go_simp
    go_at_call 13; ((with_reducible refine (sumsN (q := x) (s := jt) (nl := nlt) (ng := ngt) (S := fun _ => True) HXus.out rfl HNus.out HJlt.out HJgt.out _ HV.out HNW.out HOJt.out ?m85 (mvF F3 (by (first | with_reducible assumption | (with_reducible refine Below.drew ?_; with_reducible assumption) | (with_reducible refine ba _ _ ?_; with_reducible assumption) | (with_reducible refine Below.drew ?_; with_reducible refine ba _ _ ?_; with_reducible assumption) | exact Below.refl _ _ | exact (Below.refl _ _).drew | exact (Below.refl _ _).alloc (Nat.le_refl _) _ | (refine bc _ _ (by assumption) (by assumption))))).out HJ1.out HJ2.out).mono ?_)); (case m85 => rw [← HJt.out]; simp [joinS]; omega); rintro e wC ⟨A, c, rfl, h1, hbC⟩; have hkC := bc _ _ (by (first | with_reducible assumption | (with_reducible refine Below.drew ?_; with_reducible assumption) | (with_reducible refine ba _ _ ?_; with_reducible assumption) | (with_reducible refine Below.drew ?_; with_reducible refine ba _ _ ?_; with_reducible assumption) | exact Below.refl _ _ | exact (Below.refl _ _).drew | exact (Below.refl _ _).alloc (Nat.le_refl _) _ | (refine bc _ _ (by assumption) (by assumption)))) hbC; have H1 := Lib.hid h1; have bC := Lib.hid hkC; clear h1 hbC
    refine hK.out _ _ ?_ (fun hHeld => ?_)
    · (first | (repeat' (first | with_reducible assumption | exact Nat.le_refl _ | with_reducible refine Below.drew ?_ | with_reducible refine ba _ _ ?_ | omega | (simp <;> omega))) | (first | with_reducible assumption | (with_reducible refine Below.drew ?_; with_reducible assumption) | (with_reducible refine ba _ _ ?_; with_reducible assumption) | (with_reducible refine Below.drew ?_; with_reducible refine ba _ _ ?_; with_reducible assumption) | exact Below.refl _ _ | exact (Below.refl _ _).drew | exact (Below.refl _ _).alloc (Nat.le_refl _) _ | (refine bc _ _ (by assumption) (by assumption))))
    clear hK K
    refine RegOk.put_ (m' := 31) (by kernel_rfl) ?_
    try simp only [Act.put, List.setIfInBounds_toArray, List.set_cons_zero, List.set_cons_succ]
    refine hR.take (i := 5) (oi := ?ow787_5) (v := ?vw787_5) (m' := 63) ?hw787_5 (by kernel_rfl) (by kernel_rfl) (fun _ _ _ h => h) (Or.inl ⟨?sw787_5, ?yw787_5⟩) (by assumption) ?nw787_5
    case hw787_5 => simp only [List.getElem?_toArray, List.getElem?_cons_succ, List.getElem?_cons_zero]; rfl
    case sw787_5 => rfl
    case yw787_5 => (intro w hSw; (try dsimp only at hSw); go_simp <;> with_reducible rfl)
    try simp only [Act.put, List.setIfInBounds_toArray, List.set_cons_zero, List.set_cons_succ]
    refine hR.all (by kernel_rfl) ?_ _
    refine NoPanic.normal ?_
    go_wp2_with fail
    go_meet
    case rel => exact ⟨_, _, rfl, H1.out.sub (fun _ _ _ => trivial), bC.out⟩
  obtain ⟨A8, c8, rfl, hs, hb⟩ := hcut
  obtain ⟨w9, hwv⟩ : ∃ x, x = wc := ⟨_, rfl⟩
  subst hwv
  have I8 := Lib.hid hs
  have b9 := Lib.hid (b8.out.trans (hb.mono b8.out.size))
  replace F3 := mvF F3 hb
  replace gx := mvQ gx hb
  replace Ss := mvSt Ss hb
  replace St := mvSt St hb
  replace I5 := mvI I5 hb
  replace I6 := mvI I6 hb
  replace I7 := mvI I7 hb
  clear hs hb b8 za zb zx ga gb HLa HGa HLb HGb lga lgb lgx
  clear gx F3 Ss St
  have hnn : ((N : Int) != (N : Int)) = false := by simp
  go_wp2_with fail
  go_loopw [15] (fun i wr => ∃ v : Nat, v ≤ N ∧ i = .int .i64 v ∧ Hid (Below w9.heap.size w9 wr)) (fun i _ => N - (intOf i).toNat)
  case atStart => exact ⟨0, Nat.zero_le _, rfl, Lib.hid (Below.refl _ _)⟩
  case round =>
    obtain ⟨v, hv, rfl, hbr⟩ := hrel
    have hkr := hbr.out
    have hv0 : (0 : Int) ≤ (v : Int) := by omega
    by_cases hlt : v < N
    · have hv1 : (v : Int) < (N : Int) := by omega
      have ha := total_bd2 HV.out HOKs.out hls1000 v
      have hb := total_bd2 HV.out HOKt.out hlt1000 v
      have xa := sums_at HXxs.out HNxs.out hlt
      have xb := sums_at HXys.out HNys.out hlt
      have xc : zs[v]? = some (totalF x (liveF s) v + totalF x (liveF t) v) := by rw [sums_at HXzs.out HNzs.out hlt, ← HJs.out, joinS_live HOKs.out, total_app]
      have xd : us[v]? = some (totalF x (liveF s) v + totalF x (liveF t) v) := by rw [sums_at HXus.out HNus.out hlt, ← HJt.out, joinS_live HOKt.out, total_app, Int.add_comm]
      generalize totalF x (liveF s) v = av at ha xa xc xd
      generalize totalF x (liveF t) v = bv at hb xb xc xd
      have hw : IntKind.i64.wrap (av + bv) = av + bv := IntWalk.i64_in _ (by omega)
      obtain ⟨e, he⟩ : ∃ e, av + bv = e := ⟨_, rfl⟩
      rw [he] at hw xc xd
      obtain ⟨b5, o5, rfl, -, l5, v5⟩ := i64_at (mvI I5 hkr).out xa
      obtain ⟨b6, o6, rfl, -, l6, v6⟩ := i64_at (mvI I6 hkr).out xb
      obtain ⟨b7, o7, rfl, -, l7, v7⟩ := i64_at (mvI I7 hkr).out xc
      obtain ⟨b8, o8, rfl, -, l8, v8⟩ := i64_at (mvI I8 hkr).out xd
      have hee : (e != e) = false := by simp
      clear xa xb xc xd ha hb
      go_wp2_with fail
      go_quiet (fail)
      go_wp2_with fail
      go_roundw
      case rel => exact ⟨v + 1, by omega, by go_num, Lib.hid (below_drewN hkr _)⟩
      case measure => simp [intOf]; omega
    · have hv1 : ¬ (v : Int) < (N : Int) := by omega
      go_wp2_with fail
      go_ret
      exact ⟨rfl, b9.out.trans (hkr.mono b9.out.size)⟩
end Go.Proofs.YtmkpaolbejlodaaDoor
