/-
  Texts of this claim, merged: Tp3. Conditions: as each theorem says.
-/
import Derived.Test.YtagadbdbbglddaaGreatDoorU1
import Derived.Test.YtagadbdbbglddaaGreatDoorU2
import Derived.Test.YtagadbdbbglddaaGreatDoorU3
import Derived.Test.YtagadbdbbglddaaGreatDoorU4
import Derived.Test.YtagadbdbbglddaaGreatDoorU5
import Derived.Test.YtagadbdbbglddaaGreatDoorU6
import Derived.Test.YtagadbdbbglddaaGreatDoorU7
import Derived.Test.YtagadbdbbglddaaGreatDoorU8
import Derived.Test.YtagadbdbbglddaaGreatDoorU9
import Derived.Test.YtagadbdbbglddaaGreatDoorU10
import Derived.Test.YtagadbdbbglddaaGreatDoorU11
import Derived.Test.YtagadbdbbglddaaGreatDoorU12
import Derived.Test.YtagadbdbbglddaaGreatDoorU13
import Derived.Test.YtagadbdbbglddaaGreatDoorU14
import Derived.Test.YtagadbdbbglddaaGreatDoorU15
import Derived.Test.YtagadbdbbglddaaGreatDoorU16
import Derived.Test.YtagadbdbbglddaaGreatDoorU17
import Derived.Test.YtagadbdbbglddaaGreatDoorU18
import Derived.Test.YtagadbdbbglddaaGreatDoorU19
import Derived.Test.YtagadbdbbglddaaGreatDoorU20
import Derived.Test.YtagadbdbbglddaaGreatDoorShelf
import Derived.Test.YtagadbdbbglddaaGreatDoorU22
import Derived.Test.YtagadbdbbglddaaGreatDoorU23
import Derived.Test.YtagadbdbbglddaaGreatDoorU24
import Derived.Test.YtagadbdbbglddaaGreatDoorU25
import Derived.Test.YtagadbdbbglddaaGreatDoorU26
import Derived.Test.YtagadbdbbglddaaGreatDoorU27
set_option linter.unusedSimpArgs false
set_option linter.unusedVariables false
namespace Go.Proofs.YtagadbdbbglddaaGreatDoor
open Go.RowKit

theorem rdOf_enc {r : Rd} (h : ValidR r) : rdOf (byteF (r.who + 16 * r.knd)) (byteF r.whn) (byteF r.val) = r := by
  obtain ⟨⟨h1, h2⟩, ⟨h3, h4⟩, ⟨h5, h6⟩, h7, h8⟩ := h
  have e : ∀ (n : Int), 0 ≤ n → n < 256 → ((byteF n).toNat : Int) = n := fun n h0 h1 => by
    unfold byteF; simp; omega
  have e1 := e (r.who + 16 * r.knd) (by omega) (by omega)
  have e2 := e r.whn (by omega) (by omega)
  have e3 := e r.val (by omega) (by omega)
  unfold rdOf
  refine Rd.ext_ ?_ ?_ ?_ ?_ <;> simp only <;> omega
theorem decodeE {r : Rd} {S : Nat → Prop} {A : Option Addr} {c : Nat} (hr : ValidR r) (w : World) (h : Sl .u8 S w A c (encodeF r)) :
    Calls Tryz.prog 13 #[.slice A 3 c] w fun e w' => e = .returned (.tuple #[.agg #[.int .i64 r.who, .int .i64 r.whn, .int .i64 r.knd, .int .i64 r.val], .int .i64 0]) ∧ Below w.heap.size w w' := by
  have := decodeP _ _ _ w h
  rw [rdOf_enc hr] at this
  exact this
/-- The second stream's box, its readings in a row of the call's own. -/
structure TSt (w0 : World) (v gv : Value) (ys : List Rd) (wx : World) : Prop where
  bel : Below w0.heap.size w0 wx
  row : wx.heap[w0.heap.size]? = some (.cells #[v, gv] 31 (0, 0))
  own : Own rdE (fun _ => False) wx (w0.heap.size + 1) 46 v ys
theorem TSt.call {w0 wx w' : World} {v gv : Value} {ys : List Rd} (h : TSt w0 v gv ys wx) (hb : Below wx.heap.size wx w') : TSt w0 v gv ys w' :=
  ⟨h.bel.trans (hb.mono h.bel.size), (hb.block _ (heap_lt h.row)).trans h.row, h.own.call hb⟩
theorem TSt.app {w0 wx w6 : World} {v gv v' : Value} {ys zs : List Rd} {o : Obj} {S : Nat → Prop} (h : TSt w0 v gv ys wx) (ho : Own rdE S w6 (w0.heap.size + 1) 46 v' zs) (hg : (wx.alloc o).grownBy w6 v.ownBlock) : TSt w0 v' gv zs (w6.setCell ⟨w0.heap.size, 0, none⟩ v') := by
  have hl := heap_lt h.row
  have hz := hg.size
  simp at hz
  have hb := h.bel.size
  have hlo := h.own.lt
  have hlo' := ho.lt
  refine ⟨((h.bel.alloc hb o).grown hg (by simp; omega) fun k hk => by have := (hlo k hk).1; omega).setCell (Nat.le_refl _) _, heap_set (i := 0) ((hg.block _ (by simp; omega) (fun e => by have := (hlo _ e.symm).1; omega)).trans ((Below.heap_alloc _ _ _ hl).trans h.row)), (ho.flat rdE_flat).set (fun e => by have := (hlo' _ e).1; dsimp only at this; omega) (fun h => h) _⟩
set_option maxRecDepth 100000 in
set_option maxHeartbeats 8000000 in
theorem walk_TopParsedQueriesAnswerAlike {q : Qy} {l : List ROp} {A L : Option Addr} {c cl : Nat} (w : World) (hw : WidOk w) (ht : TabOk w) (h : Sl cdE.slice (fun _ => True) w A c q.fs) (hl : Sl ropE (fun _ => True) w L cl l) :
    Calls Tryz.prog 4 #[(.agg #[.int .i64 q.kind, .int .i64 q.col, .int .i64 q.k, .slice A q.fs.length c]), .slice L l.length cl] w fun e w' => e = .returned (.bool true) ∧ Below w.heap.size w w' := by
  have HW := Lib.hid hw
  have HT := Lib.hid ht
  have H := Lib.hid h
  have HL := Lib.hid hl
  have hm := h.max
  have hml := hl.max
  clear hw ht h hl
  go_enter Tryz.func4, Tryz.ntmps4
  go_upto_region 1 with fail
  refine wp_world (F := fun wx => Below w.heap.size w wx ∧ Hid (wx.heap[w.heap.size]? = some (.cells #[.int .i64 q.kind, .int .i64 q.col, .int .i64 q.k, .slice A q.fs.length c] 24 (0, 0)))) ⟨(by repeat' (first | with_reducible exact Below.refl _ _ | with_reducible assumption | with_reducible refine Below.setCell ?_ ?_ _ | with_reducible refine Below.drew ?_ | with_reducible refine below_drewN ?_ _ | with_reducible refine Below.alloc ?_ ?_ _ | (rintro _ ⟨⟩; simp <;> omega) | omega | (simp <;> omega))), Lib.hid (heap_alloc_at rfl)⟩ ?_
  rintro w1 ⟨bb, gq⟩
  have b1 := Lib.hid bb
  have W1 := mvW HW bb
  have T1 := mvT HT bb
  clear bb HW HT
  go_upto_region 2 with (go_at_call 5; refine (sanity15P _ W1.out).mono ?_; rintro e w2 ⟨rfl, hb2⟩; have b2 := Lib.hid (b1.out.trans (hb2.mono b1.out.size)); have gq2 := mvQ gq hb2; have T2 := mvT T1 hb2; clear hb2)
  obtain ⟨x0, x1, x2, x3⟩ := row4 gq2
  have H2 := Lib.hid (H.out.keep (Below.agree b2.out))
  have HL2 := Lib.hid (HL.out.keep (Below.agree b2.out))
  clear gq b1 H HL W1 T1
  go_cut [6] (fun p wx => ∃ (g : Nat) (x : Qy) (B : Option Addr) (d : Nat), p = .pointer (some ⟨g, 0, none⟩) ∧ ValidQ x ∧ wideB x = false ∧ Hid (wx.heap[g]? = some (.cells #[.int .i64 x.kind, .int .i64 x.col, .int .i64 x.k, .slice B x.fs.length d] 24 (0, 0))) ∧ Sl cdE.slice (fun _ => True) wx B d x.fs ∧ Below w2.heap.size w2 wx)
  case first =>
    go_wp2_with (go_at_call 6; refine (made15P (q := q) _ H2.out).mono ?_; rintro e wC ⟨x, hv, hnw, B, d, rfl, hs, hbC⟩; have HC := Lib.hid hs; have bC := Lib.hid hbC; have HV := Lib.hid hv; have HN := Lib.hid hnw; clear hs hbC hv hnw)
    go_meet
    case rel => exact ⟨_, x, B, d, rfl, HV.out, HN.out, Lib.hid (heap_alloc_at rfl), (HC.out.sub (fun _ _ _ => trivial)).keep ((Agree.refl _ _).alloc _), bC.out.alloc bC.out.size _⟩
  obtain ⟨g, x, B, d, rfl, hv, hnw, gx, hs, hb⟩ := hcut
  obtain ⟨w3, hwv⟩ : ∃ x, x = wc := ⟨_, rfl⟩
  subst hwv
  have HV := Lib.hid hv
  have HNW := Lib.hid hnw
  have b3 := Lib.hid (b2.out.trans (hb.mono b2.out.size))
  have F3 := Lib.hid hs
  have T3 := mvT T2 hb
  have HL3 := Lib.hid (HL2.out.keep (Below.agree hb))
  clear hv hnw hs hb x0 x1 x2 x3 gq2 b2 H2 HL2 T2
  obtain ⟨s, hs⟩ : ∃ s, madeF 24 l = s := ⟨_, rfl⟩
  have hok := madeF_ok 24 l
  rw [hs] at hok
  have HMS := Lib.hid hs
  have HOK := Lib.hid hok.1
  have hl24 := hok.2
  have hl1000 : s.l.length ≤ 1000 := by omega
  clear hs hok
  go_upto_region 3 with fail
  go_cut [7] (fun p wx => ∃ g, p = .pointer (some ⟨g, 0, none⟩) ∧ StB wx g s s.l.length s.g.length ∧ Below w3.heap.size w3 wx)
  case first =>
    go_wp2_with (go_at_call 7; refine (madeR (most := 24) (l := l) _ HL3.out (by omega)).mono ?_; rw [HMS.out]; rintro e wC ⟨A', c', B', d', rfl, h1, h2, hbC⟩; have H1 := Lib.hid h1; have H2 := Lib.hid h2; have bC := Lib.hid hbC; clear h1 h2 hbC)
    go_meet
    case rel => exact ⟨_, rfl, ⟨A', c', B', d', heap_alloc_at rfl, (H1.out.alloc_ _).sub (fun _ _ _ => trivial), (H2.out.alloc_ _).sub (fun _ _ _ => trivial)⟩, bC.out.alloc bC.out.size _⟩
  obtain ⟨gs, rfl, hst, hb⟩ := hcut
  obtain ⟨w4, hwv⟩ : ∃ x, x = wc := ⟨_, rfl⟩
  subst hwv
  have S4 := Lib.hid hst
  have b4 := Lib.hid (b3.out.trans (hb.mono b3.out.size))
  have F4 := Lib.hid (F3.out.keep (Below.agree hb))
  have T4 := mvT T3 hb
  replace gx := mvQ gx hb
  clear hst hb b3 F3 HL3 T3
  obtain ⟨x0, x1, x2, x3⟩ := row4 gx
  go_upto_region 4 with fail
  go_cut [8, 10] (fun p e wx => ∃ (g : Nat) (B : Option Addr) (d : Nat), p = .pointer (some ⟨g, 0, none⟩) ∧ e = .int .i64 0 ∧ Hid (wx.heap[g]? = some (.cells #[.int .i64 x.kind, .int .i64 x.col, .int .i64 x.k, .slice B x.fs.length d] 24 (0, 0))) ∧ Sl cdE.slice (fun _ => True) wx B d x.fs ∧ Below w4.heap.size w4 wx)
  case first =>
    go_wp2_with (first
      | (go_at_call 12; refine (formatP (q := x) _ T4.out HV.out F4.out).mono ?_; rintro e wB ⟨rfl, hbB⟩; have bB := Lib.hid hbB; clear hbB)
      | (go_at_call 11; refine (parseP (bs := fmtF x) (q := x) _ (fmt_len HV.out) (text_q HV.out) rfl).mono ?_; rintro e wC ⟨B2, d2, rfl, hs, hbC⟩; have HC := Lib.hid hs; have bC := Lib.hid (bB.out.trans (hbC.mono bB.out.size)); clear hs hbC))
    go_meet
    case rel => exact ⟨_, B2, d2, rfl, rfl, Lib.hid (heap_alloc_at rfl), (HC.out.sub (fun _ _ _ => trivial)).keep ((Agree.refl _ _).alloc _), bC.out.alloc bC.out.size _⟩
  obtain ⟨ga, B5, d5, rfl, rfl, gy, hs, hb⟩ := hcut
  obtain ⟨w5, hwv⟩ : ∃ x, x = wc := ⟨_, rfl⟩
  subst hwv
  have FY5 := Lib.hid hs
  have F5 := Lib.hid (F4.out.keep (Below.agree hb))
  have S5 := mvSt S4 hb
  have b5 := Lib.hid (b4.out.trans (hb.mono b4.out.size))
  replace gx := mvQ gx hb
  clear hs hb b4 F4 S4 T4 x0 x1 x2 x3
  obtain ⟨L5, cl5, G5, cg5, hg, hsL, hsG⟩ := S5.out
  obtain ⟨n, hn⟩ : ∃ n, s.l.length = n := ⟨_, rfl⟩
  have HNN := Lib.hid hn
  rw [hn] at hg
  obtain ⟨s0, s1⟩ := two2 (Lib.hid hg)
  have HGS := Lib.hid hg
  have HSL := Lib.hid hsL
  have HSG := Lib.hid hsG
  have lgs := heap_lt hg
  clear hg hsL hsG
  go_upto_region 8 with fail
  refine wp_world (F := fun wx => Hid (TSt w5 (.slice none 0 0) (.slice G5 s.g.length cg5) [] wx)) (Lib.hid ⟨(by repeat' (first | with_reducible exact Below.refl _ _ | with_reducible assumption | with_reducible refine Below.setCell ?_ ?_ _ | with_reducible refine Below.drew ?_ | with_reducible refine below_drewN ?_ _ | with_reducible refine Below.alloc ?_ ?_ _ | (rintro _ ⟨⟩; simp <;> omega) | omega | (simp <;> omega))), heap_alloc_at rfl, Own.nil_ _ _ _ _ _⟩) ?_
  intro w6 S6
  clear s0 s1
  go_wp2_with fail
  go_loopw [12] (fun i wr => ∃ (j : Nat) (A1 : Option Addr) (c1 : Nat), j ≤ n ∧ i = .int .i64 j ∧ Hid (TSt w5 (.slice A1 j c1) (.slice G5 s.g.length cg5) (s.l.take j) wr)) (fun i _ => n - (intOf i).toNat)
  case atStart => exact ⟨0, none, 0, Nat.zero_le _, rfl, S6⟩
  case round =>
    obtain ⟨j, A1, c1, hj, rfl, HS⟩ := hrel
    have hj0 : (0 : Int) ≤ (j : Int) := by omega
    have hjl : (s.l.take j).length = j := by rw [List.length_take, HNN.out]; omega
    have HGR := mvQ HGS HS.out.bel
    obtain ⟨s0, s1⟩ := two2 HGR
    by_cases hlt : j < n
    · have hj1 : (j : Int) < (n : Int) := by omega
      obtain ⟨r, hr⟩ : ∃ r, s.l[j]? = some r := ⟨_, List.getElem?_eq_getElem (by rw [HNN.out]; exact hlt)⟩
      have HR := Lib.hid (HOK.out.valid r (List.mem_of_getElem? hr))
      have HTK := Lib.hid (take_snocR hr)
      obtain ⟨b1, o1, rfl, -, l1, y0, y1, y2, y3⟩ := rd_at (HSL.out.keep (Below.agree HS.out.bel)) hr
      clear hr
      have lo := HS.out.own.lt
      have hz := HS.out.bel.size
      have lb1 := l1
      go_upto_region 12 with (first
        | (go_at_call 14; refine (encodeP r _ HR.out).mono ?_; rintro e wE ⟨AE, cE, rfl, hsE, hbE⟩; have HSE := Lib.hid hsE; have HBE := Lib.hid hbE; clear hsE hbE)
        | (go_at_call 13; refine (decodeE HR.out _ HSE.out).mono ?_; rintro e wD ⟨rfl, hbD⟩; have HBD := Lib.hid (HBE.out.trans (hbD.mono HBE.out.size)); clear hbD))
      refine wp_world (F := fun wx => Hid (TSt w5 (.slice A1 j c1) (.slice G5 s.g.length cg5) (s.l.take j) wx) ∧ Hid (wx.heap[wD.heap.size]? = some (.cells #[.int .i64 r.who, .int .i64 r.whn, .int .i64 r.knd, .int .i64 r.val] 46 (0, 0)))) ⟨Lib.hid (HS.out.call (HBD.out.alloc HBD.out.size _)), Lib.hid (heap_alloc_at rfl)⟩ ?_
      rintro w9 ⟨S9, R9⟩
      obtain ⟨gr, hgr⟩ : ∃ x, x = wD.heap.size := ⟨_, rfl⟩
      rw [← hgr] at R9 ⊢
      clear hgr s0 s1 y0 y1 y2 y3 HGR HS HSE HBE HBD
      obtain ⟨y0, y1, y2, y3⟩ := row4 R9
      obtain ⟨s0, s1⟩ := two2 (Lib.hid S9.out.row)
      have lo9 := S9.out.own.lt
      have hz9 := S9.out.bel.size
      have lt9 := heap_lt S9.out.row
      go_wp2_with (at_builtin; go_must ((refine wpList_append_E (E := rdE) (S := fun b => b = w9.heap.size) rfl (.tmp 54) (.tmp 56) rfl rdsT (base := w5.heap.size + 1) (v := .slice A1 j c1) (xs := s.l.take j) (ys := [r]) (by rfl) (by rfl) rfl (nz := j + 1) (by rw [List.length_append, hjl]; rfl) ((S9.out.own.flat rdE_flat).alloc _) (Sl.litAt (S := fun b => b = w9.heap.size) rfl (.single rdE_shut) (by unfold maxLen; simp) (fun _ h _ => h) rfl) (by unfold maxLen; rw [hjl]; simp; omega) (by rw [hjl]; simp; omega) (by simp; omega) (fun g' hg' (hs : g' = w9.heap.size) => absurd (lo9 g' hg').2 (by omega)) ?_; intro A6 c6 w7 hown6 hg6 hor6; have hzs := hg6.size; simp at hzs; have HF := Lib.hid (S9.out.app hown6 hg6); have HR7 := Lib.hid ((hg6.block w5.heap.size (by simp; omega) (fun e => by have := (lo9 _ e.symm).1; omega)).trans ((Below.heap_alloc _ _ _ lt9).trans S9.out.row)); obtain ⟨t0, t1⟩ := two2 HR7; have ft := frz HR7.out; have lt7 := heap_lt HR7.out; clear hown6 hg6 hor6)))
      go_roundw
      case rel => exact ⟨j + 1, A6, c6, by omega, by go_num, Lib.hid (by rw [HTK.out]; exact HF.out)⟩
      case measure => simp [intOf]; omega
    · have hj1 : ¬ (j : Int) < (n : Int) := by omega
      obtain rfl : j = n := by omega
      have htk : s.l.take j = s.l := by rw [← HNN.out]; exact List.take_length
      rw [htk] at HS
      clear htk hjl
      have HTS := Lib.hid (HS.out.own.toSl (T := fun _ => True) (fun _ h _ => h.elim) (fun _ _ _ _ => trivial))
      have bR := Lib.hid (b5.out.trans (HS.out.bel.mono b5.out.size))
      have gyR := mvQ gy HS.out.bel
      have gxR := mvQ gx HS.out.bel
      have FR := mvF F5 HS.out.bel
      have FYR := mvF FY5 HS.out.bel
      have SLR := Lib.hid (HSL.out.keep (Below.agree HS.out.bel))
      have SGR := Lib.hid (HSG.out.keep (Below.agree HS.out.bel))
      have HTR := Lib.hid HS.out.row
      obtain ⟨xs, hxs⟩ : ∃ xs, sumsF x (liveF s) = xs := ⟨_, rfl⟩
      obtain ⟨ys, hys⟩ : ∃ ys, resF x xs = ys := ⟨_, rfl⟩
      have HXS := Lib.hid hxs
      have HYS := Lib.hid hys
      clear hxs hys HS gx gy F5 FY5 HSL HSG HGS S5 b5
      obtain ⟨x0, x1, x2, x3⟩ := row4 gxR
      go_upto_region 15 with fail
      go_cut [15] (fun p wx => ∃ g, p = .pointer (some ⟨g, 0, none⟩) ∧ An wx g xs ys xs.length ys.length ∧ Below wr.heap.size wr wx)
      case first =>
        go_wp2_with (go_at_call 15; refine (answerN (q := x) (s := s) HXS.out HYS.out rfl rfl rfl HNN.out rfl _ HV.out HNW.out HOK.out hl1000 FR.out SLR.out SGR.out).mono ?_; rintro e wC ⟨A, c, B, d, rfl, h1, h2, hbC⟩; have H1 := Lib.hid h1; have H2 := Lib.hid h2; have bC := Lib.hid hbC; clear h1 h2 hbC)
        go_meet
        case rel => exact ⟨_, rfl, ⟨A, c, B, d, heap_alloc_at rfl, (H1.out.alloc_ _).sub (fun _ _ _ => trivial), (H2.out.alloc_ _).sub (fun _ _ _ => trivial)⟩, bC.out.alloc bC.out.size _⟩
      obtain ⟨g15, rfl, ha, hb⟩ := hcut
      obtain ⟨wa, hwv⟩ : ∃ x, x = wc := ⟨_, rfl⟩
      subst hwv
      have A15 := Lib.hid ha
      have bA := Lib.hid (bR.out.trans (hb.mono bR.out.size))
      replace gyR := mvQ gyR hb
      replace FYR := mvF FYR hb
      replace HTR := mvQ HTR hb
      have HTSA := Lib.hid (HTS.out.keep (Below.agree hb))
      have SGA := Lib.hid (SGR.out.keep (Below.agree hb))
      clear ha hb bR x0 x1 x2 x3 s0 s1 gxR FR SLR SGR HTS
      obtain ⟨x0, x1, x2, x3⟩ := row4 gyR
      obtain ⟨s0, s1⟩ := two2 HTR
      go_upto_region 16 with fail
      go_cut [16] (fun p wx => ∃ g, p = .pointer (some ⟨g, 0, none⟩) ∧ An wx g xs ys xs.length ys.length ∧ Below wa.heap.size wa wx)
      case first =>
        go_wp2_with (go_at_call 15; refine (answerN (q := x) (s := s) HXS.out HYS.out rfl rfl rfl HNN.out rfl _ HV.out HNW.out HOK.out hl1000 FYR.out HTSA.out SGA.out).mono ?_; rintro e wC ⟨A, c, B, d, rfl, h1, h2, hbC⟩; have H1 := Lib.hid h1; have H2 := Lib.hid h2; have bC := Lib.hid hbC; clear h1 h2 hbC)
        go_meet
        case rel => exact ⟨_, rfl, ⟨A, c, B, d, heap_alloc_at rfl, (H1.out.alloc_ _).sub (fun _ _ _ => trivial), (H2.out.alloc_ _).sub (fun _ _ _ => trivial)⟩, bC.out.alloc bC.out.size _⟩
      obtain ⟨g16, rfl, ha, hb⟩ := hcut
      obtain ⟨wb, hwv⟩ : ∃ x, x = wc := ⟨_, rfl⟩
      subst hwv
      have A16 := Lib.hid ha
      replace A15 := mvAn A15 hb
      have bB := Lib.hid (bA.out.trans (hb.mono bA.out.size))
      clear ha hb bA x0 x1 x2 x3 s0 s1
      obtain ⟨P15, p15, Q15, r15, y, sA, sB⟩ := A15.out
      have Y15 := Lib.hid y
      have SA15 := Lib.hid sA
      have SB15 := Lib.hid sB
      obtain ⟨u15, v15⟩ := two2 Y15
      have ly15 := heap_lt y
      clear y sA sB A15
      obtain ⟨P16, p16, Q16, r16, y, sA, sB⟩ := A16.out
      have Y16 := Lib.hid y
      have SA16 := Lib.hid sA
      have SB16 := Lib.hid sB
      obtain ⟨u16, v16⟩ := two2 Y16
      have ly16 := heap_lt y
      clear y sA sB A16
      go_upto_region 17 with fail
      go_wp2_with (first
        | (go_at_call 16; refine (topSame (xs := xs) rfl _ SA15.out SA16.out).mono ?_; rintro e w1 ⟨rfl, hb1⟩; have HB1 := Lib.hid hb1; obtain ⟨hc1, hf1⟩ := bcell hb1; have SBA := Lib.hid (SB15.out.keep (Below.agree hb1)); have SBB := Lib.hid (SB16.out.keep (Below.agree hb1)); clear hb1)
        | (go_at_call 16; refine (topSame (xs := ys) rfl _ SBA.out SBB.out).mono ?_; rintro e w1 ⟨rfl, hb2⟩; have HB2 := Lib.hid (HB1.out.trans (hb2.mono HB1.out.size)); clear hb2))
      go_ret
      exact ⟨rfl, bB.out.trans (HB2.out.mono bB.out.size)⟩
end Go.Proofs.YtagadbdbbglddaaGreatDoor
