/-
  Texts of this claim, merged: Ev7, EvN. Conditions: as each theorem says.
-/
import Derived.Lib.Mul64
import Derived.Laws.Bits64b
import Derived.Shelf.Bits.Mul64
import Derived.Test.YtmkpaolbejlodaaDoorC1
import Derived.Test.YtmkpaolbejlodaaDoorC2
import Derived.Test.YtmkpaolbejlodaaDoorC3
import Derived.Test.YtmkpaolbejlodaaDoorC4
import Derived.Test.YtmkpaolbejlodaaDoorC5
import Derived.Test.YtmkpaolbejlodaaDoorC6
import Derived.Test.YtmkpaolbejlodaaDoorC7
import Derived.Test.YtmkpaolbejlodaaDoorC8
import Derived.Test.YtmkpaolbejlodaaDoorC9
import Derived.Test.YtmkpaolbejlodaaDoorC10
import Derived.Test.YtmkpaolbejlodaaDoorC11
import Derived.Test.YtmkpaolbejlodaaDoorC12
set_option linter.unusedSimpArgs false
set_option linter.unusedVariables false
namespace Go.Proofs.YtmkpaolbejlodaaDoor
open Go.RowKit

theorem live_len (s : Str) : (liveF s).length ≤ s.l.length := by
  unfold liveF
  rw [List.length_map]
  have h1 := List.length_filter_le (fun p : Rd × Bool => !p.2) (s.l.zip s.g)
  rw [List.length_zip] at h1
  omega
theorem live_valid {s : Str} (ok : OkStr s) : ∀ r ∈ liveF s, ValidR r := fun r hr => by
  unfold liveF at hr
  obtain ⟨p, hp, rfl⟩ := List.mem_map.1 hr
  exact ok.valid _ (List.of_mem_zip (List.mem_filter.1 hp).1).1
def AnsRes (w : World) (xs ys : List Int) (e : Ending) (w' : World) : Prop :=
  ∃ A c B d, e = .returned (.agg #[.slice A xs.length c, .slice B ys.length d]) ∧ Sl .i64 (fun b => w.heap.size ≤ b) w' A c xs ∧ Sl .i64 (fun b => w.heap.size ≤ b) w' B d ys ∧ Below w.heap.size w w'
theorem sumsE_new {q : Qy} {s : Str} {A L G : Option Addr} {cc cl cg : Nat} {S T U : Nat → Prop} (w : World) (hq : ValidQ q) (hw : wideB q = false) (ok : OkStr s) (hl : s.l.length ≤ 1000)
    (h : Sl cdE.slice S w A cc q.fs) (hL : Sl rdE T w L cl s.l) (hG : Sl .bool U w G cg s.g) :
    Calls Tryd.prog 13 #[(.agg #[.int .i64 q.kind, .int .i64 q.col, .int .i64 q.k, .slice A q.fs.length cc]), .agg #[.slice L s.l.length cl, .slice G s.g.length cg]] w (IntsNew w (sumsF q (liveF s))) :=
  (sumsE w hq hw ok hl h hL hG).mono fun _ _ h => h.new
set_option maxRecDepth 100000 in
set_option maxHeartbeats 2000000 in
theorem answerE {q : Qy} {s : Str} {A L G : Option Addr} {cc cl cg : Nat} {S T U : Nat → Prop} (w : World) (hq : ValidQ q) (hw : wideB q = false) (ok : OkStr s) (hl : s.l.length ≤ 1000)
    (h : Sl cdE.slice S w A cc q.fs) (hL : Sl rdE T w L cl s.l) (hG : Sl .bool U w G cg s.g) :
    Calls Tryd.prog 15 #[(.agg #[.int .i64 q.kind, .int .i64 q.col, .int .i64 q.k, .slice A q.fs.length cc]), .agg #[.slice L s.l.length cl, .slice G s.g.length cg]] w (AnsRes w (sumsF q (liveF s)) (resF q (sumsF q (liveF s)))) := by
  have HQ := Lib.hid hq
  have HW := Lib.hid hw
  have OK := Lib.hid ok
  have H := Lib.hid h
  have HL := Lib.hid hL
  have HG := Lib.hid hG
  obtain ⟨xs, hxs⟩ : ∃ xs, sumsF q (liveF s) = xs := ⟨_, rfl⟩
  have HR := Lib.hid (show ResOk q xs by rw [← hxs]; exact resOk_sums hq (Nat.le_trans (live_len s) hl))
  have hx32 : xs.length ≤ 1000 := by rw [← hxs, sumsF_len]; have := (nSums_le hq).1; omega
  rw [hxs]
  have HXS := Lib.hid hxs
  clear hq hw ok h hL hG hxs
  go_enter Tryd.func15, Tryd.ntmps15
  go_upto_region 1 with fail
  refine wp_world (F := fun wx => Below w.heap.size w wx ∧ Hid (wx.heap[w.heap.size]? = some (.cells #[.int .i64 q.kind, .int .i64 q.col, .int .i64 q.k, .slice A q.fs.length cc] 24 (0, 0))) ∧ Hid (wx.heap[w.heap.size + 1]? = some (.cells #[.slice L s.l.length cl, .slice G s.g.length cg] 31 (0, 0))) ∧ Hid (wx.heap[w.heap.size + 1 + 1]? = some (.cells #[.slice none 0 0, .slice none 0 0] 36 (0, 0)))) ⟨(by repeat' (first | with_reducible exact Below.refl _ _ | with_reducible assumption | with_reducible refine Below.setCell ?_ ?_ _ | with_reducible refine Below.drew ?_ | with_reducible refine below_drewN ?_ _ | with_reducible refine Below.alloc ?_ ?_ _ | (rintro _ ⟨⟩; simp <;> omega) | omega | (simp <;> omega))), Lib.hid ((Below.heap_alloc _ _ _ (by simp; omega)).trans ((Below.heap_alloc _ _ _ (by simp)).trans (heap_alloc_at rfl))), Lib.hid ((Below.heap_alloc _ _ _ (by simp)).trans (heap_alloc_at (by simp))), Lib.hid (heap_alloc_at (by simp))⟩ ?_
  rintro w1 ⟨bb, gq, gs, ga⟩
  have B1 := Lib.hid bb
  clear bb
  obtain ⟨q0, q1, q2, q3⟩ := row4 gq
  have s0 := cell_of_row _ _ 0 _ _ _ gs.out
  have s1 := cell_of_row _ _ 1 _ _ _ gs.out
  simp only [List.getElem?_toArray, List.getElem?_cons_zero, List.getElem?_cons_succ] at s0 s1
  go_upto_region 2 with (go_at_call 13; refine (sumsE_new (q := q) (s := s) _ HQ.out HW.out OK.out hl (H.out.keep (Below.agree B1.out)) (HL.out.keep (Below.agree B1.out)) (HG.out.keep (Below.agree B1.out))).mono ?_; rw [HXS.out]; rintro e w2 ⟨A2, c2, rfl, hs2, hb2⟩; have HS2 := Lib.hid hs2; have HB2 := Lib.hid hb2; clear hs2 hb2)
  have gq2 := mvQ gq HB2.out
  have ga2 := mvQ ga HB2.out
  have lga := heap_lt ga.out
  clear q0 q1 q2 q3 s0 s1 gq gs ga
  obtain ⟨q0, q1, q2, q3⟩ := row4 gq2
  have a0 := cell_of_row _ _ 0 _ _ _ ga2.out
  have a1 := cell_of_row _ _ 1 _ _ _ ga2.out
  simp only [List.getElem?_toArray, List.getElem?_cons_zero, List.getElem?_cons_succ] at a0 a1
  have B2 := Lib.hid (B1.out.trans (HB2.out.mono B1.out.size))
  have hz1 := B1.out.size
  have hz2 := HB2.out.size
  go_wp2_with (go_at_call 18; refine (resultE (q := q) (xs := xs) _ HR.out hx32 (HS2.out.sub (T := fun b => w1.heap.size ≤ b) (fun _ h _ => h))).mono ?_; rintro e w3 ⟨A3, c3, rfl, hs3, hb3⟩; have HS3 := Lib.hid hs3; have HB3 := Lib.hid hb3; have ga3 := mvQ ga2 hb3; have v0 := cell_of_row _ _ 0 _ _ _ ga3.out; have v1 := cell_of_row _ _ 1 _ _ _ ga3.out; simp only [List.getElem?_toArray, List.getElem?_cons_zero, List.getElem?_cons_succ] at v0 v1; have fa := frz ga3.out; have la := heap_lt ga3.out; clear hs3 hb3)
  have hb3 := B2.out.trans (HB3.out.mono B2.out.size)
  refine bodyPost_ret (v := .agg #[.slice A2 xs.length c2, .slice A3 (resF q xs).length c3]) (by simp [results, Tryd.results15, go_sem, *]) rfl ⟨A2, c2, A3, c3, rfl, ?_, ?_, (by repeat' (first | with_reducible exact Below.refl _ _ | with_reducible assumption | with_reducible refine Below.trans ?_ (Below.mono hb3 ?_) | with_reducible refine Below.setCell ?_ ?_ _ | with_reducible refine Below.drew ?_ | with_reducible refine below_drewN ?_ _ | with_reducible refine Below.alloc ?_ ?_ _ | (rintro _ ⟨⟩; simp <;> omega) | omega | (simp <;> omega)))⟩
  · exact ((HS2.out.call_ HB3.out).keep (by repeat' (first | with_reducible exact Agree.refl _ _ | with_reducible assumption | with_reducible refine Agree.set ?_ ?_ _ | with_reducible refine Agree.alloc ?_ _ | with_reducible refine Agree.drew ?_ | with_reducible refine Agree.drewN ?_ _ | omega | (simp <;> omega)))).sub (fun b hb _ => Nat.le_trans hz1 hb)
  · exact (HS3.out.keep (w := w3) (by repeat' (first | with_reducible exact Agree.refl _ _ | with_reducible refine Agree.set ?_ ?_ _ | (rintro (h | h) <;> simp at h <;> omega)))).sub (fun b hb _ => by rcases hb with h | h <;> omega)
set_option maxRecDepth 100000 in
set_option maxHeartbeats 4000000 in
theorem made15P {q : Qy} {A : Option Addr} {cc : Nat} {S : Nat → Prop} (w : World) (h : Sl cdE.slice S w A cc q.fs) : Calls Tryd.prog 11 #[(.agg #[.int .i64 q.kind, .int .i64 q.col, .int .i64 q.k, .slice A q.fs.length cc])] w (QyRes (fun x => wideB x = false) w) := by
  have H := Lib.hid h
  clear h
  go_enter Tryd.func11, Tryd.ntmps11
  go_upto_region 1 with fail
  refine wp_world (F := fun wx => Below w.heap.size w wx ∧ Hid (wx.heap[w.heap.size]? = some (.cells #[.int .i64 q.kind, .int .i64 q.col, .int .i64 q.k, .slice A q.fs.length cc] 24 (0, 0))) ∧ Hid (wx.heap[w.heap.size + 1]? = some (.cells #[.int .i64 0, .int .i64 0, .int .i64 0, .slice none 0 0] 24 (0, 0)))) ⟨(by repeat' (first | with_reducible exact Below.refl _ _ | with_reducible assumption | with_reducible refine Below.setCell ?_ ?_ _ | with_reducible refine Below.drew ?_ | with_reducible refine below_drewN ?_ _ | with_reducible refine Below.alloc ?_ ?_ _ | (rintro _ ⟨⟩; simp <;> omega) | omega | (simp <;> omega))), Lib.hid ((Below.heap_alloc _ _ _ (by simp)).trans (heap_alloc_at rfl)), Lib.hid (heap_alloc_at (by simp))⟩ ?_
  rintro w1 ⟨bb, gq, gr⟩
  have B1 := Lib.hid bb
  obtain ⟨q0, q1, q2, q3⟩ := row4 gq
  have H1 := Lib.hid (H.out.keep (Below.agree bb))
  clear bb H
  go_cut [3] (fun p wx => ∃ (g : Nat) (x : Qy) (B : Option Addr) (d : Nat), p = .pointer (some ⟨g, 0, none⟩) ∧ Hid (ValidQ x) ∧ Hid (wx.heap[g]? = some (.cells #[.int .i64 x.kind, .int .i64 x.col, .int .i64 x.k, .slice B x.fs.length d] 24 (0, 0))) ∧ Hid (Sl cdE.slice (fun b => w1.heap.size ≤ b ∧ b < g) wx B d x.fs) ∧ w1.heap.size ≤ g ∧ Hid (Below w1.heap.size w1 wx))
  case first =>
    go_wp2_with (go_at_call 30; refine (made13P (q := q) _ H1.out).mono ?_; rintro e wC ⟨x, hv, -, B, d, rfl, hs, hbC⟩; have HC := Lib.hid hs; have bC := Lib.hid hbC; have HV := Lib.hid hv; clear hs hbC hv)
    go_meet
    case rel => exact ⟨_, x, B, d, rfl, HV, Lib.hid (heap_alloc_at rfl), Lib.hid (HC.out.old.keep ((Agree.refl _ _).alloc _)), bC.out.size, Lib.hid (bC.out.alloc bC.out.size _)⟩
  obtain ⟨g, x, B, d, rfl, HV, gx, HS, hg, HB⟩ := hcut
  obtain ⟨w2, hwv⟩ : ∃ x, x = wc := ⟨_, rfl⟩
  subst hwv
  have gr2 := mvQ gr HB.out
  have lgr := heap_lt gr.out
  have lgx := heap_lt gx.out
  clear q0 q1 q2 q3 gq H1 gr
  obtain ⟨q0, q1, q2, q3⟩ := row4 gx
  have fx := frz gx.out
  obtain ⟨ca, hca, hca3⟩ : ∃ r : Nat, bits BinOp.and IntKind.i64 x.col 1 = (r : Int) ∧ r ≤ 1 := and_bd x.col 1 (by omega)
  have hcw : wrap64 (2 * (ca : Int)) = 2 * (ca : Int) := IntWalk.wrap64_in _ (by omega)
  have hcw2 : IntKind.i64.wrap (2 * (ca : Int)) = 2 * (ca : Int) := IntWalk.i64_in _ (by omega)
  (first | go_values | go_skip | go_guarded | go_step | go_upon | go_back)
  (first | go_values | go_skip | go_guarded | go_step | go_upon | go_back)
  go_cut [3] (fun p wx => ∃ y : Qy, p = .pointer (some ⟨g, 0, none⟩) ∧ Hid (ValidQ y) ∧ Hid (wideB y = false) ∧ Hid (y.fs = x.fs) ∧ Hid (wx.heap[g]? = some (.cells #[.int .i64 y.kind, .int .i64 y.col, .int .i64 y.k, .slice B x.fs.length d] 24 (0, 0))) ∧ Hid (Gk g w2 wx))
  case first =>
    obtain ⟨⟨hk1, hk7⟩, ⟨hc0, hc3⟩, hc, hk0, hkm, hk36, hfl⟩ := HV.out.head
    by_cases h46 : 4 ≤ x.kind ∧ x.kind ≤ 6
    · have HH := Lib.hid (show HeadOk ⟨x.kind, 2 * (ca : Int), x.k, x.fs⟩ from ⟨⟨hk1, hk7⟩, ⟨by dsimp only; omega, by dsimp only; omega⟩, .inr ⟨by dsimp only; omega, by dsimp only; omega⟩, hk0, hkm, hk36, hfl⟩)
      have HW := Lib.hid (show wideB ⟨x.kind, 2 * (ca : Int), x.k, x.fs⟩ = false from decide_eq_false fun h => by
        have h2 : 4 < bitsC (2 * (ca : Int)) := h.2.2
        rcases (by omega : ca = 0 ∨ ca = 1) with e | e <;> rw [e] at h2 <;> revert h2 <;> decide)
      have HGG := Lib.hid (fun (u : Value) => (Gk.refl g w2).set 1 u)
      have hkk := h46
      rcases (by omega : x.kind = 4 ∨ x.kind = 5 ∨ x.kind = 6) with k4 | k4 | k4
      · have e4 : (x.kind == 4) = true := by rw [k4]; rfl
        have e5 : (x.kind == 5) = (true && !true) := by rw [k4]; rfl
        have e6 : (x.kind == 6) = (true && !true) := by rw [k4]; rfl
        simp only [Bool.not_true, Bool.not_false, Bool.and_true, Bool.and_false, Bool.true_and, Bool.false_and] at e5 e6
        clear k4 h46 hkk hc hk36 hkm hfl
        go_wp2_with fail
        go_meet
        case rel => exact ⟨⟨x.kind, 2 * (ca : Int), x.k, x.fs⟩, rfl, Lib.hid ⟨HH.out, HV.out.flt⟩, HW, Lib.hid rfl, Lib.hid (heap_set (i := 1) gx.out), Lib.hid (HGG.out _)⟩
      · have e4 : (x.kind == 4) = false := by rw [k4]; rfl
        have e5 : (x.kind == 5) = (true && !false) := by rw [k4]; rfl
        have e6 : (x.kind == 6) = (true && !true) := by rw [k4]; rfl
        simp only [Bool.not_true, Bool.not_false, Bool.and_true, Bool.and_false, Bool.true_and, Bool.false_and] at e5 e6
        clear k4 h46 hkk hc hk36 hkm hfl
        go_wp2_with fail
        go_meet
        case rel => exact ⟨⟨x.kind, 2 * (ca : Int), x.k, x.fs⟩, rfl, Lib.hid ⟨HH.out, HV.out.flt⟩, HW, Lib.hid rfl, Lib.hid (heap_set (i := 1) gx.out), Lib.hid (HGG.out _)⟩
      · have e4 : (x.kind == 4) = false := by rw [k4]; rfl
        have e5 : (x.kind == 5) = (false && !false) := by rw [k4]; rfl
        have e6 : (x.kind == 6) = (true && !false) := by rw [k4]; rfl
        simp only [Bool.not_true, Bool.not_false, Bool.and_true, Bool.and_false, Bool.true_and, Bool.false_and] at e5 e6
        clear k4 h46 hkk hc hk36 hkm hfl
        go_wp2_with fail
        go_meet
        case rel => exact ⟨⟨x.kind, 2 * (ca : Int), x.k, x.fs⟩, rfl, Lib.hid ⟨HH.out, HV.out.flt⟩, HW, Lib.hid rfl, Lib.hid (heap_set (i := 1) gx.out), Lib.hid (HGG.out _)⟩
    · have e4 : (x.kind == 4) = false := beqF (by omega)
      have e5 : (x.kind == 5) = false := beqF (by omega)
      have e6 : (x.kind == 6) = false := beqF (by omega)
      have HW := Lib.hid (show wideB x = false from decide_eq_false fun h => h46 ⟨h.1, h.2.1⟩)
      clear h46 hc hk36 hkm hfl
      go_wp2_with fail
      go_meet
      case rel => exact ⟨x, rfl, HV, HW, Lib.hid rfl, gx, Lib.hid (Gk.refl _ _)⟩
  obtain ⟨y, rfl, HY, HYW, HYF, gy, HGY⟩ := hcut
  obtain ⟨w3, hwv⟩ : ∃ x, x = wc := ⟨_, rfl⟩
  subst hwv
  clear q0 q1 q2 q3 fx gx hca hca3 hcw hcw2
  obtain ⟨q0, q1, q2, q3⟩ := row4 gy
  have fx := frz gy.out
  obtain ⟨kn, hkn⟩ : ∃ kn : Nat, y.k = kn := ⟨y.k.toNat, by have := HY.out.head.2.2.2.1; omega⟩
  obtain ⟨r, hr, hr12⟩ : ∃ r : Nat, (kn : Int).tmod 12 = (r : Int) ∧ r < 12 := tmod_bd kn 12 (by omega)
  have hr' : y.k.tmod 12 = (r : Int) := by rw [hkn]; exact hr
  have hrw : wrap64 (1 + (r : Int)) = 1 + (r : Int) := IntWalk.wrap64_in _ (by omega)
  have hrw2 : IntKind.i64.wrap (1 + (r : Int)) = 1 + (r : Int) := IntWalk.i64_in _ (by omega)
  have hrw3 : wrap64 (r : Int) = (r : Int) := IntWalk.wrap64_in _ (by omega)
  clear hkn hr
  (first | go_values | go_skip | go_guarded | go_step | go_upon | go_back)
  (first | go_values | go_skip | go_guarded | go_step | go_upon | go_back)
  go_cut [3] (fun p wx => ∃ z : Qy, p = .pointer (some ⟨g, 0, none⟩) ∧ Hid (ValidQ z) ∧ Hid (wideB z = false) ∧ Hid (z.fs = x.fs) ∧ Hid (wx.heap[g]? = some (.cells #[.int .i64 z.kind, .int .i64 z.col, .int .i64 z.k, .slice B x.fs.length d] 24 (0, 0))) ∧ Hid (Gk g w2 wx))
  case first =>
    by_cases h6 : y.kind = 6
    · have e6 : (y.kind == 6) = true := by rw [h6]; rfl
      have HH := Lib.hid (show HeadOk ⟨y.kind, y.col, 1 + (r : Int), y.fs⟩ from by
        obtain ⟨⟨hk1, hk7⟩, ⟨hc0, hc3⟩, hc, hk0, hkm, hk36, hfl⟩ := HY.out.head
        refine ⟨⟨hk1, hk7⟩, ⟨hc0, hc3⟩, hc, by dsimp only; omega, ?_, fun _ => by dsimp only; omega, hfl⟩
        show 1 + (r : Int) ≤ maxKF y.kind
        rw [h6]
        have : maxKF 6 = 65536 := rfl
        omega)
      have HGG := Lib.hid (fun (u : Value) => HGY.out.set 2 u)
      clear h6
      go_wp2_with fail
      go_meet
      case rel => exact ⟨⟨y.kind, y.col, 1 + (r : Int), y.fs⟩, rfl, Lib.hid ⟨HH.out, HY.out.flt⟩, HYW, HYF, Lib.hid (heap_set (i := 2) gy.out), Lib.hid (HGG.out _)⟩
    · have e6 : (y.kind == 6) = false := beqF h6
      clear h6
      go_wp2_with fail
      go_meet
      case rel => exact ⟨y, rfl, HY, HYW, HYF, gy, HGY⟩
  obtain ⟨z, rfl, HZ, HZW, HZF, gz, HGZ⟩ := hcut
  obtain ⟨w4, hwv⟩ : ∃ x, x = wc := ⟨_, rfl⟩
  subst hwv
  clear q0 q1 q2 q3 fx gy hr' hr12 hrw hrw2 hrw3 HGY HY HYW HYF
  obtain ⟨q0, q1, q2, q3⟩ := row4 gz
  have HSZ := Lib.hid (show Sl cdE.slice (fun b => w1.heap.size ≤ b ∧ b < g) w4 B d z.fs by rw [HZF.out]; exact HGZ.out.slKeep HS.out (by rintro ⟨-, h⟩; omega))
  have HLN := Lib.hid (show z.fs.length = x.fs.length by rw [HZF.out])
  rw [← HLN.out] at q3 gz
  have B4 := Lib.hid (HGZ.out.below HB.out hg HB.out.size)
  have B40 := Lib.hid (B1.out.trans (B4.out.mono B1.out.size))
  have gr4 := Lib.hid (HGZ.out.row gr2.out (by omega))
  obtain ⟨P, hP⟩ : ∃ P, checkTF z 64 = P := ⟨_, rfl⟩
  have HP := Lib.hid hP
  have lw4 := HGZ.out.g.size
  have lgz := heap_lt gz.out
  clear hP gr2
  obtain ⟨r0, r1, r2, r3⟩ := row4 gr4
  have fr := frz gr4.out
  go_upto_region 7 with (go_at_call 31; refine (checkRef (q := z) 64 _ HSZ.out HP.out).mono ?_; rintro e w5 ⟨B5, d5, rfl, hs5, hb5⟩; have HB5 := Lib.hid hb5; clear hs5 hb5)
  refine wp_world (F := fun wx => Hid (Below w4.heap.size w4 wx)) (Lib.hid (HB5.out.alloc HB5.out.size _)) ?_
  intro w6 HB6
  have gz6 := mvQ gz HB6.out
  have gr6 := mvQ gr4 HB6.out
  have HS6 := Lib.hid (HSZ.out.keep (Below.agree HB6.out))
  have B6 := Lib.hid (B40.out.trans (HB6.out.mono B40.out.size))
  have lz6 := HB6.out.size
  have lgr6 := heap_lt gr6.out
  clear q0 q1 q2 q3 r0 r1 r2 r3 fr gz gr4 HSZ
  obtain ⟨q0, q1, q2, q3⟩ := row4 gz6
  obtain ⟨r0, r1, r2, r3⟩ := row4 gr6
  have fr := frz gr6.out
  have bb := B6.out
  have l1 := B1.out.size
  by_cases hp : P.2 = 0
  · have e0 : (P.2 != 0) = false := by simp [hp]
    clear hp
    go_wp2_with fail
    refine bodyPost_ret (v := .agg #[.int .i64 z.kind, .int .i64 z.col, .int .i64 z.k, .slice B z.fs.length d]) (by simp [results, Tryd.results11, go_sem, *]) rfl ⟨z, HZ.out, HZW.out, B, d, rfl, ?_, (by repeat' (first | with_reducible exact Below.refl _ _ | with_reducible assumption | with_reducible refine Below.setCell ?_ ?_ _ | with_reducible refine Below.drew ?_ | with_reducible refine below_drewN ?_ _ | with_reducible refine Below.alloc ?_ ?_ _ | (rintro _ ⟨⟩; simp <;> omega) | omega | (simp <;> omega)))⟩
    exact (HS6.out.keep (by repeat' (first | with_reducible exact Agree.refl _ _ | with_reducible refine Agree.set ?_ ?_ _ | (rintro ⟨h, -⟩; simp at h; omega)))).sub (fun b hb _ => by have := hb.1; omega)
  · have e0 : (P.2 != 0) = true := by simpa using hp
    clear hp
    have lgr61 : w.heap.size + 1 < w6.heap.size + 1 := by omega
    have lgr62 : w.heap.size + 1 < w6.heap.size + 1 + 1 := by omega
    go_wp2_with fail
    refine bodyPost_ret (v := .agg #[.int .i64 1, .int .i64 0, .int .i64 0, .slice (some ⟨w6.heap.size + 1, 0, none⟩) 1 1]) (by simp [results, Tryd.results11, go_sem, *]) rfl ⟨⟨1, 0, 0, [[]]⟩, ?_, rfl, _, 1, rfl, ?_, (by repeat' (first | with_reducible exact Below.refl _ _ | with_reducible assumption | with_reducible refine Below.setCell ?_ ?_ _ | with_reducible refine Below.drew ?_ | with_reducible refine below_drewN ?_ _ | with_reducible refine Below.alloc ?_ ?_ _ | (rintro _ ⟨⟩; simp <;> omega) | omega | (simp <;> omega)))⟩
    · exact ⟨⟨⟨by decide, by decide⟩, ⟨by decide, by decide⟩, .inl rfl, by decide, by decide, fun h => by rcases h with h | h <;> exact absurd h (by decide), rfl⟩, fun l hl => by simp at hl; subst hl; exact ⟨by simp, fun c hc => by cases hc⟩⟩
    · exact sl_fs1 (S := fun b => w.heap.size ≤ b) (l := []) (heap_alloc_at (by simp [World.setCell])) (Sl.nil_ _ _ _ _ (Nat.zero_le _)) (by show w.heap.size ≤ w6.heap.size + 1; omega)
end Go.Proofs.YtmkpaolbejlodaaDoor
namespace Go.Proofs.YtmkpaolbejlodaaDoor
open Go.RowKit

theorem Sl.set_ {α : Type} {E : Enc α} {S : Nat → Prop} {w : World} {A : Option Addr} {c : Nat} {xs : List α} {p : Addr} (h : Sl E S w A c xs) (hp : ¬ S p.block) (u : Value) : Sl E S (w.setCell p u) A c xs := h.keep ((Agree.refl _ _).set hp u)
theorem Sl.two_ {α : Type} {E : Enc α} {S : Nat → Prop} {w : World} {A : Option Addr} {c g : Nat} {xs : List α} {u v : Value} (h : Sl E S w A c xs) (hg : ¬ S g) : Sl E (fun _ => True) ((w.setCell ⟨g, 0, none⟩ u).setCell ⟨g, 1, none⟩ v) A c xs := ((h.set_ hg u).set_ hg v).sub fun _ _ _ => trivial
theorem set2 {W : World} {g : Nat} {t : TypeId} {a b u v : Value} (h : W.heap[g]? = some (.cells #[a, b] t (0, 0))) : ((W.setCell ⟨g, 0, none⟩ u).setCell ⟨g, 1, none⟩ v).heap[g]? = some (.cells #[u, v] t (0, 0)) :=
  heap_set (i := 1) (heap_set (i := 0) h)
theorem onlyL15 (col v : Int) (w : World) : Calls Tryd.prog 29 #[.int .i64 col, .int .i64 v] w fun e w' => ∃ g, e = .returned (.slice (some ⟨g, 0, none⟩) 1 1) ∧ Sl cdE (fun _ => True) w' (some ⟨g, 0, none⟩) 1 [⟨col, v, v⟩] ∧ w'.heap.size = g + 1 ∧ Below w.heap.size w w' := by
  go_enter Tryd.func29, Tryd.ntmps29
  go_wp2_with fail
  go_ret
  exact ⟨_, rfl, sl_cd1 (x := ⟨col, v, v⟩) (heap_alloc_at rfl) trivial, by simp, (by repeat' (first | with_reducible exact Below.refl _ _ | with_reducible assumption | with_reducible refine Below.setCell ?_ ?_ _ | with_reducible refine Below.drew ?_ | with_reducible refine below_drewN ?_ _ | with_reducible refine Below.alloc ?_ ?_ _ | (rintro _ ⟨⟩; simp <;> omega) | omega | (simp <;> omega)))⟩
/-- An answer, its numbers named. -/
def AnsN (w : World) (xs ys : List Int) (n m : Nat) (e : Ending) (w' : World) : Prop :=
  ∃ A c B d, e = .returned (.agg #[.slice A n c, .slice B m d]) ∧ Sl .i64 (fun b => w.heap.size ≤ b ∧ b < w'.heap.size) w' A c xs ∧ Sl .i64 (fun b => w.heap.size ≤ b ∧ b < w'.heap.size) w' B d ys ∧ Below w.heap.size w w'
theorem answerN {q : Qy} {s : Str} {A L G : Option Addr} {cc cl cg f n m nl ng : Nat} {xs ys : List Int} {S T U : Nat → Prop} (hx : sumsF q (liveF s) = xs) (hy : resF q xs = ys) (hf : q.fs.length = f) (hn : xs.length = n) (hm : ys.length = m) (hnl : s.l.length = nl) (hng : s.g.length = ng)
    (w : World) (hq : ValidQ q) (hw : wideB q = false) (ok : OkStr s) (hl : s.l.length ≤ 1000) (h : Sl cdE.slice S w A cc q.fs) (hL : Sl rdE T w L cl s.l) (hG : Sl .bool U w G cg s.g) :
    Calls Tryd.prog 15 #[(.agg #[.int .i64 q.kind, .int .i64 q.col, .int .i64 q.k, .slice A f cc]), .agg #[.slice L nl cl, .slice G ng cg]] w (AnsN w xs ys n m) := by
  subst hf; subst hn; subst hm; subst hnl; subst hng; subst hy; subst hx
  exact (answerE w hq hw ok hl h hL hG).mono fun e w' ⟨A, c, B, d, h1, h2, h3, h4⟩ => ⟨A, c, B, d, h1, h2.old, h3.old, h4⟩
theorem same15N {xs : List Int} {A B : Option Addr} {c d n : Nat} {S T : Nat → Prop} (hn : xs.length = n) (w : World) (h : Sl .i64 S w A c xs) (k : Sl .i64 T w B d xs) :
    Calls Tryd.prog 17 #[.slice A n c, .slice B n d] w fun e w' => e = .returned (.bool true) ∧ Below w.heap.size w w' := by
  subst hn
  exact (same15 w h k).mono fun e w' ⟨h1, h2⟩ => ⟨by rw [h1]; simp, h2⟩
/-- An answer's box. -/
def An (w : World) (g : Nat) (xs ys : List Int) (n m : Nat) : Prop := ∃ A c B d, w.heap[g]? = some (.cells #[.slice A n c, .slice B m d] 36 (0, 0)) ∧ Sl .i64 (fun _ => True) w A c xs ∧ Sl .i64 (fun _ => True) w B d ys
theorem mvAn {w w' : World} {g n m : Nat} {xs ys : List Int} (h : Hid (An w g xs ys n m)) (hb : Below w.heap.size w w') : Hid (An w' g xs ys n m) := by
  obtain ⟨A, c, B, d, h1, h2, h3⟩ := h.out
  exact Lib.hid ⟨A, c, B, d, (hb.block g (heap_lt h1)).trans h1, h2.keep (Below.agree hb), h3.keep (Below.agree hb)⟩
theorem sl_fs1N {S : Nat → Prop} {w : World} {g n : Nat} {t : TypeId} {B : Option Addr} {d : Nat} {l : List Cd} (hn : l.length = n) (h : w.heap[g]? = some (.cells #[.slice B n d] t (0, 0))) (hs : Sl cdE S w B d l) (hS : S g) : Sl cdE.slice S w (some ⟨g, 0, none⟩) 1 [l] := by
  subst hn; exact sl_fs1 h hs hS
theorem sl_fs2N {S : Nat → Prop} {w : World} {g n m : Nat} {t : TypeId} {B C : Option Addr} {d e : Nat} {l k : List Cd} (hn : l.length = n) (hm : k.length = m) (h : w.heap[g]? = some (.cells #[.slice B n d, .slice C m e] t (0, 0))) (hs : Sl cdE S w B d l) (hk : Sl cdE S w C e k) (hS : S g) : Sl cdE.slice S w (some ⟨g, 0, none⟩) 2 [l, k] := by
  subst hn; subst hm
  exact Sl.ofRow (cs := [.slice B l.length d, .slice C k.length e]) h ⟨[_], _, rfl, ⟨B, d, rfl, hs⟩, .single ⟨C, e, rfl, hk⟩⟩ hS (by unfold maxLen; simp)
theorem sumsN {q : Qy} {s : Str} {A L G : Option Addr} {cc cl cg f n nl ng : Nat} {xs : List Int} {S T U : Nat → Prop} (hx : sumsF q (liveF s) = xs) (hf : q.fs.length = f) (hn : xs.length = n) (hnl : s.l.length = nl) (hng : s.g.length = ng)
    (w : World) (hq : ValidQ q) (hw : wideB q = false) (ok : OkStr s) (hl : s.l.length ≤ 1000) (h : Sl cdE.slice S w A cc q.fs) (hL : Sl rdE T w L cl s.l) (hG : Sl .bool U w G cg s.g) :
    Calls Tryd.prog 13 #[(.agg #[.int .i64 q.kind, .int .i64 q.col, .int .i64 q.k, .slice A f cc]), .agg #[.slice L nl cl, .slice G ng cg]] w fun e w' => ∃ A c, e = .returned (.slice A n c) ∧ Sl .i64 (fun b => w.heap.size ≤ b) w' A c xs ∧ Below w.heap.size w w' := by
  subst hf; subst hn; subst hnl; subst hng; subst hx
  exact sumsE_new w hq hw ok hl h hL hG
/-- A stream's box. -/
def StB (w : World) (g : Nat) (s : Str) (nl ng : Nat) : Prop := ∃ L cl G cg, w.heap[g]? = some (.cells #[.slice L nl cl, .slice G ng cg] 31 (0, 0)) ∧ Sl rdE (fun _ => True) w L cl s.l ∧ Sl .bool (fun _ => True) w G cg s.g
theorem mvSt {w w' : World} {g n m : Nat} {s : Str} (h : Hid (StB w g s n m)) (hb : Below w.heap.size w w') : Hid (StB w' g s n m) := by
  obtain ⟨A, c, B, d, h1, h2, h3⟩ := h.out
  exact Lib.hid ⟨A, c, B, d, (hb.block g (heap_lt h1)).trans h1, h2.keep (Below.agree hb), h3.keep (Below.agree hb)⟩
theorem zAn {w W : World} {g n c m d : Nat} {A B : Option Addr} (h : Hid (w.heap[g]? = some (.cells #[.slice A n c, .slice B m d] 36 (0, 0)))) (hW : Below w.heap.size w W) : W.cell? ⟨g, 0, none⟩ = some (.slice A n c) ∧ W.cell? ⟨g, 1, none⟩ = some (.slice B m d) ∧ g < W.heap.size := by
  have h1 := (hW.block g (heap_lt h.out)).trans h.out
  exact ⟨cell_of_row _ _ 0 _ _ _ h1, cell_of_row _ _ 1 _ _ _ h1, heap_lt h1⟩
theorem mvF {w w' : World} {A : Option Addr} {c : Nat} {l : List (List Cd)} (h : Hid (Sl cdE.slice (fun _ => True) w A c l)) (hb : Below w.heap.size w w') : Hid (Sl cdE.slice (fun _ => True) w' A c l) := Lib.hid (h.out.keep (Below.agree hb))
theorem two2 {W : World} {g : Nat} {u v : Value} {t : TypeId} (h : Hid (W.heap[g]? = some (.cells #[u, v] t (0, 0)))) : W.cell? ⟨g, 0, none⟩ = some u ∧ W.cell? ⟨g, 1, none⟩ = some v :=
  ⟨cell_of_row _ _ 0 _ _ _ h.out, cell_of_row _ _ 1 _ _ _ h.out⟩
theorem drew_get2 {w : World} {g : Nat} {o : Option Obj} (h : w.heap[g]? = o) : w.drew.heap[g]? = o := h
end Go.Proofs.YtmkpaolbejlodaaDoor
