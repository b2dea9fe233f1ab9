/-
  Texts of this claim, merged: Ev7, EvN, Rd11, Rd16, Read. Conditions: as each theorem says.
-/
import Derived.Deep.DeepCutAuto
import Derived.Deep.Slices
import Derived.Deep.Fields
import Derived.ChangeArms
import Derived.ChangeSame
import Derived.Test.YtagadbdbbglddaaGreatDoorU1
import Derived.Test.YtagadbdbbglddaaGreatDoorU2
import Derived.Test.YtagadbdbbglddaaGreatDoorU3
import Derived.Test.YtagadbdbbglddaaGreatDoorU4
import Derived.Test.YtagadbdbbglddaaGreatDoorU5
import Derived.Test.YtagadbdbbglddaaGreatDoorU6
import Derived.Test.YtagadbdbbglddaaGreatDoorU7
import Derived.Test.YtagadbdbbglddaaGreatDoorU8
import Derived.Test.YtagadbdbbglddaaGreatDoorU9
import Derived.Test.YtagadbdbbglddaaGreatDoorU10
import Derived.Test.YtagadbdbbglddaaGreatDoorU11
import Derived.Test.YtagadbdbbglddaaGreatDoorU12
import Derived.Test.YtagadbdbbglddaaGreatDoorU13
import Derived.Test.YtagadbdbbglddaaGreatDoorU14
import Derived.Test.YtagadbdbbglddaaGreatDoorU15
import Derived.Test.YtagadbdbbglddaaGreatDoorU16
import Derived.Test.YtagadbdbbglddaaGreatDoorU17
import Derived.Test.YtagadbdbbglddaaGreatDoorU18
import Derived.Test.YtagadbdbbglddaaGreatDoorU19
set_option linter.unusedSimpArgs false
set_option linter.unusedVariables false
namespace Go.Proofs.YtagadbdbbglddaaGreatDoor
open Go.RowKit

theorem live_len (s : Str) : (liveF s).length ≤ s.l.length := by
  unfold liveF
  rw [List.length_map]
  have h1 := List.length_filter_le (fun p : Rd × Bool => !p.2) (s.l.zip s.g)
  rw [List.length_zip] at h1
  omega
def AnsRes (w : World) (xs ys : List Int) (e : Ending) (w' : World) : Prop :=
  ∃ A c B d, e = .returned (.agg #[.slice A xs.length c, .slice B ys.length d]) ∧ Sl .i64 (fun b => w.heap.size ≤ b) w' A c xs ∧ Sl .i64 (fun b => w.heap.size ≤ b) w' B d ys ∧ Below w.heap.size w w'
theorem sumsE_new {q : Qy} {s : Str} {A L G : Option Addr} {cc cl cg : Nat} {S T U : Nat → Prop} (w : World) (hq : ValidQ q) (hw : wideB q = false) (ok : OkStr s) (hl : s.l.length ≤ 1000)
    (h : Sl cdE.slice S w A cc q.fs) (hL : Sl rdE T w L cl s.l) (hG : Sl .bool U w G cg s.g) :
    Calls Tryz.prog 9 #[(.agg #[.int .i64 q.kind, .int .i64 q.col, .int .i64 q.k, .slice A q.fs.length cc]), .agg #[.slice L s.l.length cl, .slice G s.g.length cg]] w (IntsNew w (sumsF q (liveF s))) :=
  (sumsE w hq hw ok hl h hL hG).mono fun _ _ h => h.new
set_option maxRecDepth 100000 in
set_option maxHeartbeats 2000000 in
theorem answerE {q : Qy} {s : Str} {A L G : Option Addr} {cc cl cg : Nat} {S T U : Nat → Prop} (w : World) (hq : ValidQ q) (hw : wideB q = false) (ok : OkStr s) (hl : s.l.length ≤ 1000)
    (h : Sl cdE.slice S w A cc q.fs) (hL : Sl rdE T w L cl s.l) (hG : Sl .bool U w G cg s.g) :
    Calls Tryz.prog 15 #[(.agg #[.int .i64 q.kind, .int .i64 q.col, .int .i64 q.k, .slice A q.fs.length cc]), .agg #[.slice L s.l.length cl, .slice G s.g.length cg]] w (AnsRes w (sumsF q (liveF s)) (resF q (sumsF q (liveF s)))) := by
  have HQ := Lib.hid hq
  have HW := Lib.hid hw
  have OK := Lib.hid ok
  have H := Lib.hid h
  have HL := Lib.hid hL
  have HG := Lib.hid hG
  obtain ⟨xs, hxs⟩ : ∃ xs, sumsF q (liveF s) = xs := ⟨_, rfl⟩
  have HR := Lib.hid (show ResOk q xs by rw [← hxs]; exact resOk_sums hq (Nat.le_trans (live_len s) hl))
  have hx32 : xs.length ≤ 1000 := by rw [← hxs, sumsF_len]; have := (nSums_le hq).1; omega
  rw [hxs]
  have HXS := Lib.hid hxs
  clear hq hw ok h hL hG hxs
  go_enter Tryz.func15, Tryz.ntmps15
  go_upto_region 1 with fail
  refine wp_world (F := fun wx => Below w.heap.size w wx ∧ Hid (wx.heap[w.heap.size]? = some (.cells #[.int .i64 q.kind, .int .i64 q.col, .int .i64 q.k, .slice A q.fs.length cc] 24 (0, 0))) ∧ Hid (wx.heap[w.heap.size + 1]? = some (.cells #[.slice L s.l.length cl, .slice G s.g.length cg] 31 (0, 0))) ∧ Hid (wx.heap[w.heap.size + 1 + 1]? = some (.cells #[.slice none 0 0, .slice none 0 0] 52 (0, 0)))) ⟨(by repeat' (first | with_reducible exact Below.refl _ _ | with_reducible assumption | with_reducible refine Below.setCell ?_ ?_ _ | with_reducible refine Below.drew ?_ | with_reducible refine below_drewN ?_ _ | with_reducible refine Below.alloc ?_ ?_ _ | (rintro _ ⟨⟩; simp <;> omega) | omega | (simp <;> omega))), Lib.hid ((Below.heap_alloc _ _ _ (by simp; omega)).trans ((Below.heap_alloc _ _ _ (by simp)).trans (heap_alloc_at rfl))), Lib.hid ((Below.heap_alloc _ _ _ (by simp)).trans (heap_alloc_at (by simp))), Lib.hid (heap_alloc_at (by simp))⟩ ?_
  rintro w1 ⟨bb, gq, gs, ga⟩
  have B1 := Lib.hid bb
  clear bb
  obtain ⟨q0, q1, q2, q3⟩ := row4 gq
  have s0 := cell_of_row _ _ 0 _ _ _ gs.out
  have s1 := cell_of_row _ _ 1 _ _ _ gs.out
  simp only [List.getElem?_toArray, List.getElem?_cons_zero, List.getElem?_cons_succ] at s0 s1
  go_upto_region 2 with (go_at_call 9; refine (sumsE_new (q := q) (s := s) _ HQ.out HW.out OK.out hl (H.out.keep (Below.agree B1.out)) (HL.out.keep (Below.agree B1.out)) (HG.out.keep (Below.agree B1.out))).mono ?_; rw [HXS.out]; rintro e w2 ⟨A2, c2, rfl, hs2, hb2⟩; have HS2 := Lib.hid hs2; have HB2 := Lib.hid hb2; clear hs2 hb2)
  have gq2 := mvQ gq HB2.out
  have ga2 := mvQ ga HB2.out
  have lga := heap_lt ga.out
  clear q0 q1 q2 q3 s0 s1 gq gs ga
  obtain ⟨q0, q1, q2, q3⟩ := row4 gq2
  have a0 := cell_of_row _ _ 0 _ _ _ ga2.out
  have a1 := cell_of_row _ _ 1 _ _ _ ga2.out
  simp only [List.getElem?_toArray, List.getElem?_cons_zero, List.getElem?_cons_succ] at a0 a1
  have B2 := Lib.hid (B1.out.trans (HB2.out.mono B1.out.size))
  have hz1 := B1.out.size
  have hz2 := HB2.out.size
  go_wp2_with (go_at_call 35; refine (resultE (q := q) (xs := xs) _ HR.out hx32 (HS2.out.sub (T := fun b => w1.heap.size ≤ b) (fun _ h _ => h))).mono ?_; rintro e w3 ⟨A3, c3, rfl, hs3, hb3⟩; have HS3 := Lib.hid hs3; have HB3 := Lib.hid hb3; have ga3 := mvQ ga2 hb3; have v0 := cell_of_row _ _ 0 _ _ _ ga3.out; have v1 := cell_of_row _ _ 1 _ _ _ ga3.out; simp only [List.getElem?_toArray, List.getElem?_cons_zero, List.getElem?_cons_succ] at v0 v1; have fa := frz ga3.out; have la := heap_lt ga3.out; clear hs3 hb3)
  have hb3 := B2.out.trans (HB3.out.mono B2.out.size)
  refine bodyPost_ret (v := .agg #[.slice A2 xs.length c2, .slice A3 (resF q xs).length c3]) (by simp [results, Tryz.results15, go_sem, *]) rfl ⟨A2, c2, A3, c3, rfl, ?_, ?_, (by repeat' (first | with_reducible exact Below.refl _ _ | with_reducible assumption | with_reducible refine Below.trans ?_ (Below.mono hb3 ?_) | with_reducible refine Below.setCell ?_ ?_ _ | with_reducible refine Below.drew ?_ | with_reducible refine below_drewN ?_ _ | with_reducible refine Below.alloc ?_ ?_ _ | (rintro _ ⟨⟩; simp <;> omega) | omega | (simp <;> omega)))⟩
  · exact ((HS2.out.call_ HB3.out).keep (by repeat' (first | with_reducible exact Agree.refl _ _ | with_reducible assumption | with_reducible refine Agree.set ?_ ?_ _ | with_reducible refine Agree.alloc ?_ _ | with_reducible refine Agree.drew ?_ | with_reducible refine Agree.drewN ?_ _ | omega | (simp <;> omega)))).sub (fun b hb _ => Nat.le_trans hz1 hb)
  · exact (HS3.out.keep (w := w3) (by repeat' (first | with_reducible exact Agree.refl _ _ | with_reducible refine Agree.set ?_ ?_ _ | (rintro (h | h) <;> simp at h <;> omega)))).sub (fun b hb _ => by rcases hb with h | h <;> omega)
set_option maxRecDepth 100000 in
set_option maxHeartbeats 4000000 in
theorem made15P {q : Qy} {A : Option Addr} {cc : Nat} {S : Nat → Prop} (w : World) (h : Sl cdE.slice S w A cc q.fs) : Calls Tryz.prog 6 #[(.agg #[.int .i64 q.kind, .int .i64 q.col, .int .i64 q.k, .slice A q.fs.length cc])] w (QyRes (fun x => wideB x = false) w) := by
  have H := Lib.hid h
  clear h
  go_enter Tryz.func6, Tryz.ntmps6
  go_upto_region 1 with fail
  refine wp_world (F := fun wx => Below w.heap.size w wx ∧ Hid (wx.heap[w.heap.size]? = some (.cells #[.int .i64 q.kind, .int .i64 q.col, .int .i64 q.k, .slice A q.fs.length cc] 24 (0, 0))) ∧ Hid (wx.heap[w.heap.size + 1]? = some (.cells #[.int .i64 0, .int .i64 0, .int .i64 0, .slice none 0 0] 24 (0, 0)))) ⟨(by repeat' (first | with_reducible exact Below.refl _ _ | with_reducible assumption | with_reducible refine Below.setCell ?_ ?_ _ | with_reducible refine Below.drew ?_ | with_reducible refine below_drewN ?_ _ | with_reducible refine Below.alloc ?_ ?_ _ | (rintro _ ⟨⟩; simp <;> omega) | omega | (simp <;> omega))), Lib.hid ((Below.heap_alloc _ _ _ (by simp)).trans (heap_alloc_at rfl)), Lib.hid (heap_alloc_at (by simp))⟩ ?_
  rintro w1 ⟨bb, gq, gr⟩
  have B1 := Lib.hid bb
  obtain ⟨q0, q1, q2, q3⟩ := row4 gq
  have H1 := Lib.hid (H.out.keep (Below.agree bb))
  clear bb H
  go_cut [3] (fun p wx => ∃ (g : Nat) (x : Qy) (B : Option Addr) (d : Nat), p = .pointer (some ⟨g, 0, none⟩) ∧ Hid (ValidQ x) ∧ Hid (wx.heap[g]? = some (.cells #[.int .i64 x.kind, .int .i64 x.col, .int .i64 x.k, .slice B x.fs.length d] 24 (0, 0))) ∧ Hid (Sl cdE.slice (fun b => w1.heap.size ≤ b ∧ b < g) wx B d x.fs) ∧ w1.heap.size ≤ g ∧ Hid (Below w1.heap.size w1 wx))
  case first =>
    go_wp2_with (go_at_call 17; refine (made13P (q := q) _ H1.out).mono ?_; rintro e wC ⟨x, hv, -, B, d, rfl, hs, hbC⟩; have HC := Lib.hid hs; have bC := Lib.hid hbC; have HV := Lib.hid hv; clear hs hbC hv)
    go_meet
    case rel => exact ⟨_, x, B, d, rfl, HV, Lib.hid (heap_alloc_at rfl), Lib.hid (HC.out.old.keep ((Agree.refl _ _).alloc _)), bC.out.size, Lib.hid (bC.out.alloc bC.out.size _)⟩
  obtain ⟨g, x, B, d, rfl, HV, gx, HS, hg, HB⟩ := hcut
  obtain ⟨w2, hwv⟩ : ∃ x, x = wc := ⟨_, rfl⟩
  subst hwv
  have gr2 := mvQ gr HB.out
  have lgr := heap_lt gr.out
  have lgx := heap_lt gx.out
  clear q0 q1 q2 q3 gq H1 gr
  obtain ⟨q0, q1, q2, q3⟩ := row4 gx
  have fx := frz gx.out
  obtain ⟨ca, hca, hca3⟩ : ∃ r : Nat, bits BinOp.and IntKind.i64 x.col 1 = (r : Int) ∧ r ≤ 1 := and_bd x.col 1 (by omega)
  have hcw : wrap64 (2 * (ca : Int)) = 2 * (ca : Int) := IntWalk.wrap64_in _ (by omega)
  have hcw2 : IntKind.i64.wrap (2 * (ca : Int)) = 2 * (ca : Int) := IntWalk.i64_in _ (by omega)
  (first | go_values | go_skip | go_guarded | go_step | go_upon | go_back)
  (first | go_values | go_skip | go_guarded | go_step | go_upon | go_back)
  go_cut [3] (fun p wx => ∃ y : Qy, p = .pointer (some ⟨g, 0, none⟩) ∧ Hid (ValidQ y) ∧ Hid (wideB y = false) ∧ Hid (y.fs = x.fs) ∧ Hid (wx.heap[g]? = some (.cells #[.int .i64 y.kind, .int .i64 y.col, .int .i64 y.k, .slice B x.fs.length d] 24 (0, 0))) ∧ Hid (Gk g w2 wx))
  case first =>
    obtain ⟨⟨hk1, hk7⟩, ⟨hc0, hc3⟩, hc, hk0, hkm, hk36, hfl⟩ := HV.out.head
    by_cases h46 : 4 ≤ x.kind ∧ x.kind ≤ 6
    · have HH := Lib.hid (show HeadOk ⟨x.kind, 2 * (ca : Int), x.k, x.fs⟩ from ⟨⟨hk1, hk7⟩, ⟨by dsimp only; omega, by dsimp only; omega⟩, .inr ⟨by dsimp only; omega, by dsimp only; omega⟩, hk0, hkm, hk36, hfl⟩)
      have HW := Lib.hid (show wideB ⟨x.kind, 2 * (ca : Int), x.k, x.fs⟩ = false from decide_eq_false fun h => by
        have h2 : 4 < bitsC (2 * (ca : Int)) := h.2.2
        rcases (by omega : ca = 0 ∨ ca = 1) with e | e <;> rw [e] at h2 <;> revert h2 <;> decide)
      have HGG := Lib.hid (fun (u : Value) => (Gk.refl g w2).set 1 u)
      have hkk := h46
      rcases (by omega : x.kind = 4 ∨ x.kind = 5 ∨ x.kind = 6) with k4 | k4 | k4
      · have e4 : (x.kind == 4) = true := by rw [k4]; rfl
        have e5 : (x.kind == 5) = (true && !true) := by rw [k4]; rfl
        have e6 : (x.kind == 6) = (true && !true) := by rw [k4]; rfl
        simp only [Bool.not_true, Bool.not_false, Bool.and_true, Bool.and_false, Bool.true_and, Bool.false_and] at e5 e6
        clear k4 h46 hkk hc hk36 hkm hfl
        go_wp2_with fail
        go_meet
        case rel => exact ⟨⟨x.kind, 2 * (ca : Int), x.k, x.fs⟩, rfl, Lib.hid ⟨HH.out, HV.out.flt⟩, HW, Lib.hid rfl, Lib.hid (heap_set (i := 1) gx.out), Lib.hid (HGG.out _)⟩
      · have e4 : (x.kind == 4) = false := by rw [k4]; rfl
        have e5 : (x.kind == 5) = (true && !false) := by rw [k4]; rfl
        have e6 : (x.kind == 6) = (true && !true) := by rw [k4]; rfl
        simp only [Bool.not_true, Bool.not_false, Bool.and_true, Bool.and_false, Bool.true_and, Bool.false_and] at e5 e6
        clear k4 h46 hkk hc hk36 hkm hfl
        go_wp2_with fail
        go_meet
        case rel => exact ⟨⟨x.kind, 2 * (ca : Int), x.k, x.fs⟩, rfl, Lib.hid ⟨HH.out, HV.out.flt⟩, HW, Lib.hid rfl, Lib.hid (heap_set (i := 1) gx.out), Lib.hid (HGG.out _)⟩
      · have e4 : (x.kind == 4) = false := by rw [k4]; rfl
        have e5 : (x.kind == 5) = (false && !false) := by rw [k4]; rfl
        have e6 : (x.kind == 6) = (true && !false) := by rw [k4]; rfl
        simp only [Bool.not_true, Bool.not_false, Bool.and_true, Bool.and_false, Bool.true_and, Bool.false_and] at e5 e6
        clear k4 h46 hkk hc hk36 hkm hfl
        go_wp2_with fail
        go_meet
        case rel => exact ⟨⟨x.kind, 2 * (ca : Int), x.k, x.fs⟩, rfl, Lib.hid ⟨HH.out, HV.out.flt⟩, HW, Lib.hid rfl, Lib.hid (heap_set (i := 1) gx.out), Lib.hid (HGG.out _)⟩
    · have e4 : (x.kind == 4) = false := beqF (by omega)
      have e5 : (x.kind == 5) = false := beqF (by omega)
      have e6 : (x.kind == 6) = false := beqF (by omega)
      have HW := Lib.hid (show wideB x = false from decide_eq_false fun h => h46 ⟨h.1, h.2.1⟩)
      clear h46 hc hk36 hkm hfl
      go_wp2_with fail
      go_meet
      case rel => exact ⟨x, rfl, HV, HW, Lib.hid rfl, gx, Lib.hid (Gk.refl _ _)⟩
  obtain ⟨y, rfl, HY, HYW, HYF, gy, HGY⟩ := hcut
  obtain ⟨w3, hwv⟩ : ∃ x, x = wc := ⟨_, rfl⟩
  subst hwv
  clear q0 q1 q2 q3 fx gx hca hca3 hcw hcw2
  obtain ⟨q0, q1, q2, q3⟩ := row4 gy
  have fx := frz gy.out
  obtain ⟨kn, hkn⟩ : ∃ kn : Nat, y.k = kn := ⟨y.k.toNat, by have := HY.out.head.2.2.2.1; omega⟩
  obtain ⟨r, hr, hr12⟩ : ∃ r : Nat, (kn : Int).tmod 12 = (r : Int) ∧ r < 12 := tmod_bd kn 12 (by omega)
  have hr' : y.k.tmod 12 = (r : Int) := by rw [hkn]; exact hr
  have hrw : wrap64 (1 + (r : Int)) = 1 + (r : Int) := IntWalk.wrap64_in _ (by omega)
  have hrw2 : IntKind.i64.wrap (1 + (r : Int)) = 1 + (r : Int) := IntWalk.i64_in _ (by omega)
  have hrw3 : wrap64 (r : Int) = (r : Int) := IntWalk.wrap64_in _ (by omega)
  clear hkn hr
  (first | go_values | go_skip | go_guarded | go_step | go_upon | go_back)
  (first | go_values | go_skip | go_guarded | go_step | go_upon | go_back)
  go_cut [3] (fun p wx => ∃ z : Qy, p = .pointer (some ⟨g, 0, none⟩) ∧ Hid (ValidQ z) ∧ Hid (wideB z = false) ∧ Hid (z.fs = x.fs) ∧ Hid (wx.heap[g]? = some (.cells #[.int .i64 z.kind, .int .i64 z.col, .int .i64 z.k, .slice B x.fs.length d] 24 (0, 0))) ∧ Hid (Gk g w2 wx))
  case first =>
    by_cases h6 : y.kind = 6
    · have e6 : (y.kind == 6) = true := by rw [h6]; rfl
      have HH := Lib.hid (show HeadOk ⟨y.kind, y.col, 1 + (r : Int), y.fs⟩ from by
        obtain ⟨⟨hk1, hk7⟩, ⟨hc0, hc3⟩, hc, hk0, hkm, hk36, hfl⟩ := HY.out.head
        refine ⟨⟨hk1, hk7⟩, ⟨hc0, hc3⟩, hc, by dsimp only; omega, ?_, fun _ => by dsimp only; omega, hfl⟩
        show 1 + (r : Int) ≤ maxKF y.kind
        rw [h6]
        have : maxKF 6 = 65536 := rfl
        omega)
      have HGG := Lib.hid (fun (u : Value) => HGY.out.set 2 u)
      clear h6
      go_wp2_with fail
      go_meet
      case rel => exact ⟨⟨y.kind, y.col, 1 + (r : Int), y.fs⟩, rfl, Lib.hid ⟨HH.out, HY.out.flt⟩, HYW, HYF, Lib.hid (heap_set (i := 2) gy.out), Lib.hid (HGG.out _)⟩
    · have e6 : (y.kind == 6) = false := beqF h6
      clear h6
      go_wp2_with fail
      go_meet
      case rel => exact ⟨y, rfl, HY, HYW, HYF, gy, HGY⟩
  obtain ⟨z, rfl, HZ, HZW, HZF, gz, HGZ⟩ := hcut
  obtain ⟨w4, hwv⟩ : ∃ x, x = wc := ⟨_, rfl⟩
  subst hwv
  clear q0 q1 q2 q3 fx gy hr' hr12 hrw hrw2 hrw3 HGY HY HYW HYF
  obtain ⟨q0, q1, q2, q3⟩ := row4 gz
  have HSZ := Lib.hid (show Sl cdE.slice (fun b => w1.heap.size ≤ b ∧ b < g) w4 B d z.fs by rw [HZF.out]; exact HGZ.out.slKeep HS.out (by rintro ⟨-, h⟩; omega))
  have HLN := Lib.hid (show z.fs.length = x.fs.length by rw [HZF.out])
  rw [← HLN.out] at q3 gz
  have B4 := Lib.hid (HGZ.out.below HB.out hg HB.out.size)
  have B40 := Lib.hid (B1.out.trans (B4.out.mono B1.out.size))
  have gr4 := Lib.hid (HGZ.out.row gr2.out (by omega))
  obtain ⟨P, hP⟩ : ∃ P, checkTF z 64 = P := ⟨_, rfl⟩
  have HP := Lib.hid hP
  have lw4 := HGZ.out.g.size
  have lgz := heap_lt gz.out
  clear hP gr2
  obtain ⟨r0, r1, r2, r3⟩ := row4 gr4
  have fr := frz gr4.out
  go_upto_region 7 with (go_at_call 18; refine (checkRef (q := z) 64 _ HSZ.out HP.out).mono ?_; rintro e w5 ⟨B5, d5, rfl, hs5, hb5⟩; have HB5 := Lib.hid hb5; clear hs5 hb5)
  refine wp_world (F := fun wx => Hid (Below w4.heap.size w4 wx)) (Lib.hid (HB5.out.alloc HB5.out.size _)) ?_
  intro w6 HB6
  have gz6 := mvQ gz HB6.out
  have gr6 := mvQ gr4 HB6.out
  have HS6 := Lib.hid (HSZ.out.keep (Below.agree HB6.out))
  have B6 := Lib.hid (B40.out.trans (HB6.out.mono B40.out.size))
  have lz6 := HB6.out.size
  have lgr6 := heap_lt gr6.out
  clear q0 q1 q2 q3 r0 r1 r2 r3 fr gz gr4 HSZ
  obtain ⟨q0, q1, q2, q3⟩ := row4 gz6
  obtain ⟨r0, r1, r2, r3⟩ := row4 gr6
  have fr := frz gr6.out
  have bb := B6.out
  have l1 := B1.out.size
  by_cases hp : P.2 = 0
  · have e0 : (P.2 != 0) = false := by simp [hp]
    clear hp
    go_wp2_with fail
    refine bodyPost_ret (v := .agg #[.int .i64 z.kind, .int .i64 z.col, .int .i64 z.k, .slice B z.fs.length d]) (by simp [results, Tryz.results6, go_sem, *]) rfl ⟨z, HZ.out, HZW.out, B, d, rfl, ?_, (by repeat' (first | with_reducible exact Below.refl _ _ | with_reducible assumption | with_reducible refine Below.setCell ?_ ?_ _ | with_reducible refine Below.drew ?_ | with_reducible refine below_drewN ?_ _ | with_reducible refine Below.alloc ?_ ?_ _ | (rintro _ ⟨⟩; simp <;> omega) | omega | (simp <;> omega)))⟩
    exact (HS6.out.keep (by repeat' (first | with_reducible exact Agree.refl _ _ | with_reducible refine Agree.set ?_ ?_ _ | (rintro ⟨h, -⟩; simp at h; omega)))).sub (fun b hb _ => by have := hb.1; omega)
  · have e0 : (P.2 != 0) = true := by simpa using hp
    clear hp
    have lgr61 : w.heap.size + 1 < w6.heap.size + 1 := by omega
    have lgr62 : w.heap.size + 1 < w6.heap.size + 1 + 1 := by omega
    go_wp2_with fail
    refine bodyPost_ret (v := .agg #[.int .i64 1, .int .i64 0, .int .i64 0, .slice (some ⟨w6.heap.size + 1, 0, none⟩) 1 1]) (by simp [results, Tryz.results6, go_sem, *]) rfl ⟨⟨1, 0, 0, [[]]⟩, ?_, rfl, _, 1, rfl, ?_, (by repeat' (first | with_reducible exact Below.refl _ _ | with_reducible assumption | with_reducible refine Below.setCell ?_ ?_ _ | with_reducible refine Below.drew ?_ | with_reducible refine below_drewN ?_ _ | with_reducible refine Below.alloc ?_ ?_ _ | (rintro _ ⟨⟩; simp <;> omega) | omega | (simp <;> omega)))⟩
    · exact ⟨⟨⟨by decide, by decide⟩, ⟨by decide, by decide⟩, .inl rfl, by decide, by decide, fun h => by rcases h with h | h <;> exact absurd h (by decide), rfl⟩, fun l hl => by simp at hl; subst hl; exact ⟨by simp, fun c hc => by cases hc⟩⟩
    · exact sl_fs1 (S := fun b => w.heap.size ≤ b) (l := []) (heap_alloc_at (by simp [World.setCell])) (Sl.nil_ _ _ _ _ (Nat.zero_le _)) (by show w.heap.size ≤ w6.heap.size + 1; omega)
end Go.Proofs.YtagadbdbbglddaaGreatDoor
namespace Go.Proofs.YtagadbdbbglddaaGreatDoor
open Go.RowKit

theorem set2 {W : World} {g : Nat} {t : TypeId} {a b u v : Value} (h : W.heap[g]? = some (.cells #[a, b] t (0, 0))) : ((W.setCell ⟨g, 0, none⟩ u).setCell ⟨g, 1, none⟩ v).heap[g]? = some (.cells #[u, v] t (0, 0)) :=
  heap_set (i := 1) (heap_set (i := 0) h)
/-- An answer, its numbers named. -/
def AnsN (w : World) (xs ys : List Int) (n m : Nat) (e : Ending) (w' : World) : Prop :=
  ∃ A c B d, e = .returned (.agg #[.slice A n c, .slice B m d]) ∧ Sl .i64 (fun b => w.heap.size ≤ b ∧ b < w'.heap.size) w' A c xs ∧ Sl .i64 (fun b => w.heap.size ≤ b ∧ b < w'.heap.size) w' B d ys ∧ Below w.heap.size w w'
theorem answerN {q : Qy} {s : Str} {A L G : Option Addr} {cc cl cg f n m nl ng : Nat} {xs ys : List Int} {S T U : Nat → Prop} (hx : sumsF q (liveF s) = xs) (hy : resF q xs = ys) (hf : q.fs.length = f) (hn : xs.length = n) (hm : ys.length = m) (hnl : s.l.length = nl) (hng : s.g.length = ng)
    (w : World) (hq : ValidQ q) (hw : wideB q = false) (ok : OkStr s) (hl : s.l.length ≤ 1000) (h : Sl cdE.slice S w A cc q.fs) (hL : Sl rdE T w L cl s.l) (hG : Sl .bool U w G cg s.g) :
    Calls Tryz.prog 15 #[(.agg #[.int .i64 q.kind, .int .i64 q.col, .int .i64 q.k, .slice A f cc]), .agg #[.slice L nl cl, .slice G ng cg]] w (AnsN w xs ys n m) := by
  subst hf; subst hn; subst hm; subst hnl; subst hng; subst hy; subst hx
  exact (answerE w hq hw ok hl h hL hG).mono fun e w' ⟨A, c, B, d, h1, h2, h3, h4⟩ => ⟨A, c, B, d, h1, h2.old, h3.old, h4⟩
theorem same15N {xs : List Int} {A B : Option Addr} {c d n : Nat} {S T : Nat → Prop} (hn : xs.length = n) (w : World) (h : Sl .i64 S w A c xs) (k : Sl .i64 T w B d xs) :
    Calls Tryz.prog 36 #[.slice A n c, .slice B n d] w fun e w' => e = .returned (.bool true) ∧ Below w.heap.size w w' := by
  subst hn
  exact (same15 w h k).mono fun e w' ⟨h1, h2⟩ => ⟨by rw [h1]; simp, h2⟩
/-- An answer's box. -/
def An (w : World) (g : Nat) (xs ys : List Int) (n m : Nat) : Prop := ∃ A c B d, w.heap[g]? = some (.cells #[.slice A n c, .slice B m d] 52 (0, 0)) ∧ Sl .i64 (fun _ => True) w A c xs ∧ Sl .i64 (fun _ => True) w B d ys
theorem mvAn {w w' : World} {g n m : Nat} {xs ys : List Int} (h : Hid (An w g xs ys n m)) (hb : Below w.heap.size w w') : Hid (An w' g xs ys n m) := by
  obtain ⟨A, c, B, d, h1, h2, h3⟩ := h.out
  exact Lib.hid ⟨A, c, B, d, (hb.block g (heap_lt h1)).trans h1, h2.keep (Below.agree hb), h3.keep (Below.agree hb)⟩
theorem sumsN {q : Qy} {s : Str} {A L G : Option Addr} {cc cl cg f n nl ng : Nat} {xs : List Int} {S T U : Nat → Prop} (hx : sumsF q (liveF s) = xs) (hf : q.fs.length = f) (hn : xs.length = n) (hnl : s.l.length = nl) (hng : s.g.length = ng)
    (w : World) (hq : ValidQ q) (hw : wideB q = false) (ok : OkStr s) (hl : s.l.length ≤ 1000) (h : Sl cdE.slice S w A cc q.fs) (hL : Sl rdE T w L cl s.l) (hG : Sl .bool U w G cg s.g) :
    Calls Tryz.prog 9 #[(.agg #[.int .i64 q.kind, .int .i64 q.col, .int .i64 q.k, .slice A f cc]), .agg #[.slice L nl cl, .slice G ng cg]] w fun e w' => ∃ A c, e = .returned (.slice A n c) ∧ Sl .i64 (fun b => w.heap.size ≤ b) w' A c xs ∧ Below w.heap.size w w' := by
  subst hf; subst hn; subst hnl; subst hng; subst hx
  exact sumsE_new w hq hw ok hl h hL hG
/-- A stream's box. -/
def StB (w : World) (g : Nat) (s : Str) (nl ng : Nat) : Prop := ∃ L cl G cg, w.heap[g]? = some (.cells #[.slice L nl cl, .slice G ng cg] 31 (0, 0)) ∧ Sl rdE (fun _ => True) w L cl s.l ∧ Sl .bool (fun _ => True) w G cg s.g
theorem mvSt {w w' : World} {g n m : Nat} {s : Str} (h : Hid (StB w g s n m)) (hb : Below w.heap.size w w') : Hid (StB w' g s n m) := by
  obtain ⟨A, c, B, d, h1, h2, h3⟩ := h.out
  exact Lib.hid ⟨A, c, B, d, (hb.block g (heap_lt h1)).trans h1, h2.keep (Below.agree hb), h3.keep (Below.agree hb)⟩
theorem mvF {w w' : World} {A : Option Addr} {c : Nat} {l : List (List Cd)} (h : Hid (Sl cdE.slice (fun _ => True) w A c l)) (hb : Below w.heap.size w w') : Hid (Sl cdE.slice (fun _ => True) w' A c l) := Lib.hid (h.out.keep (Below.agree hb))
theorem two2 {W : World} {g : Nat} {u v : Value} {t : TypeId} (h : Hid (W.heap[g]? = some (.cells #[u, v] t (0, 0)))) : W.cell? ⟨g, 0, none⟩ = some u ∧ W.cell? ⟨g, 1, none⟩ = some v :=
  ⟨cell_of_row _ _ 0 _ _ _ h.out, cell_of_row _ _ 1 _ _ _ h.out⟩
end Go.Proofs.YtagadbdbbglddaaGreatDoor
namespace Go.Proofs.YtagadbdbbglddaaGreatDoor
open Go.RowKit

section
variable {F : Nat → Prop} {w0 wr w2 w6 : World} {B : Nat} {xs : List (List Int)} {v v' : Value} {x : List Int} {A : Option Addr} {c : Nat}
end

/-- Columns and the number of an error. -/
def ColRes (w : World) (p : List (List Int) × Int) (e : Ending) (w' : World) : Prop :=
  ∃ A c, e = .returned (.tuple #[.slice A p.1.length c, .int .i64 p.2]) ∧ Sl Enc.u64.slice (fun b => w.heap.size ≤ b) w' A c p.1 ∧ Below w.heap.size w w'
theorem ColRes.none {w w' : World} {k : Int} {e : Ending} (he : e = .returned (.tuple #[.slice none 0 0, .int .i64 k])) (hb : Below w.heap.size w w') : ColRes w ([], k) e w' :=
  ⟨_, 0, he, Sl.nil_ _ _ _ _ (Nat.zero_le _), hb⟩

end Go.Proofs.YtagadbdbbglddaaGreatDoor
namespace Go.Proofs.YtagadbdbbglddaaGreatDoor
open Go.RowKit

def ropE : Enc ROp := (Enc.u8.pair (Enc.u8.pair (Enc.u8.pair Enc.bool))).via fun o => (o.b0, o.b1, o.b2, o.back)
theorem ropE_open {S : Nat → Prop} {w : World} {cs : List Value} {o : ROp} (h : ropE.rep S w cs o) : cs = [.int .u8 (o.b0.toNat : Int), .int .u8 (o.b1.toNat : Int), .int .u8 (o.b2.toNat : Int), .bool o.back] := by
  obtain ⟨c1, d1, rfl, h1, c2, d2, rfl, h2, c3, d3, rfl, h3, h4⟩ := h
  cases h1; cases h2; cases h3; cases h4
  rfl
theorem rop_at {S : Nat → Prop} {w : World} {A : Option Addr} {c i : Nat} {l : List ROp} {o : ROp} (h : Sl ropE S w A c l) (hi : l[i]? = some o) :
    ∃ b f, A = some ⟨b, f, none⟩ ∧ S b ∧ b < w.heap.size ∧ w.cell? ⟨b, f + i * 4, none⟩ = some (.int .u8 (o.b0.toNat : Int)) ∧ w.cell? ⟨b, f + i * 4 + 1, none⟩ = some (.int .u8 (o.b1.toNat : Int)) ∧
      w.cell? ⟨b, f + i * 4 + 2, none⟩ = some (.int .u8 (o.b2.toNat : Int)) ∧ w.cell? ⟨b, f + i * 4 + 3, none⟩ = some (.bool o.back) := by
  obtain ⟨b, f, cs, hA, hS, hb, hr, hc⟩ := h.at' hi (by decide)
  obtain rfl := ropE_open hr
  exact ⟨b, f, hA, hS, hb, hc 0 _ rfl, hc 1 _ rfl, hc 2 _ rfl, hc 3 _ rfl⟩

/-- Block g holds the stream s; its slices lie in blocks of G. -/
def StAt (G : Nat → Prop) (w : World) (g : Nat) (s : Str) : Prop :=
  ∃ A c B d, w.heap[g]? = some (.cells #[.slice A s.l.length c, .slice B s.g.length d] 31 (0, 0)) ∧ Sl rdE G w A c s.l ∧ Sl .bool G w B d s.g
section
variable {G : Nat → Prop} {w w' : World} {g : Nat} {s : Str}
theorem StAt.below (h : StAt G w g s) (hb : Below w.heap.size w w') : StAt G w' g s := by
  obtain ⟨A, c, B, d, hg, h1, h2⟩ := h
  exact ⟨A, c, B, d, (hb.block g (heap_lt hg)).trans hg, h1.keep (Below.agree hb), h2.keep (Below.agree hb)⟩
theorem StAt.lt (h : StAt G w g s) : g < w.heap.size := by obtain ⟨A, c, B, d, hg, _⟩ := h; exact heap_lt hg
theorem StAt.open_ (h : StAt G w g s) : ∃ A c B d, w.cell? ⟨g, 0, none⟩ = some (.slice A s.l.length c) ∧ w.cell? ⟨g, 1, none⟩ = some (.slice B s.g.length d) ∧ w.frozen? ⟨g, 0, none⟩ = false ∧ w.frozen? ⟨g, 1, none⟩ = false ∧ g < w.heap.size ∧ Sl rdE G w A c s.l ∧ Sl .bool G w B d s.g := by
  obtain ⟨A, c, B, d, hg, h1, h2⟩ := h
  exact ⟨A, c, B, d, cell_of_row _ _ 0 _ _ _ hg, cell_of_row _ _ 1 _ _ _ hg, by simp [World.frozen?, hg], by simp [World.frozen?, hg], heap_lt hg, h1, h2⟩
/-- Stored into an existing box of streams. -/
theorem StAt.put {S : Nat → Prop} {A B : Option Addr} {c d : Nat} (hg : ∃ u v, w.heap[g]? = some (.cells #[u, v] 31 (0, 0))) (h1 : Sl rdE S w A c s.l) (h2 : Sl .bool S w B d s.g) (hS : ∀ b, S b → b < w.heap.size → G b ∧ b ≠ g) :
    StAt G ((w.setCell ⟨g, 0, none⟩ (.slice A s.l.length c)).setCell ⟨g, 1, none⟩ (.slice B s.g.length d)) g s := by
  obtain ⟨u, v, hg⟩ := hg
  have k1 := h1.sub (T := fun b => G b ∧ b ≠ g) hS
  have k2 := h2.sub (T := fun b => G b ∧ b ≠ g) hS
  exact ⟨A, c, B, d, heap_set (i := 1) (heap_set (i := 0) hg), (((k1.keep ((Agree.refl _ _).set (fun h => h.2 rfl) _)).keep ((Agree.refl _ _).set (fun h => h.2 rfl) _)).sub fun b hb _ => hb.1), (((k2.keep ((Agree.refl _ _).set (fun h => h.2 rfl) _)).keep ((Agree.refl _ _).set (fun h => h.2 rfl) _)).sub fun b hb _ => hb.1)⟩
theorem StAt.made {S : Nat → Prop} {A B : Option Addr} {c d : Nat} (h1 : Sl rdE S w A c s.l) (h2 : Sl .bool S w B d s.g) (hS : ∀ b, S b → b < w.heap.size → G b) (hg : g = w.heap.size) :
    StAt G (w.alloc (.cells #[.slice A s.l.length c, .slice B s.g.length d] 31)) g s :=
  ⟨A, c, B, d, heap_alloc_at hg, (h1.sub hS).keep ((Agree.refl _ _).alloc _), (h2.sub hS).keep ((Agree.refl _ _).alloc _)⟩
theorem StAt.box (h : StAt G w g s) : ∃ u v, w.heap[g]? = some (.cells #[u, v] 31 (0, 0)) := by obtain ⟨A, c, B, d, hg, _⟩ := h; exact ⟨_, _, hg⟩
end

theorem takeR_any {s : Str} {A B : Option Addr} {c d : Nat} {S : Nat → Prop} (r : Rd) (w : World) (h : Sl rdE S w A c s.l) (k : Sl .bool S w B d s.g) (ok : OkStr s) (hl : s.l.length ≤ 1000) :
    Calls Tryz.prog 20 #[.agg #[.slice A s.l.length c, .slice B s.g.length d], .agg #[.int .i64 r.who, .int .i64 r.whn, .int .i64 r.knd, .int .i64 r.val]] w (StRes S w (takeF s r)) := by
  cases hv : validB r with
  | true => exact takeR_ok r w hv h k hl (by rw [ok.len]; exact hl)
  | false => exact takeR_bad r w hv
theorem retractR_nat {s : Str} {A B : Option Addr} {c d i : Nat} {S : Nat → Prop} (w : World) (h : Sl rdE S w A c s.l) (k : Sl .bool S w B d s.g) (ok : OkStr s) (hl : s.l.length ≤ 1000) (hi : i < s.l.length) :
    Calls Tryz.prog 19 #[.agg #[.slice A s.l.length c, .slice B s.g.length d], .int .i64 i] w (StRes S w (retractF s i)) := by
  obtain ⟨b, hb⟩ : ∃ b, s.g[i]? = some b := ⟨_, List.getElem?_eq_getElem (by rw [ok.len]; exact hi)⟩
  cases b with
  | true => exact retractR_gone w k hi ok.len hb
  | false => exact retractR_ok w h k hi ok.len hl hb
theorem retractR_mod {s : Str} {A B : Option Addr} {c d : Nat} {b : UInt8} {S : Nat → Prop} {p : Str × Int} (w : World) (h : Sl rdE S w A c s.l) (k : Sl .bool S w B d s.g) (ok : OkStr s) (hl : s.l.length ≤ 1000) (hi : b.toNat % s.l.length < s.l.length) (hp : retractF s ((b.toNat % s.l.length : Nat) : Int) = p) :
    Calls Tryz.prog 19 #[.agg #[.slice A s.l.length c, .slice B s.g.length d], .int .i64 ((b.toNat : Int).tmod (s.l.length : Int))] w (StRes S w p) := by
  rw [show ((b.toNat : Int).tmod (s.l.length : Int)) = ((b.toNat % s.l.length : Nat) : Int) from rfl, ← hp]
  exact retractR_nat w h k ok hl hi
theorem takeR_eq {s : Str} {A B : Option Addr} {c d : Nat} {S : Nat → Prop} {p : Str × Int} (r : Rd) (w : World) (h : Sl rdE S w A c s.l) (k : Sl .bool S w B d s.g) (ok : OkStr s) (hl : s.l.length ≤ 1000) (hp : takeF s r = p) :
    Calls Tryz.prog 20 #[.agg #[.slice A s.l.length c, .slice B s.g.length d], .agg #[.int .i64 r.who, .int .i64 r.whn, .int .i64 r.knd, .int .i64 r.val]] w (StRes S w p) := by
  rw [← hp]; exact takeR_any r w h k ok hl

set_option maxRecDepth 100000 in
set_option maxHeartbeats 4000000 in
theorem madeR {most : Nat} {l : List ROp} {A : Option Addr} {c : Nat} {S : Nat → Prop} (w : World) (h : Sl ropE S w A c l) (hmost : most ≤ 1000) :
    Calls Tryz.prog 7 #[.slice A l.length c, .int .i64 most] w fun e w' => ∃ A' c' B' d', e = .returned (.agg #[.slice A' (madeF most l).l.length c', .slice B' (madeF most l).g.length d']) ∧ Sl rdE (fun b => w.heap.size ≤ b) w' A' c' (madeF most l).l ∧ Sl .bool (fun b => w.heap.size ≤ b) w' B' d' (madeF most l).g ∧ Below w.heap.size w w' := by
  have hm := h.max
  have H := Lib.hid h.old
  clear h
  go_enter Tryz.func7, Tryz.ntmps7
  go_wp2_with fail
  go_loopw [6] (fun i wr => ∃ j : Nat, j ≤ l.length ∧ i = .int .i64 j ∧ StAt (fun b => w.heap.size + 1 < b) wr (w.heap.size + 1) (madeF most (l.take j)) ∧ Below (w.heap.size + 1) (w.alloc (.cells #[.slice none 0 0, .slice none 0 0] 31)) wr) (fun i _ => l.length - (intOf i).toNat)
  case atStart =>
    refine ⟨0, Nat.zero_le _, rfl, StAt.made (s := emptyStr) (S := fun _ => False) (Sl.nil_ _ _ _ _ (Nat.zero_le _)) (Sl.nil_ _ _ _ _ (Nat.zero_le _)) (fun _ h _ => h.elim) (by simp), (Below.refl _ _).alloc (by simp) _⟩
  case round =>
    obtain ⟨j, hj, rfl, hst, hb⟩ := hrel
    obtain ⟨ok, hln⟩ := madeF_ok most (l.take j)
    have b1 : Below w.heap.size w wr := ((Below.refl _ _).alloc (Nat.le_refl _) _).trans (hb.mono (by omega))
    by_cases hlt : j < l.length
    · obtain ⟨o, ho⟩ : ∃ o, l[j]? = some o := ⟨_, List.getElem?_eq_getElem hlt⟩
      have hT := Lib.hid (madeF_take (most := most) ho)
      obtain ⟨b0, f0, rfl, hS0, hb0, x0, x1, x2, x3⟩ := rop_at (H.out.keep (Below.agree b1)) ho
      generalize madeF most (l.take j) = s at *
      obtain ⟨A1, c1, B1, d1, y0, y1, z0, z1, hlt5, hs1, hs2⟩ := hst.open_
      have Hs1 := Lib.hid hs1
      have Hs2 := Lib.hid hs2
      have Hst := Lib.hid hst
      have Hb := Lib.hid hb
      have B1' := Lib.hid b1
      have Ho := Lib.hid ho
      have hj0 : (0 : Int) ≤ (j : Int) := by omega
      have hj1 : (j : Int) < (l.length : Int) := by omega
      have hb0' : b0 < w.heap.size := hS0.2
      have hne : b0 ≠ w.heap.size + 1 := by omega
      have hne' : w.heap.size + 1 ≠ b0 := by omega
      clear hs1 hs2 hst hb b1 ho
      cases hbk : o.back with
      | true =>
        rw [hbk] at x3
        by_cases hpos : 0 < s.l.length
        · have hpos' : (0 : Int) < (s.l.length : Int) := by omega
          have hmod : (o.b0.toNat : Int) % (s.l.length : Int) = ((o.b0.toNat % s.l.length : Nat) : Int) := by simp
          have hml : o.b0.toNat % s.l.length < s.l.length := Nat.mod_lt _ hpos
          have hw0 := (byte_words 0 o.b0 0).1.2.1
          have hne0 : ((s.l.length : Int) == 0) = false := by rw [beq_eq_false_iff_ne]; omega
          have hne1 : ¬ (s.l.length : Int) = 0 := by omega
          have hnil : (s.l = []) = False := by simp only [eq_iff_iff, iff_false]; intro e; rw [e] at hpos; simp at hpos
          have hnn : (0 : Int) ≤ (o.b0.toNat : Int) := by omega
          have Hmod := Lib.hid hmod
          obtain ⟨p, hp⟩ : ∃ p, retractF s ((o.b0.toNat % s.l.length : Nat) : Int) = p := ⟨_, rfl⟩
          have Hp := Lib.hid hp
          have hl1000 : s.l.length ≤ 1000 := by omega
          clear hmod hp
          go_upto_region 6 with fail
          go_cut [7, 8] (fun v7 v8 wx => ∃ g, v7 = .pointer (some ⟨g, 0, none⟩) ∧ v8 = .int .i64 p.2 ∧ wr.heap.size ≤ g ∧ StAt (fun b => (fun b => w.heap.size + 1 < b) b ∧ b ≠ g) wx g p.1 ∧ Below wr.heap.size wr wx)
          case first =>
            have br : Below wr.heap.size wr wr := Below.refl _ _
            have rc := fun W (hW : Below wr.heap.size wr W) b o (hb : b < wr.heap.size) => hW.cell (p := ⟨b, o, none⟩) hb
            have hzr : w.heap.size + 1 < wr.heap.size := hlt5
            go_region_held3 (fun X => Below wr.heap.size wr X) (repeat' (first | with_reducible assumption | with_reducible refine Below.drew ?_ | with_reducible refine Below.alloc ?_ ?_ _ | with_reducible refine Below.setCell ?_ ?_ _ | (simp; done) | omega | (simp <;> omega)))
              (first | (go_at_call 19; refine (retractR_mod (S := fun b => (fun b => w.heap.size + 1 < b) b ∧ b < wr.heap.size) _ (Hs1.out.old.keep (Below.agree (by assumption))) (Hs2.out.old.keep (Below.agree (by assumption))) ok hl1000 hml Hp.out).mono ?_; rintro e w3 ⟨A5, c5, B5, d5, rfl, hs5, hg5, hb5⟩; have hb6 := Below.trans (by assumption : Below wr.heap.size wr _) (Below.mono hb5 (Below.size (by assumption))); have hz6 := hb6.size; obtain ⟨hd5, hdf5⟩ := bcell hb5; have hl5 := fun (b : Nat) h => Nat.lt_of_lt_of_le (n := b) h hb5.size))
            · go_wp2_with fail
              go_meet
              exact ⟨_, rfl, rfl, hz6, StAt.made hs5 hg5 (fun b hb hl => ⟨by rcases hb with hb | hb; exact hb.1; simp at hb; omega, by omega⟩) rfl, hb6.alloc hz6 _⟩
            · go_wp2_with fail
              go_meet
              exact ⟨_, rfl, rfl, Nat.le_refl _, StAt.put ⟨_, _, (hb5.block _ (by simp)).trans (heap_alloc_at rfl)⟩ hs5 hg5 (fun b hb hl => by rcases hb with hb | hb; exact ⟨⟨hb.1, by omega⟩, by omega⟩; simp at hb; exact ⟨⟨by omega, by omega⟩, by omega⟩), (hb6.setCell (Nat.le_refl _) _).setCell (Nat.le_refl _) _⟩
          case rest =>
            obtain ⟨g7, rfl, rfl, hg7, hst7, hbx⟩ := hcut
            have hstx := Hst.out.below hbx
            clear y0 y1 z0 z1 x0 x1 x2 x3
            obtain ⟨A1, c1, B1, d1, y0, y1, z0, z1, hlt5x, -, -⟩ := hstx.open_
            obtain ⟨A7, c7, B7, d7, u0, u1, -, -, hlt7, hs7, hg7s⟩ := hst7.open_
            have hn57 : w.heap.size + 1 ≠ g7 := by omega
            have hn75 : g7 ≠ w.heap.size + 1 := by omega
            have Hstx := Lib.hid hstx
            have Hs7 := Lib.hid hs7
            have Hg7 := Lib.hid hg7s
            have Hbx := Lib.hid (Hb.out.trans (hbx.mono (by omega)))
            clear hstx hs7 hg7s hbx hst7
            by_cases hp2 : p.2 = 0
            · have e2 : (p.2 == 0) = true := by simpa using hp2
              have Hp2 := Lib.hid hp2
              clear hp2
              go_wp2_with fail
              go_roundw
              case rel =>
                refine ⟨j + 1, by omega, by go_num, ?_, (Hbx.out.setCell (by simp) _).setCell (by simp) _⟩
                have e : stepM most s o = p.1 := by unfold stepM; rw [if_pos ⟨hbk, hpos⟩, Hp.out, if_pos Hp2.out]
                rw [hT.out, e]
                exact StAt.put Hstx.out.box Hs7.out Hg7.out (fun b hb _ => ⟨hb.1, by have := hb.1; omega⟩)
              case measure => simp [intOf]; omega
            · have e2 : (p.2 == 0) = false := by simpa using hp2
              have Hp2 := Lib.hid hp2
              clear hp2
              go_wp2_with fail
              go_roundw
              case rel =>
                refine ⟨j + 1, by omega, by go_num, ?_, Hbx.out⟩
                have e : stepM most s o = s := by unfold stepM; rw [if_pos ⟨hbk, hpos⟩, Hp.out, if_neg Hp2.out]
                rw [hT.out, e]
                exact Hstx.out
              case measure => simp [intOf]; omega
        · have hpos' : ¬ (0 : Int) < (s.l.length : Int) := by omega
          have hnil : s.l = [] := List.eq_nil_of_length_eq_zero (by omega)
          have hl0 : s.l.length = 0 := by omega
          have Hpos := Lib.hid hpos
          have Hnil := Lib.hid hnil
          clear hpos hpos'
          rw [hl0] at y0
          clear hl0 hnil
          go_wp2_with fail
          go_roundw
          case rel =>
            refine ⟨j + 1, by omega, by go_num, ?_, Hb.out⟩
            have e : stepM most s o = s := by unfold stepM; rw [if_neg (fun h => Hpos.out h.2), if_neg (fun h => h.1 hbk)]
            rw [hT.out, e]
            exact Hst.out
          case measure => simp [intOf]; omega
      | false =>
        rw [hbk] at x3
        by_cases hroom : s.l.length < most
        · have hroom' : (s.l.length : Int) < (most : Int) := by omega
          obtain ⟨p, hp⟩ : ∃ p, takeF s (rdOf o.b0 o.b1 o.b2) = p := ⟨_, rfl⟩
          have Hp := Lib.hid hp
          have hl1000 : s.l.length ≤ 1000 := by omega
          clear hp
          go_wp2_with fail
          go_region_law (first
            | (go_simp; go_at_call 21; refine (readingR o.b0 o.b1 o.b2 _).mono ?_; rintro e w4 ⟨rfl, hb3⟩; obtain ⟨hc3, hf3⟩ := bcellk (k := wr.heap.size) hb3 (by simp))
            | (go_simp; go_at_call 20; refine (takeR_eq (S := fun b => (fun b => w.heap.size + 1 < b) b ∧ b < wr.heap.size) (rdOf o.b0 o.b1 o.b2) _ ((Hs1.out.old.keep (by repeat' (first | with_reducible exact Agree.refl _ _ | with_reducible assumption | with_reducible refine Agree.set ?_ ?_ _ | with_reducible refine Agree.alloc ?_ _ | with_reducible refine Agree.drew ?_ | with_reducible refine Agree.drewN ?_ _ | omega | (simp <;> omega)))).keep (Below.agree hb3)) ((Hs2.out.old.keep (by repeat' (first | with_reducible exact Agree.refl _ _ | with_reducible assumption | with_reducible refine Agree.set ?_ ?_ _ | with_reducible refine Agree.alloc ?_ _ | with_reducible refine Agree.drew ?_ | with_reducible refine Agree.drewN ?_ _ | omega | (simp <;> omega)))).keep (Below.agree hb3)) ok hl1000 Hp.out).mono ?_; rintro e w5 ⟨A4, c4, B4, d4, rfl, hs4, hg4, hb4⟩; obtain ⟨hc4, hf4⟩ := bcellk (k := wr.heap.size) hb4 (by have := hb3.size; simp at this; omega)))
          all_goals
            have hb34 : Below wr.heap.size wr w5 := ((Below.refl _ _).drew.trans hb3).trans (hb4.mono hb3.size)
            have hz3 : wr.heap.size ≤ w4.heap.size := hb3.size
            go_wp2_with fail
            go_roundw
            case rel =>
              refine ⟨j + 1, by omega, by go_num, ?_, ((Hb.out.trans (hb34.mono (by omega))).setCell (by simp) _).setCell (by simp) _⟩
              have e : stepM most s o = p.1 := by unfold stepM; rw [if_neg (fun h => by simp [hbk] at h), if_pos ⟨by simp [hbk], hroom⟩, Hp.out]
              rw [hT.out, e]
              exact StAt.put (Hst.out.below hb34).box hs4 hg4 (fun b hb hl => by rcases hb with hb | hb; exact ⟨hb.1, by have := hb.1; omega⟩; exact ⟨by omega, by omega⟩)
            case measure => simp [intOf]; omega
        · have hroom' : ¬ (s.l.length : Int) < (most : Int) := by omega
          go_wp2_with fail
          go_roundw
          case rel =>
            refine ⟨j + 1, by omega, by go_num, ?_, Hb.out⟩
            have e : stepM most s o = s := by unfold stepM; rw [if_neg (fun h => by simp [hbk] at h), if_neg (fun h => hroom h.2)]
            rw [hT.out, e]
            exact Hst.out
          case measure => simp [intOf]; omega
    · have hjl : j = l.length := by omega
      subst hjl
      have hj1 : ¬ (l.length : Int) < (l.length : Int) := by omega
      rw [List.take_of_length_le (Nat.le_refl _)] at *
      obtain ⟨A1, c1, B1, d1, y0, y1, z0, z1, hlt5, hs1, hs2⟩ := hst.open_
      have hg0 : wr.heap[w.heap.size]? = some (.cells #[.slice none 0 0, .slice none 0 0] 31 (0, 0)) := (hb.block _ (by omega)).trans (heap_alloc_at rfl)
      have v0 := cell_of_row _ _ 0 _ _ _ hg0
      have v1 := cell_of_row _ _ 1 _ _ _ hg0
      simp only [List.getElem?_toArray, List.getElem?_cons_zero, List.getElem?_cons_succ] at v0 v1
      have t0 : wr.frozen? ⟨w.heap.size, 0, none⟩ = false := by simp [World.frozen?, hg0]
      have t1 : wr.frozen? ⟨w.heap.size, 1, none⟩ = false := by simp [World.frozen?, hg0]
      have hn1 : w.heap.size ≠ w.heap.size + 1 := by omega
      have Hs1 := Lib.hid hs1
      have Hs2 := Lib.hid hs2
      have B1' := Lib.hid b1
      clear hs1 hs2 hst hb b1 hg0
      go_wp2_with fail
      refine bodyPost_ret (v := .agg #[.slice A1 (madeF most l).l.length c1, .slice B1 (madeF most l).g.length d1]) (by simp [results, Tryz.results7, go_sem, *]) rfl ⟨A1, c1, B1, d1, rfl, ?_, ?_, (B1'.out.setCell (by simp) _).setCell (by simp) _⟩
      · exact (Hs1.out.keep (((Agree.refl _ _).set (by simp) _).set (by simp) _)).sub fun b hb _ => by omega
      · exact (Hs2.out.keep (((Agree.refl _ _).set (by simp) _).set (by simp) _)).sub fun b hb _ => by omega
end Go.Proofs.YtagadbdbbglddaaGreatDoor
namespace Go.Proofs.YtagadbdbbglddaaGreatDoor
open Go.RowKit Go.ChangeShapes Go.WideShapes Go.Deep

theorem cell_lt {w : World} {a : Addr} {u : Value} (h : w.cell? a = some u) : a.block < w.heap.size := by
  rcases Nat.lt_or_ge a.block w.heap.size with h' | h'
  · exact h'
  · unfold World.cell? at h
    rw [Array.getElem?_eq_none h'] at h
    simp at h

/-- Whatever reads as a value of type t is a value of E's. -/
def Reads {α : Type} (P : Program) (t : TypeId) (E : Enc α) : Prop :=
  ∀ (H : Type) (enc : TypeId × Value → H) (w : World) (base : Nat) (sp : Nat → Bool) (held : Bool) (n : Nat) (cs : List Value) (y : DataW H × List MemPlace),
    DataW.trod enc P w base sp held n t cs = some y → ∃ x, E.rep (fun _ => True) w cs x

section
variable {α β : Type} {P : Program} {t e : TypeId} {E : Enc α} {F : Enc β}

theorem Reads.i64 (ht : P.underlying t = some (.int .i64)) : Reads P t Enc.i64 := by
  intro H enc w base sp held n cs y h
  obtain ⟨k, rfl, _, _⟩ := DataW.trod_int ht h
  exact ⟨k, rfl⟩
theorem Reads.bool (ht : P.underlying t = some .bool) : Reads P t Enc.bool := by
  intro H enc w base sp held n cs y h
  obtain ⟨k, rfl, _⟩ := DataW.trod_bool ht h
  exact ⟨k, rfl⟩
theorem Reads.u8 (ht : P.underlying t = some (.int .u8)) : Reads P t Enc.u8 := by
  intro H enc w base sp held n cs y h
  obtain ⟨k, rfl, _, hw⟩ := DataW.trod_int ht h
  have hk : 0 ≤ k ∧ k < 256 := by
    have h1 : IntKind.u8.min = 0 := by decide
    have h2 : IntKind.u8.max = 255 := by decide
    simp only [Lit.wf, h1, h2, Bool.and_eq_true, decide_eq_true_eq] at hw
    omega
  exact ⟨UInt8.ofNat k.toNat, by
    show [Value.int .u8 k] = [Value.int .u8 _]
    have : ((UInt8.ofNat k.toNat).toNat : Int) = k := by simp; omega
    rw [this]⟩
theorem Reads.via {f : β → α} (g : α → β) (hg : ∀ x, f (g x) = x) (h : Reads P t E) : Reads P t (E.via f) := by
  intro H enc w base sp held n cs y hh
  obtain ⟨x, hx⟩ := h H enc w base sp held n cs y hh
  exact ⟨g x, by show E.rep _ _ _ (f (g x)); rw [hg]; exact hx⟩

/-- The fields from offset 'off' on lie as E says. -/
inductive ReadsFrom (P : Program) : List Field → Nat → {α : Type} → Enc α → Prop
  | last {f : Field} {off : Nat} {α : Type} {E : Enc α} (ho : f.offset = off) (hr : Reads P f.type E) (hc : P.cellsOf f.type = E.size) : ReadsFrom P [f] off E
  | cons {f : Field} {fs : List Field} {off : Nat} {α β : Type} {E : Enc α} {F : Enc β} (ho : f.offset = off) (hr : Reads P f.type E) (hc : P.cellsOf f.type = E.size) (h : ReadsFrom P fs (off + E.size) F) : ReadsFrom P (f :: fs) off (E.pair F)

theorem ReadsFrom.get {fs : List Field} {off : Nat} {α : Type} {E : Enc α} (h : ReadsFrom P fs off E) {H : Type} {enc : TypeId × Value → H} {w : World} {base : Nat} {sp : Nat → Bool} {held : Bool} {cs : List Value}
    (hf : ∀ f ∈ fs, ∃ n y, DataW.trod enc P w base sp held n f.type ((cs.drop f.offset).take (P.cellsOf f.type)) = some y) (hl : off + E.size = cs.length) : ∃ x, E.rep (fun _ => True) w (cs.drop off) x := by
  induction h with
  | @last f off α E ho hr hc =>
    obtain ⟨n, y, hy⟩ := hf f (by simp)
    obtain ⟨x, hx⟩ := hr _ _ _ _ _ _ _ _ _ hy
    rw [ho, hc, List.take_of_length_le (by rw [List.length_drop]; omega)] at hx
    exact ⟨x, hx⟩
  | @cons f fs off α β E F ho hr hc _ ih =>
    obtain ⟨n, y, hy⟩ := hf f (by simp)
    obtain ⟨x, hx⟩ := hr _ _ _ _ _ _ _ _ _ hy
    have hs : off + E.size + F.size = cs.length := by rw [← hl]; exact Nat.add_assoc _ _ _
    obtain ⟨z, hz⟩ := ih (fun g hg => hf g (by simp [hg])) hs
    rw [ho, hc] at hx
    exact ⟨(x, z), _, _, by rw [← List.drop_drop, List.take_append_drop], hx, hz⟩
theorem Reads.struct {fs : Array Field} (ht : P.underlying t = some (.struct fs)) (hs : P.cellsOf t = E.size) (h : ReadsFrom P fs.toList 0 E) : Reads P t E := by
  intro H enc w base sp held n cs y hh
  obtain ⟨xs, m, _, _, hcl, hxl, hf⟩ := DataW.trod_struct ht hh
  have := h.get (enc := enc) (w := w) (base := base) (sp := sp) (held := held) (cs := cs) (fun f hfm => by
    obtain ⟨i, hi⟩ := List.mem_iff_getElem?.1 hfm
    have hi' : fs[i]? = some f := by simpa using hi
    have h1 := hf i f hi'
    have hlt : i < xs.length := by rw [hxl]; exact (Array.getElem?_eq_some_iff.1 hi').1
    rw [List.getElem?_eq_getElem hlt] at h1
    exact ⟨m, _, h1⟩) (by rw [hcl, hs]; omega)
  simpa using this

theorem Reads.slice (ht : P.underlying t = some (.slice e)) (hC : P.cellsOf e = E.size) (he : Reads P e E) : Reads P t E.slice := by
  intro H enc w base sp held n cs y hh
  rcases open_slice ht hh with ⟨rfl, _⟩ | ⟨a, len, cap, m, n, D, Pl, rfl, hb, hl, hm, hmm, _, hi⟩
  · exact ⟨[], none, 0, rfl, Sl.nil_ _ _ _ _ (Nat.zero_le _)⟩
  · have hlm : len ≤ m := by rw [hmm]; split <;> omega
    have build : ∀ k, k ≤ len → ∃ (cs : List Value) (xs : List α), xs.length = k ∧ Elems E (fun _ => True) w cs xs ∧ ∀ j u, cs[j]? = some u → w.cell? (a.add j) = some u := by
      intro k
      induction k with
      | zero => exact fun _ => ⟨[], [], rfl, rfl, by simp⟩
      | succ k ih =>
        intro hk
        obtain ⟨cs, xs, hxl, hel, hc⟩ := ih (by omega)
        obtain ⟨cs', hcs', htr⟩ := hi k (by omega)
        obtain ⟨x, hx⟩ := he _ _ _ _ _ _ _ _ _ htr
        obtain ⟨_, hcl, hat⟩ := World.cells?_some hcs'
        have hcl' : cs'.length = E.size := E.len hx
        refine ⟨cs ++ cs', xs ++ [x], by simp [hxl], hel.snoc hx, fun j u hu => ?_⟩
        have hlen : cs.length = k * E.size := by rw [hel.len, hxl]
        rcases Nat.lt_or_ge j cs.length with hj | hj
        · rw [List.getElem?_append_left hj] at hu
          exact hc j u hu
        · rw [List.getElem?_append_right hj] at hu
          have hjl := (List.getElem?_eq_some_iff.1 hu).1
          have h1 := hat (i := j - cs.length) (by omega)
          rw [add_add', hC, hu] at h1
          rw [show k * E.size + (j - cs.length) = j from by omega] at h1
          exact h1
    obtain ⟨cs, xs, hxl, hel, hc⟩ := build len (Nat.le_refl _)
    refine ⟨xs, some a, cap, by rw [hxl], by rw [hxl]; exact hl, hm, cs, fun hne => ⟨a, rfl, trivial, ?_, hc⟩, hel⟩
    obtain ⟨v, vs, rfl⟩ := List.exists_cons_of_ne_nil hne
    have h1 := cell_lt (hc 0 v rfl)
    rwa [block_add] at h1

/-- An argument. -/
theorem Reads.arg (he : Reads P t E) {H : Type} {enc : TypeId × Value → H} {w : World} {base : Nat} {sp : Nat → Bool} {held : Bool} {v : Value} {d : DataW H} {p : List MemPlace}
    (h : DataW.Trod enc P w base sp held t v d p) : ∃ x, E.rep (fun _ => True) w v.cells.toList x := by
  obtain ⟨n, hn⟩ := h
  exact he _ _ _ _ _ _ _ _ _ hn
end
end Go.Proofs.YtagadbdbbglddaaGreatDoor
