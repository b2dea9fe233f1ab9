/-
  The type checker's law (XQ23): total.
-/
import Derived.Test.YtihcaoipemcddaaDoorQ21
namespace Go.Proofs.YtihcaoipemcddaaDoor
open Go.RowKit

theorem totalF_take {q : Qy} {l : List Rd} {j v : Nat} {r : Rd} (h : l[j]? = some r) : totalF q (l.take (j + 1)) v = totalF q (l.take j) v + termF q v r := by rw [take_snocR h, totalF_snoc]
/-- The state of total's round: the query's box, and nothing else turned. -/
def TotAt (w : World) (q : Qy) (A : Option Addr) (c : Nat) (wr : World) : Prop :=
  Below w.heap.size w wr ∧ wr.heap[w.heap.size]? = some (.cells #[.int .i64 q.kind, .int .i64 q.col, .int .i64 q.k, .slice A q.fs.length c] 24 (0, 0))
theorem TotAt.call {w wr w' : World} {q : Qy} {A : Option Addr} {c : Nat} (h : TotAt w q A c wr) (hb : Below wr.heap.size wr w') : TotAt w q A c w' :=
  ⟨h.1.trans (hb.mono h.1.size), (hb.block _ (heap_lt h.2)).trans h.2⟩
set_option maxRecDepth 100000 in
set_option maxHeartbeats 8000000 in
theorem totalL14 {q : Qy} {l : List Rd} {v : Nat} {A B : Option Addr} {c d : Nat} {S T : Nat → Prop} (w : World) (h : Sl cdE.slice S w A c q.fs) (k : Sl rdE T w B d l) (hq : ValidQ q) (hl : ∀ r ∈ l, ValidR r) (hn : l.length ≤ 40) (hv : v < 32) (hv7 : q.kind ≠ 7 → v < 16) :
    Calls Tryd.prog 21 #[(.agg #[.int .i64 q.kind, .int .i64 q.col, .int .i64 q.k, .slice A q.fs.length c]), .slice B l.length d, .int .i64 v] w fun e w' => e = .returned (.int .i64 (totalF q l v)) ∧ Below w.heap.size w w' := by
  have H := Lib.hid h
  have K := Lib.hid k
  have HQ := Lib.hid hq
  have HL := Lib.hid hl
  have hk6 : q.k ≤ 6 ∨ q.kind ≠ 3 := by
    by_cases h3 : q.kind = 3
    · left; have := hq.head.2.2.2.2.1; rw [h3] at this; exact this
    · exact .inr h3
  have hfl := hq.head.2.2.2.2.2.2
  have hfs0 : 0 < q.fs.length := by rw [hfl]; unfold nFilF; split <;> omega
  have HFL := Lib.hid hfl
  have hfs7 : q.kind = 7 → 1 < q.fs.length := fun h7 => by rw [hfl]; unfold nFilF; rw [if_pos h7]; omega
  clear hfl
  obtain ⟨hk1, hk7⟩ := hq.head.1
  obtain ⟨hc0, hc3⟩ := hq.head.2.1
  have hk0 := hq.head.2.2.2.1
  have HB := Lib.hid (fun j => totalF_bd (q := q) v hk6 (l := l.take j) fun r hr => hl r (List.mem_of_mem_take hr))
  clear h k hq hl
  obtain ⟨d16, hd16⟩ : ∃ d16 : Nat, v / 16 = d16 := ⟨_, rfl⟩
  obtain ⟨m16, hm16⟩ : ∃ m16 : Nat, v % 16 = m16 := ⟨_, rfl⟩
  have t16 : (v : Int).tdiv 16 = (d16 : Int) := by rw [← hd16]; rfl
  have r16 : (v : Int).tmod 16 = (m16 : Int) := by rw [← hm16]; rfl
  have hd2 : d16 < 2 := by omega
  have hm2 : m16 < 16 := by omega
  have D16 := Lib.hid hd16
  have M16 := Lib.hid hm16
  clear hd16 hm16
  go_enter Tryd.func21, Tryd.ntmps21
  go_wp2_with fail
  go_loopw [7, 8] (fun s i wr => ∃ j : Nat, j ≤ l.length ∧ i = .int .i64 j ∧ s = .int .i64 (totalF q (l.take j) v) ∧ Hid (TotAt w q A c wr)) (fun _ i _ => l.length - (intOf i).toNat)
  case atStart => exact ⟨0, Nat.zero_le _, rfl, rfl, Lib.hid ⟨(Below.refl _ _).alloc (Nat.le_refl _) _, heap_alloc_at rfl⟩⟩
  case round =>
    obtain ⟨j, hj, rfl, rfl, hT⟩ := hrel
    have hj0 : (0 : Int) ≤ (j : Int) := by omega
    obtain ⟨s, hs⟩ : ∃ s, totalF q (l.take j) v = s := ⟨_, rfl⟩
    rw [hs]
    have HS := Lib.hid hs
    have hsb := HB.out j
    rw [hs, List.length_take, Nat.min_eq_left hj] at hsb
    clear hs
    by_cases hlt : j < l.length
    · obtain ⟨r, hr⟩ : ∃ r, l[j]? = some r := ⟨_, List.getElem?_eq_getElem hlt⟩
      have hj1 : (j : Int) < (l.length : Int) := by omega
      have HN := Lib.hid (totalF_take (q := q) (v := v) hr)
      have HR := Lib.hid (HL.out r (List.mem_of_getElem? hr))
      have Hr := Lib.hid hr
      have htb := termF_bd (q := q) HR.out v hk6
      clear hr
      have hl : q.fs[0]? = some (fl q 0) := by unfold fl; rw [List.getD_eq_getElem?_getD, List.getElem?_eq_getElem hfs0]; rfl
      have H1 := Lib.hid (H.out.keep (Below.agree hT.out.1))
      have K1 := Lib.hid (K.out.keep (Below.agree hT.out.1))
      obtain ⟨b1, o1, B1, d1, rfl, -, l1, z1, hs1⟩ := flt_at H1.out hl
      simp only [Nat.add_zero] at z1
      have hvf := Lib.hid (HQ.out.flt _ (List.mem_of_getElem? hl)).2
      obtain ⟨b2, o2, rfl, -, l2, y0, y1, y2, y3⟩ := rd_at K1.out Hr.out
      have HS1 := Lib.hid hs1
      have hi0 : (0 : Int) < (q.fs.length : Int) := by omega
      clear hs1 hl
      obtain ⟨x0, x1, x2, x3⟩ := row4 (Lib.hid hT.out.2)
      have lq := heap_lt hT.out.2
      go_upto_region 5 with fail
      go_quiet (fail)
      go_upto_if 27 with fail
      go_cut [9, 10] (fun f cl wx => ∃ B3 d3, f = .slice B3 (filtF q v).length d3 ∧ cl = .int .i64 (colQ q) ∧ Hid (Sl cdE S wx B3 d3 (filtF q v)) ∧ Hid (∀ x ∈ filtF q v, ValidCd x) ∧ Below wr.heap.size wr wx)
      case first =>
        by_cases h7 : q.kind = 7
        · have e7 : (q.kind == 7) = true := by rw [h7]; rfl
          have hdl : d16 < q.fs.length := by have := HFL.out; rw [h7] at this; have h2 : nFilF 7 = 2 := rfl; omega
          have hl2 : q.fs[d16]? = some (fl q d16) := by unfold fl; rw [List.getD_eq_getElem?_getD, List.getElem?_eq_getElem hdl]; rfl
          have hff := Lib.hid (show filtF q v = fl q d16 by unfold filtF; rw [if_pos h7, D16.out])
          have hcc := Lib.hid (show colQ q = 0 by unfold colQ; rw [if_pos h7])
          obtain ⟨b1', o1', B3, d3, e2', -, l3, z3, hs3⟩ := flt_at H1.out hl2
          injection e2' with e2'
          injection e2' with e3' e4'
          subst e3'; subst e4'
          have HS3 := Lib.hid hs3
          have hvf2 := Lib.hid (HQ.out.flt _ (List.mem_of_getElem? hl2)).2
          have hdi0 : (0 : Int) ≤ (d16 : Int) := by omega
          have hdi1 : (d16 : Int) < (q.fs.length : Int) := by omega
          clear hs3 hl2 h7
          go_wp2_with fail
          go_meet
          case rel => exact ⟨B3, d3, by rw [hff.out], by rw [hcc.out], by rw [hff.out]; exact Lib.hid (HS3.out.keep (by repeat' (first | with_reducible exact Agree.refl _ _ | with_reducible assumption | with_reducible refine Agree.alloc ?_ _ | with_reducible refine Agree.drew ?_ | with_reducible refine Agree.drewN ?_ _ | with_reducible refine Agree.call ?_ (by with_reducible assumption)))), by rw [hff.out]; exact hvf2, below_drewN (Below.refl _ _) _⟩
        · have e7 : (q.kind == 7) = false := beqF h7
          have hff := Lib.hid (show filtF q v = fl q 0 by unfold filtF; rw [if_neg h7])
          have hcc := Lib.hid (show colQ q = q.col by unfold colQ; rw [if_neg h7])
          clear h7
          go_wp2_with fail
          go_meet
          case rel => exact ⟨B1, d1, by rw [hff.out], by rw [hcc.out], by rw [hff.out]; exact Lib.hid (HS1.out.keep (by repeat' (first | with_reducible exact Agree.refl _ _ | with_reducible assumption | with_reducible refine Agree.alloc ?_ _ | with_reducible refine Agree.drew ?_ | with_reducible refine Agree.drewN ?_ _ | with_reducible refine Agree.call ?_ (by with_reducible assumption)))), by rw [hff.out]; exact hvf, below_drewN (Below.refl _ _) _⟩
      obtain ⟨B3, d3, rfl, rfl, HF, HFV, hb3⟩ := hcut
      have T3 := Lib.hid (hT.out.call hb3)
      have K3 := Lib.hid (K1.out.keep (Below.agree hb3))
      clear x0 x1 x2 x3 y0 y1 y2 y3 z1 H1 HS1 l1 lq hvf hi0 d1 hfs7
      have l3 : b2 < wc.heap.size := Nat.lt_of_lt_of_le l2 hb3.size
      obtain ⟨b5, o5, e5, -, -, y0, y1, y2, y3⟩ := rd_at K3.out Hr.out
      injection e5 with e5
      injection e5 with e6 e7
      subst e6; subst e7
      have zx : ∀ W, Below wc.heap.size wc W → _ ∧ _ ∧ _ ∧ _ := fun W hW => row4 (Lib.hid (T3.out.call hW).2)
      have zy : ∀ W, Below wc.heap.size wc W → W.cell? ⟨b2, o2 + j * 4, none⟩ = some (.int .i64 r.who) ∧ W.cell? ⟨b2, o2 + j * 4 + 1, none⟩ = some (.int .i64 r.whn) ∧ W.cell? ⟨b2, o2 + j * 4 + 2, none⟩ = some (.int .i64 r.knd) ∧ W.cell? ⟨b2, o2 + j * 4 + 3, none⟩ = some (.int .i64 r.val) :=
        fun W hW => ⟨(hW.cell (p := ⟨b2, _, none⟩) l3).trans y0, (hW.cell (p := ⟨b2, _, none⟩) l3).trans y1, (hW.cell (p := ⟨b2, _, none⟩) l3).trans y2, (hW.cell (p := ⟨b2, _, none⟩) l3).trans y3⟩
      have br : Below wc.heap.size wc wc := Below.refl _ _
      have ba : ∀ W o, Below wc.heap.size wc W → Below wc.heap.size wc (W.alloc o) := fun W o h => h.alloc h.size o
      have bc : ∀ W W', Below wc.heap.size wc W → Below W.heap.size W W' → Below wc.heap.size wc W' := fun W W' h k => h.trans (k.mono h.size)
      obtain ⟨F, hF⟩ : ∃ F, filtF q v = F := ⟨_, rfl⟩
      obtain ⟨cl, hcl⟩ : ∃ cl, colQ q = cl := ⟨_, rfl⟩
      have hcl03 : 0 ≤ cl ∧ cl ≤ 3 := by rw [← hcl]; unfold colQ; split <;> omega
      obtain ⟨hcl0, hcl3⟩ := hcl03
      obtain ⟨y, hy⟩ : ∃ y, fldI r cl = y := ⟨_, rfl⟩
      have hyb : 0 ≤ y ∧ y ≤ 255 := by rw [← hy]; exact fldI_255 HR.out cl
      have HFF := Lib.hid hF
      have HCL := Lib.hid hcl
      have HY := Lib.hid hy
      rw [hF] at HF HFV
      rw [hF, hcl]
      clear hF hcl hy hb3
      have hj40 : j < 40 := by omega
      cases hmt : matchB F r with
      | false =>
        have HTT := Lib.hid (show termF q v r = 0 by unfold termF; rw [HFF.out, hmt]; rfl)
        go_wp2_with (go_at_call 27; refine (matchRef (l := F) (r := r) _ HF.out HFV.out).mono ?_; rw [hmt]; rintro e w4 ⟨rfl, hb4⟩; have z4 := hb4.size)
        go_roundw
        case rel => exact ⟨j + 1, by omega, by go_num, by rw [HN.out, HS.out, HTT.out, Int.add_zero], Lib.hid (T3.out.call (by assumption))⟩
        case measure => simp [intOf]; omega
      | true =>
        have HTT := Lib.hid (show termF q v r = unitF q v r by unfold termF; rw [HFF.out, hmt]; rfl)
        by_cases k1 : q.kind = 1
        · have e1 : (q.kind == 1) = true := by rw [k1]; rfl
          replace HTT := Lib.hid (show termF q v r = 1 by rw [HTT.out]; unfold unitF; rw [if_pos k1])
          clear k1 htb
          go_wp2_with (go_at_call 27; refine (matchRef (l := F) (r := r) _ HF.out HFV.out).mono ?_; rw [hmt]; rintro e w4 ⟨rfl, hb4⟩; have z4 := hb4.size)
          go_roundw
          case rel => exact ⟨j + 1, by omega, by go_num, by rw [HN.out, HS.out, HTT.out], Lib.hid (T3.out.call (by assumption))⟩
          case measure => simp [intOf]; omega
        have e1 : (q.kind == 1) = false := beqF k1
        by_cases k2 : q.kind = 2
        · have e2 : (q.kind == 2) = true := by rw [k2]; rfl
          replace HTT := Lib.hid (show termF q v r = y by rw [HTT.out]; unfold unitF; rw [if_neg k1, if_pos k2, ← HY.out, ← HCL.out]; unfold colQ; rw [if_neg (by omega)])
          clear k1 k2 htb
          go_wp2_with (first | (go_at_call 27; refine (matchRef (l := F) (r := r) _ HF.out HFV.out).mono ?_; rw [hmt]; rintro e w4 ⟨rfl, hb4⟩; have z4 := hb4.size) | (go_at_call 37; refine (fieldL14 (r := r) _ hcl0 hcl3).mono ?_; rw [HY.out]; rintro e w5 ⟨rfl, hb5⟩; have hk := bc _ _ (by (first | with_reducible assumption | (with_reducible refine Below.drew ?_; with_reducible assumption) | (with_reducible refine ba _ _ ?_; with_reducible assumption) | (with_reducible refine Below.drew ?_; with_reducible refine ba _ _ ?_; with_reducible assumption) | exact Below.refl _ _ | exact (Below.refl _ _).drew | exact (Below.refl _ _).alloc (Nat.le_refl _) _ | (refine bc _ _ (by assumption) (by assumption)))) hb5; clear hb5))
          go_roundw
          case rel => exact ⟨j + 1, by omega, by go_num, by rw [HN.out, HS.out, HTT.out], Lib.hid (T3.out.call (by assumption))⟩
          case measure => simp [intOf]; omega
        have e2 : (q.kind == 2) = false := beqF k2
        by_cases k3 : q.kind = 3
        · have e3 : (q.kind == 3) = true := by rw [k3]; rfl
          have hk6' : q.k ≤ 6 := by omega
          replace HTT := Lib.hid (show termF q v r = y ^ q.k.toNat by rw [HTT.out]; unfold unitF; rw [if_neg k1, if_neg k2, if_pos k3, ← HY.out, ← HCL.out]; unfold colQ; rw [if_neg (by omega)])
          obtain ⟨kk, hkk⟩ : ∃ kk : Nat, q.k = kk := ⟨q.k.toNat, by omega⟩
          rw [hkk] at HTT hk6'
          simp only [Int.toNat_natCast] at HTT
          have HKK := Lib.hid hkk
          have hpb := Lib.hid (fun a (ha : a ≤ 6) => pow_le_6 hyb.1 hyb.2 (k := a) ha)
          clear k1 k2 k3 htb
          have zx' : ∀ W, Below wc.heap.size wc W → W.cell? ⟨w.heap.size, 0, none⟩ = some (.int .i64 q.kind) ∧ W.cell? ⟨w.heap.size, 2, none⟩ = some (.int .i64 kk) := fun W hW => by
            obtain ⟨a, -, b, -⟩ := zx W hW
            rw [hkk] at b
            exact ⟨a, b⟩
          clear zx hkk
          go_wp2_with (go_at_call 27; refine (matchRef (l := F) (r := r) _ HF.out HFV.out).mono ?_; rw [hmt]; rintro e w4 ⟨rfl, hb4⟩; have z4 := hb4.size)
          go_loopw [11, 12] (fun x i wx => ∃ a : Nat, a ≤ kk ∧ i = .int .i64 a ∧ x = .int .i64 (y ^ a) ∧ Hid (Below wc.heap.size wc wx)) (fun _ i _ => kk - (intOf i).toNat)
          case atStart => exact ⟨0, Nat.zero_le _, rfl, by simp, Lib.hid (by assumption)⟩
          case round =>
            obtain ⟨a, ha, rfl, rfl, hbx⟩ := hrel
            have hk := hbx.out
            clear hb4
            obtain ⟨p, hp⟩ : ∃ p, y ^ a = p := ⟨_, rfl⟩
            have ha0 : (0 : Int) ≤ (a : Int) := by omega
            rw [hp]
            by_cases hak : a < kk
            · have ha1 : (a : Int) < (kk : Int) := by omega
              obtain ⟨P, hP⟩ : ∃ P, p * y = P := ⟨_, rfl⟩
              have hPP : P = y ^ (a + 1) := by rw [← hP, ← hp, Int.pow_succ]
              have hPb : 0 ≤ P ∧ P ≤ 274941996890625 := by rw [hPP]; exact hpb.out (a + 1) (by omega)
              have HP := Lib.hid hPP
              clear hp hPP
              go_wp2_with (go_at_call 37; refine (fieldL14 (r := r) _ hcl0 hcl3).mono ?_; rw [HY.out]; rintro e w5 ⟨rfl, hb5⟩; have hk := bc _ _ (by (first | with_reducible assumption | (with_reducible refine Below.drew ?_; with_reducible assumption) | (with_reducible refine ba _ _ ?_; with_reducible assumption) | (with_reducible refine Below.drew ?_; with_reducible refine ba _ _ ?_; with_reducible assumption) | exact Below.refl _ _ | exact (Below.refl _ _).drew | exact (Below.refl _ _).alloc (Nat.le_refl _) _ | (refine bc _ _ (by assumption) (by assumption)))) hb5; clear hb5)
              go_roundw
              case rel => exact ⟨a + 1, by omega, by go_num, by rw [HP.out], Lib.hid (by assumption)⟩
              case measure => simp [intOf]; omega
            · have ha1 : ¬ (a : Int) < (kk : Int) := by omega
              obtain rfl : a = kk := by omega
              have hpb2 : 0 ≤ p ∧ p ≤ 274941996890625 := by rw [← hp]; exact hpb.out a (by omega)
              replace HTT := Lib.hid (show termF q v r = p by rw [HTT.out, hp])
              clear hp
              go_wp2_with fail
              go_roundw
              case rel => exact ⟨j + 1, by omega, by go_num, by rw [HN.out, HS.out, HTT.out], Lib.hid (T3.out.call (by assumption))⟩
              case measure => simp [intOf]; omega
        have e3 : (q.kind == 3) = false := beqF k3
        by_cases hym : y = (m16 : Int)
        · have em : (y != (m16 : Int)) = false := by simp [hym]
          replace HTT := Lib.hid (show termF q v r = 1 by rw [HTT.out]; unfold unitF; rw [if_neg k1, if_neg k2, if_neg k3, HCL.out, HY.out, M16.out, if_pos hym])
          clear k1 k2 k3 hym htb
          go_wp2_with (first | (go_at_call 27; refine (matchRef (l := F) (r := r) _ HF.out HFV.out).mono ?_; rw [hmt]; rintro e w4 ⟨rfl, hb4⟩; have z4 := hb4.size) | (go_at_call 37; refine (fieldL14 (r := r) _ hcl0 hcl3).mono ?_; rw [HY.out]; rintro e w5 ⟨rfl, hb5⟩; have hk := bc _ _ (by (first | with_reducible assumption | (with_reducible refine Below.drew ?_; with_reducible assumption) | (with_reducible refine ba _ _ ?_; with_reducible assumption) | (with_reducible refine Below.drew ?_; with_reducible refine ba _ _ ?_; with_reducible assumption) | exact Below.refl _ _ | exact (Below.refl _ _).drew | exact (Below.refl _ _).alloc (Nat.le_refl _) _ | (refine bc _ _ (by assumption) (by assumption)))) hb5; clear hb5))
          go_roundw
          case rel => exact ⟨j + 1, by omega, by go_num, by rw [HN.out, HS.out, HTT.out], Lib.hid (T3.out.call (by assumption))⟩
          case measure => simp [intOf]; omega
        · have em : (y != (m16 : Int)) = true := by simp [hym]
          replace HTT := Lib.hid (show termF q v r = 0 by rw [HTT.out]; unfold unitF; rw [if_neg k1, if_neg k2, if_neg k3, HCL.out, HY.out, M16.out, if_neg hym])
          clear k1 k2 k3 hym htb
          go_wp2_with (first | (go_at_call 27; refine (matchRef (l := F) (r := r) _ HF.out HFV.out).mono ?_; rw [hmt]; rintro e w4 ⟨rfl, hb4⟩; have z4 := hb4.size) | (go_at_call 37; refine (fieldL14 (r := r) _ hcl0 hcl3).mono ?_; rw [HY.out]; rintro e w5 ⟨rfl, hb5⟩; have hk := bc _ _ (by (first | with_reducible assumption | (with_reducible refine Below.drew ?_; with_reducible assumption) | (with_reducible refine ba _ _ ?_; with_reducible assumption) | (with_reducible refine Below.drew ?_; with_reducible refine ba _ _ ?_; with_reducible assumption) | exact Below.refl _ _ | exact (Below.refl _ _).drew | exact (Below.refl _ _).alloc (Nat.le_refl _) _ | (refine bc _ _ (by assumption) (by assumption)))) hb5; clear hb5))
          go_roundw
          case rel => exact ⟨j + 1, by omega, by go_num, by rw [HN.out, HS.out, HTT.out, Int.add_zero], Lib.hid (T3.out.call (by assumption))⟩
          case measure => simp [intOf]; omega
    · have hj1 : ¬ (j : Int) < (l.length : Int) := by omega
      have he := Lib.hid (show totalF q l v = s by rw [← HS.out, List.take_of_length_le (by omega)])
      go_wp2_with fail
      go_ret
      exact ⟨ret_i he.out.symm, hT.out.1⟩
end Go.Proofs.YtihcaoipemcddaaDoor
