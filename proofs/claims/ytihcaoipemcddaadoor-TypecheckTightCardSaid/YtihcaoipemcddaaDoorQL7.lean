/-
  The law 'TypecheckTight', walked: it returns true for every input, and nothing that existed changes. Condition: the package's map lies as its text lays it.
-/
import Derived.Test.YtihcaoipemcddaaDoorQL6
namespace Go.Proofs.YtihcaoipemcddaaDoor
open Go.RowKit

theorem tight_ok {q : Qy} (hq : ValidQ q) {n : Int} (h0 : 0 ≤ n) (h1 : n ≤ 40) : (boundF q n).2 = true := by
  unfold boundF
  split
  · rename_i h3
    split
    · rename_i hs
      refine decide_eq_true ?_
      have hc := cap_nn hq (v := 0) (by omega)
      have hf : filtF q 0 = fl q 0 := by unfold filtF; rw [if_neg (by omega)]
      unfold capF at hc
      rw [if_pos h3, hf, if_pos hs] at hc
      unfold powF two62
      have := Int.mul_le_mul h1 hc.2 hc.1 (by omega : (0 : Int) ≤ 40)
      omega
    · rfl
  · split <;> rfl
theorem totalN {q : Qy} {l : List Rd} {v n : Nat} {s : Int} {A B : Option Addr} {c d : Nat} {S T : Nat → Prop} (hln : l.length = n) (w : World) (h : Sl cdE.slice S w A c q.fs) (k : Sl rdE T w B d l) (hq : ValidQ q) (hl : ∀ r ∈ l, ValidR r) (hn : l.length ≤ 40) (hv : v < 32) (hv7 : q.kind ≠ 7 → v < 16) (hs : totalF q l v = s) :
    Calls Tryd.prog 21 #[(.agg #[.int .i64 q.kind, .int .i64 q.col, .int .i64 q.k, .slice A q.fs.length c]), .slice B n d, .int .i64 v] w fun e w' => e = .returned (.int .i64 s) ∧ Below w.heap.size w w' := by
  subst hln; subst hs; exact totalL14 w h k hq hl hn hv hv7
theorem rdsTT : SlT Tryd.prog 38 40 rdE 32 := ⟨Tryd.underlying38, by kernel_rfl, by decide⟩
def qL7A : List FRow := [(0, ([], (77, [6]))), (1, ([], (78, [14]))), (2, ([], (79, [10]))), (3, ([0, 1, 2], (80, [76, 77, 78]))), (4, ([], (81, [8]))), (5, ([4], (82, [80]))), (6, ([], (83, [10]))), (7, ([5, 6], (84, [81, 82]))), (8, ([7], (85, [83]))), (9, ([3, 8], (86, [79, 84])))]
def qL7B : List FRow := [(0, ([], (87, [8]))), (1, ([0], (88, [86]))), (2, ([1], (89, [87]))), (3, ([], (90, [6]))), (4, ([3], (91, [89]))), (5, ([2, 4], (92, [88, 90]))), (6, ([5, 4], (93, [91]))), (7, ([6], (94, [5, 92]))), (8, ([6, 7], (95, [92, 93]))), (9, ([8, 6, 0, 1, 2, 3, 4, 5, 6, 7, 8], (5, [94])))]
set_option maxRecDepth 100000 in
set_option maxHeartbeats 8000000 in
theorem walk_TypecheckTight {q : Qy} {A : Option Addr} {c : Nat} {n : Int} (w : World) (hw : WidOk w) (h : Sl cdE.slice (fun _ => True) w A c q.fs) (_hc : -9223372036854775808 ≤ q.col ∧ q.col ≤ 9223372036854775807) (hn : 0 ≤ n ∧ n ≤ 255) :
    Calls Tryd.prog 5 #[(.agg #[.int .i64 q.kind, .int .i64 q.col, .int .i64 q.k, .slice A q.fs.length c]), .int .u8 n] w fun e w' => e = .returned (.bool true) ∧ Below w.heap.size w w' := by
  have HW := Lib.hid hw
  have H := Lib.hid h
  have hm := h.max
  obtain ⟨n, rfl⟩ : ∃ m : Nat, n = m := ⟨n.toNat, by omega⟩
  obtain ⟨rows, hr, hr1⟩ : ∃ r : Nat, (n : Int).tmod 41 = (r : Int) ∧ r < 41 := tmod_bd n 41 (by omega)
  have hwr : IntKind.u8.wrap (rows : Int) = (rows : Int) := IntWalk.u8_in _ (by omega)
  clear hw h
  go_enter Tryd.func5, Tryd.ntmps5
  go_upto_region 1 with fail
  refine wp_world (F := fun wx => Below w.heap.size w wx ∧ Hid (wx.heap[w.heap.size]? = some (.cells #[.int .i64 q.kind, .int .i64 q.col, .int .i64 q.k, .slice A q.fs.length c] 24 (0, 0)))) ⟨(by repeat' (first | with_reducible exact Below.refl _ _ | with_reducible assumption | with_reducible refine Below.setCell ?_ ?_ _ | with_reducible refine Below.drew ?_ | with_reducible refine below_drewN ?_ _ | with_reducible refine Below.alloc ?_ ?_ _ | (rintro _ ⟨⟩; simp <;> omega) | omega | (simp <;> omega))), Lib.hid (heap_alloc_at rfl)⟩ ?_
  rintro w1 ⟨bb, gq⟩
  have b1 := Lib.hid bb
  have W1 := mvW HW bb
  clear bb HW
  go_upto_region 2 with (go_at_call 10; refine (sanityL14 _ W1.out).mono ?_; rintro e w2 ⟨rfl, hb2⟩; have b2 := Lib.hid (b1.out.trans (hb2.mono b1.out.size)); have gq2 := mvQ gq hb2; have W2 := mvW W1 hb2; clear hb2)
  obtain ⟨x0, x1, x2, x3⟩ := row4 gq2
  have H2 := Lib.hid (H.out.keep (Below.agree b2.out))
  clear gq W1 b1 H
  go_cut [6, 7] (fun p s wx => ∃ (g : Nat) (x : Qy) (B : Option Addr) (d : Nat), p = .pointer (some ⟨g, 0, none⟩) ∧ s = .int .i64 rows ∧ ValidQ x ∧ NotWide x ∧ Hid (wx.heap[g]? = some (.cells #[.int .i64 x.kind, .int .i64 x.col, .int .i64 x.k, .slice B x.fs.length d] 24 (0, 0))) ∧ Sl cdE.slice (fun _ => True) wx B d x.fs ∧ Below w2.heap.size w2 wx)
  case first =>
    go_wp2_with (go_at_call 19; refine (made14P (q := q) _ H2.out).mono ?_; rintro e wC ⟨x, hv, hnw, B, d, rfl, hs, hbC⟩; have HC := Lib.hid hs; have bC := Lib.hid hbC; have HV := Lib.hid hv; have HN := Lib.hid hnw; clear hs hbC hv hnw)
    go_meet
    case rel => exact ⟨_, x, B, d, rfl, rfl, HV.out, HN.out, Lib.hid (heap_alloc_at rfl), (HC.out.sub (fun _ _ _ => trivial)).keep ((Agree.refl _ _).alloc _), bC.out.alloc bC.out.size _⟩
  obtain ⟨g, x, B, d, rfl, rfl, hv, hnw, gx, hs, hb⟩ := hcut
  obtain ⟨w3, hwv⟩ : ∃ x, x = wc := ⟨_, rfl⟩
  subst hwv
  have HV := Lib.hid hv
  have HNW := Lib.hid hnw
  have W3 := mvW W2 hb
  have b3 := Lib.hid (b2.out.trans (hb.mono b2.out.size))
  have F3 := Lib.hid hs
  clear hv hnw hs hb x0 x1 x2 x3 gq2 W2 b2 H2 hr hwr
  obtain ⟨y0, y1, y2, y3⟩ := row4 gx
  have HP := Lib.hid (show checkTF x rows = ((boundF x rows).1, 0) by rw [check_val HV.out HNW.out (n := rows) (by omega) (by omega), tight_ok HV.out (by omega) (by omega)]; rfl)
  obtain ⟨L, hL⟩ : ∃ L : Nat, (L : Int) = sumsC x.kind := ⟨(sumsC x.kind).toNat, by have := sums_le HV.out.head.1.1 HV.out.head.1.2; omega⟩
  have HLN := Lib.hid (show (boundF x rows).1.length = L by have := bound_len (q := x) (n := rows) HV.out.head.1.1 HV.out.head.1.2; omega)
  have hL32 : L ≤ 32 := by have := sums_le HV.out.head.1.1 HV.out.head.1.2; omega
  have HL16 := Lib.hid (fun (h : x.kind ≠ 7) => show L ≤ 16 by have := (sums_le HV.out.head.1.1 HV.out.head.1.2).2.2 h; omega)
  have HLS := Lib.hid hL
  have heqL : ((L : Int) == sumsC x.kind) = true := by rw [hL]; simp
  clear hL
  go_upto_region 3 with fail
  go_cut [8, 9] (fun p e wx => ∃ g, p = .pointer (some ⟨g, 0, none⟩) ∧ e = .int .i64 0 ∧ Bx wx g (boundF x rows).1 ∧ Below w3.heap.size w3 wx)
  case first =>
    go_wp2_with (go_at_call 11; refine (checkP (q := x) rows _ W3.out F3.out HP.out).mono ?_; rintro e wC ⟨B, d, rfl, hs, hbC⟩; have HC := Lib.hid hs; have bC := Lib.hid hbC; clear hs hbC)
    go_meet
    case rel => exact ⟨_, rfl, rfl, ⟨B, d, heap_alloc_at rfl, (HC.out.sub (fun _ _ _ => trivial)).keep ((Agree.refl _ _).alloc _)⟩, bC.out.alloc bC.out.size _⟩
  obtain ⟨g6, rfl, rfl, hbx, hb⟩ := hcut
  obtain ⟨w6, hwv⟩ : ∃ x, x = wc := ⟨_, rfl⟩
  subst hwv
  have b6 := Lib.hid (b3.out.trans (hb.mono b3.out.size))
  have gx6 := mvQ gx hb
  have F6 := Lib.hid (F3.out.keep (Below.agree hb))
  obtain ⟨B7, d7, y7, s7⟩ := hbx
  rw [HLN.out] at y7
  have Y7 := Lib.hid y7
  have S7 := Lib.hid s7
  have hm7 := s7.max
  rw [HLN.out] at hm7
  have z7 : ∀ W, Below w6.heap.size w6 W → _ ∧ _ ∧ _ := fun W hW => one (mvQ Y7 hW)
  have zx : ∀ W, Below w6.heap.size w6 W → _ ∧ _ ∧ _ ∧ _ := fun W hW => row4 (mvQ gx6 hW)
  have br : Below w6.heap.size w6 w6 := Below.refl _ _
  have ba : ∀ W o, Below w6.heap.size w6 W → Below w6.heap.size w6 (W.alloc o) := fun W o h => h.alloc h.size o
  have bc : ∀ W W', Below w6.heap.size w6 W → Below W.heap.size W W' → Below w6.heap.size w6 W' := fun W W' h k => h.trans (k.mono h.size)
  clear hb y7 s7 y0 y1 y2 y3 gx W3 b3 F3
  go_wp2_with fail
  go_loopw [10] (fun i wr => ∃ v : Nat, v ≤ L ∧ i = .int .i64 v ∧ Hid (Below w6.heap.size w6 wr)) (fun i _ => L - (intOf i).toNat)
  case atStart => exact ⟨0, Nat.zero_le _, rfl, Lib.hid br⟩
  case round =>
    obtain ⟨v, hv, rfl, hbr⟩ := hrel
    have hkr := hbr.out
    have hv0 : (0 : Int) ≤ (v : Int) := by omega
    by_cases hlt : v < L
    · have hv1 : (v : Int) < (L : Int) := by omega
      have hvs : (v : Int) < sumsC x.kind := by rw [← HLS.out]; exact hv1
      obtain ⟨bv, hbv⟩ : ∃ bv, (rows : Int) * capF x v = bv := ⟨_, rfl⟩
      obtain ⟨b9, o9, rfl, -, l9, v9⟩ := i64_at S7.out (i := v) (r := bv) (by rw [bound_at HV.out.head.1.1 HV.out.head.1.2 hvs, hbv])
      have zv : ∀ W, Below w6.heap.size w6 W → W.cell? ⟨b9, o9 + v, none⟩ = some (.int .i64 bv) := fun W hW => (hW.cell (p := ⟨b9, _, none⟩) l9).trans v9
      have HBV := Lib.hid hbv
      clear hbv
      by_cases hz : bv = 0
      · have hz0 : (bv == 0) = true := by simp [hz]
        clear hz
        go_wp2_with fail
        go_roundw
        case rel => exact ⟨v + 1, by omega, by go_num, hbr⟩
        case measure => simp [intOf]; omega
      · have hz0 : (bv == 0) = false := by simpa using hz
        have hv32 : v < 32 := by omega
        have hcap : capF x v ≠ 0 := fun h => hz (by rw [← HBV.out, h, Int.mul_zero])
        obtain ⟨hsat, hin, hterm⟩ := extr_cap HV.out hv32 hcap
        have hcq : 0 ≤ colQ x ∧ colQ x ≤ 3 := by have := HV.out.head.2.1; unfold colQ; split <;> omega
        have HSAT := Lib.hid hsat
        have HIN := Lib.hid hin
        have HTERM := Lib.hid hterm
        have HCQ := Lib.hid hcq
        have HFV := Lib.hid (filt_valid HV.out hv32)
        have HRV := Lib.hid (extr_valid HFV.out hsat hcq.1 hcq.2 hin)
        have hfl := HV.out.head.2.2.2.2.2.2
        have hfs0 : 0 < x.fs.length := by rw [hfl]; unfold nFilF; split <;> omega
        have HFL := Lib.hid hfl
        have hl : x.fs[0]? = some (fl x 0) := by unfold fl; rw [List.getD_eq_getElem?_getD, List.getElem?_eq_getElem hfs0]; rfl
        obtain ⟨b1, o1, B1, d1, rfl, -, l1, u1, hs1⟩ := flt_at F6.out hl
        simp only [Nat.add_zero] at u1
        have HS1 := Lib.hid hs1
        have zu : ∀ W, Below w6.heap.size w6 W → W.cell? ⟨b1, o1, none⟩ = some (.slice B1 (fl x 0).length d1) := fun W hW => (hW.cell (p := ⟨b1, o1, none⟩) l1).trans u1
        have hi0 : (0 : Int) < (x.fs.length : Int) := by omega
        obtain ⟨d16, hd16⟩ : ∃ d16 : Nat, v / 16 = d16 := ⟨_, rfl⟩
        obtain ⟨m16, hm16⟩ : ∃ m16 : Nat, v % 16 = m16 := ⟨_, rfl⟩
        have t16 : (v : Int).tdiv 16 = (d16 : Int) := by rw [← hd16]; rfl
        have r16 : (v : Int).tmod 16 = (m16 : Int) := by rw [← hm16]; rfl
        have hd2 : d16 < 2 := by omega
        have hm2 : m16 < 16 := by omega
        have D16 := Lib.hid hd16
        have M16 := Lib.hid hm16
        clear hd16 hm16 hz hcap hsat hin hterm hcq hl hs1 u1 hfl
        go_upto_region 10 with fail
        go_quiet (fail)
        go_upto_if 51 with fail
        go_cut [13] (fun s wx => s = .int .i64 (wantF x v) ∧ Below w6.heap.size w6 wx)
        case first =>
          by_cases h4 : 4 ≤ x.kind
          · have HWN := Lib.hid (show wantF x v = (m16 : Int) by unfold wantF; rw [if_pos h4, M16.out])
            go_wp2_with fail
            go_meet
            exact ⟨by rw [HWN.out], below_drewN hkr _⟩
          · have HWN := Lib.hid (show wantF x v = -1 by unfold wantF; rw [if_neg h4])
            have f4 : decide (4 ≤ x.kind) = false := decide_eq_false h4
            go_wp2_with fail
            go_meet
            exact ⟨by rw [HWN.out], below_drewN hkr _⟩
        obtain ⟨rfl, hb7⟩ := hcut
        go_upto_if 56 with fail
        go_cut [11, 12] (fun f cl wx => ∃ B3 d3, f = .slice B3 (filtF x v).length d3 ∧ cl = .int .i64 (colQ x) ∧ Hid (Sl cdE (fun _ => True) w6 B3 d3 (filtF x v)) ∧ Below w6.heap.size w6 wx)
        case first =>
          by_cases h7 : x.kind = 7
          · have e7 : (x.kind == 7) = true := by rw [h7]; rfl
            have hdl : d16 < x.fs.length := by have := HFL.out; rw [h7] at this; have h2 : nFilF 7 = 2 := rfl; omega
            have hl2 : x.fs[d16]? = some (fl x d16) := by unfold fl; rw [List.getD_eq_getElem?_getD, List.getElem?_eq_getElem hdl]; rfl
            have hff := Lib.hid (show filtF x v = fl x d16 by unfold filtF; rw [if_pos h7, D16.out])
            have hcc := Lib.hid (show colQ x = 0 by unfold colQ; rw [if_pos h7])
            obtain ⟨b1', o1', B3, d3, e2', -, l3, z3, hs3⟩ := flt_at F6.out hl2
            injection e2' with e2'
            injection e2' with e3' e4'
            subst e3'; subst e4'
            have HS3 := Lib.hid hs3
            have zw : ∀ W, Below w6.heap.size w6 W → W.cell? ⟨b1, o1 + d16, none⟩ = some (.slice B3 (fl x d16).length d3) := fun W hW => (hW.cell (p := ⟨b1, _, none⟩) l3).trans z3
            have hdi0 : (0 : Int) ≤ (d16 : Int) := by omega
            have hdi1 : (d16 : Int) < (x.fs.length : Int) := by omega
            clear hs3 hl2 h7 z3
            go_wp2_with fail
            go_meet
            case rel => exact ⟨B3, d3, by rw [hff.out], by rw [hcc.out], by rw [hff.out]; exact HS3, hb7⟩
          · have e7 : (x.kind == 7) = false := beqF h7
            have hff := Lib.hid (show filtF x v = fl x 0 by unfold filtF; rw [if_neg h7])
            have hcc := Lib.hid (show colQ x = x.col by unfold colQ; rw [if_neg h7])
            clear h7
            go_wp2_with fail
            go_meet
            case rel => exact ⟨B1, d1, by rw [hff.out], by rw [hcc.out], by rw [hff.out]; exact HS1, hb7⟩
        obtain ⟨B3, d3, rfl, rfl, HF, hb8⟩ := hcut
        obtain ⟨R, hR⟩ : ∃ R, extrF (filtF x v) (colQ x) (wantF x v) = R := ⟨_, rfl⟩
        have HR := Lib.hid hR
        clear hb7 hR
        obtain ⟨wo, hwo⟩ : ∃ wo : World, wo = wc := ⟨_, rfl⟩
        subst hwo
        have hzo := hb8.size
        go_wp2_with fail
        go_loopw [14, 15] (fun s i wr => ∃ (j : Nat) (B4 : Option Addr) (d4 : Nat), j ≤ rows ∧ i = .int .i64 j ∧ s = .slice B4 j d4 ∧ Own rdE (fun _ => False) wr wo.heap.size 40 (.slice B4 j d4) (List.replicate j R) ∧ Below wo.heap.size wo wr) (fun _ i _ => rows - (intOf i).toNat)
        case atStart => exact ⟨0, some ⟨wo.heap.size, 0, none⟩, 0, Nat.zero_le _, rfl, rfl, Own.litAt _ _ _ _ rfl (Nat.le_refl _), (Below.refl _ _).alloc (Nat.le_refl _) _⟩
        case round =>
          obtain ⟨j, B4, d4, hj, rfl, rfl, ho, hbi⟩ := hrel
          have HO := Lib.hid ho
          have HBI := Lib.hid hbi
          have h6r := hb8.trans (hbi.mono hzo)
          have lo := ho.lt
          clear ho hbi
          have hj0 : (0 : Int) ≤ (j : Int) := by omega
          by_cases hjr : j < rows
          · have hj1 : (j : Int) < (rows : Int) := by omega
            go_wp2_with (first
              | (go_at_call 22; refine (extremeL14 (l := filtF x v) (v := wantF x v) _ (HF.out.keep (Below.agree h6r)) HCQ.out.1 HCQ.out.2).mono ?_; rw [HR.out]; rintro e w4 ⟨rfl, hb4⟩; have HB4 := Lib.hid hb4; have HO4 := Lib.hid (HO.out.call hb4); have lo4 := HO4.out.lt; have lz4 := hb4.size; have lz5 := HBI.out.size; clear hb4)
              | (at_builtin; go_must ((refine wpList_append_E (S := fun b => b = w4.heap.size) rfl (.tmp 69) (.tmp 74) rfl rdsTT (base := wo.heap.size) (v := .slice B4 j d4) (xs := List.replicate j R) (ys := [R]) (by rfl) (by rfl) rfl (nz := j + 1) (by simp) ((HO4.out.flat rdE_flat).alloc _) (Sl.litAt (S := fun b => b = w4.heap.size) rfl (.single rdE_shut) (by unfold maxLen; simp) (fun _ h _ => h) rfl) (by unfold maxLen; simp; omega) (by simp; omega) (by simp; omega) (fun g hg (hs : g = w4.heap.size) => absurd (lo4 g hg).2 (by omega)) ?_; intro A6 c6 w6_ hown6 hg6 hor6))))
            go_roundw
            case rel => exact ⟨j + 1, A6, c6, by omega, by go_num, rfl, by rw [List.replicate_succ']; exact hown6.flat rdE_flat, ((HBI.out.trans (HB4.out.mono HBI.out.size)).alloc (by omega) _).grown hg6 (by simp; omega) (fun g hg => (lo4 g hg).1)⟩
            case measure => simp [intOf]; omega
          · have hj1 : ¬ (j : Int) < (rows : Int) := by omega
            obtain rfl : j = rows := by omega
            have S8 := Lib.hid (HO.out.toSl (T := fun _ => True) (fun _ h _ => h.elim) (fun _ _ _ _ => trivial))
            have zx' : ∀ W, Below wr.heap.size wr W → _ ∧ _ ∧ _ ∧ _ := fun W hW => zx W (bc _ _ h6r hW)
            have z7' : ∀ W, Below wr.heap.size wr W → _ ∧ _ ∧ _ := fun W hW => z7 W (bc _ _ h6r hW)
            have zv' : ∀ W, Below wr.heap.size wr W → W.cell? ⟨b9, o9 + v, none⟩ = some (.int .i64 bv) := fun W hW => zv W (bc _ _ h6r hW)
            have hl6 := h6r.size
            clear zx z7 zv zu br ba bc
            have br : Below wr.heap.size wr wr := Below.refl _ _
            have ba : ∀ W o, Below wr.heap.size wr W → Below wr.heap.size wr (W.alloc o) := fun W o h => h.alloc h.size o
            have bc : ∀ W W', Below wr.heap.size wr W → Below W.heap.size W W' → Below wr.heap.size wr W' := fun W W' h k => h.trans (k.mono h.size)
            have F8 := Lib.hid (F6.out.keep (Below.agree h6r))
            have HT := Lib.hid (show totalF x (List.replicate j R) v = bv by rw [total_rep, ← HR.out, HTERM.out, HBV.out])
            have hbb : (bv != bv) = false := by simp
            have HV7 := Lib.hid (fun (h : x.kind ≠ 7) => show v < 16 by have := HL16.out h; omega)
            go_upto_region 21 with fail
            refine wp_region_noPanic ?_
            refine wp_region_held_drew (S := fun X => Below wr.heap.size wr X) (by kernel_rfl) ?_ (fun hHeld => ?_)
            · (first | with_reducible assumption | (with_reducible refine Below.drew ?_; with_reducible assumption) | (with_reducible refine ba _ _ ?_; with_reducible assumption) | (with_reducible refine Below.drew ?_; with_reducible refine ba _ _ ?_; with_reducible assumption) | exact Below.refl _ _ | exact (Below.refl _ _).drew | exact (Below.refl _ _).alloc (Nat.le_refl _) _ | (refine bc _ _ (by assumption) (by assumption)))
            refine RegOk.begin_ (n := 10) (T := qL7A) ⟨by kernel_rfl, by kernel_rfl, by kernel_rfl, by kernel_rfl⟩ fun hR => ?_
            refine hR.take (i := 0) (oi := ?ow1_0) (v := ?vw1_0) (m' := 1) ?hw1_0 (by kernel_rfl) (by kernel_rfl) (fun _ _ _ h => h) (Or.inl ⟨?sw1_0, ?yw1_0⟩) (by assumption) ?nw1_0
            case hw1_0 => simp only [List.getElem?_toArray, List.getElem?_cons_succ, List.getElem?_cons_zero]; rfl
            case sw1_0 => rfl
            case yw1_0 => (intro w hSw; (try dsimp only at hSw); go_simp <;> with_reducible rfl)
            try simp only [Act.put, List.setIfInBounds_toArray, List.set_cons_zero, List.set_cons_succ]
            refine hR.take (i := 1) (oi := ?ow2_1) (v := ?vw2_1) (m' := 3) ?hw2_1 (by kernel_rfl) (by kernel_rfl) (fun _ _ _ h => h) (Or.inl ⟨?sw2_1, ?yw2_1⟩) (by assumption) ?nw2_1
            case hw2_1 => simp only [List.getElem?_toArray, List.getElem?_cons_succ, List.getElem?_cons_zero]; rfl
            case sw2_1 => rfl
            case yw2_1 => (intro w hSw; (try dsimp only at hSw); go_simp <;> with_reducible rfl)
            try simp only [Act.put, List.setIfInBounds_toArray, List.set_cons_zero, List.set_cons_succ]
            refine hR.take (i := 2) (oi := ?ow3_2) (v := ?vw3_2) (m' := 7) ?hw3_2 (by kernel_rfl) (by kernel_rfl) (fun _ _ _ h => h) (Or.inl ⟨?sw3_2, ?yw3_2⟩) (by assumption) ?nw3_2
            case hw3_2 => simp only [List.getElem?_toArray, List.getElem?_cons_succ, List.getElem?_cons_zero]; rfl
            case sw3_2 => rfl
            case yw3_2 => (intro w hSw; (try dsimp only at hSw); go_simp <;> with_reducible rfl)
            try simp only [Act.put, List.setIfInBounds_toArray, List.set_cons_zero, List.set_cons_succ]
            refine hR.take (i := 4) (oi := ?ow4_4) (v := ?vw4_4) (m' := 23) ?hw4_4 (by kernel_rfl) (by kernel_rfl) (fun _ _ _ h => h) (Or.inl ⟨?sw4_4, ?yw4_4⟩) (by assumption) ?nw4_4
            case hw4_4 => simp only [List.getElem?_toArray, List.getElem?_cons_succ, List.getElem?_cons_zero]; rfl
            case sw4_4 => rfl
            case yw4_4 => (intro w hSw; (try dsimp only at hSw); go_simp <;> with_reducible rfl)
            try simp only [Act.put, List.setIfInBounds_toArray, List.set_cons_zero, List.set_cons_succ]
            refine hR.take (i := 5) (oi := ?ow5_5) (v := ?vw5_5) (m' := 55) ?hw5_5 (by kernel_rfl) (by kernel_rfl) (fun _ _ _ h => h) (Or.inl ⟨?sw5_5, ?yw5_5⟩) (by assumption) ?nw5_5
            case hw5_5 => simp only [List.getElem?_toArray, List.getElem?_cons_succ, List.getElem?_cons_zero]; rfl
            case sw5_5 => rfl
            case yw5_5 => (intro w hSw; (try dsimp only at hSw); go_simp <;> with_reducible rfl)
            try simp only [Act.put, List.setIfInBounds_toArray, List.set_cons_zero, List.set_cons_succ]
            refine hR.take (i := 6) (oi := ?ow6_6) (v := ?vw6_6) (m' := 119) ?hw6_6 (by kernel_rfl) (by kernel_rfl) (fun _ _ _ h => h) (Or.inl ⟨?sw6_6, ?yw6_6⟩) (by assumption) ?nw6_6
            case hw6_6 => simp only [List.getElem?_toArray, List.getElem?_cons_succ, List.getElem?_cons_zero]; rfl
            case sw6_6 => rfl
            case yw6_6 => (intro w hSw; (try dsimp only at hSw); go_simp <;> with_reducible rfl)
            try simp only [Act.put, List.setIfInBounds_toArray, List.set_cons_zero, List.set_cons_succ]
            refine hR.take (i := 7) (oi := ?ow7_7) (v := ?vw7_7) (m' := 247) ?hw7_7 (by kernel_rfl) (by kernel_rfl) (fun _ _ _ h => h) (Or.inl ⟨?sw7_7, ?yw7_7⟩) (by assumption) ?nw7_7
            case hw7_7 => simp only [List.getElem?_toArray, List.getElem?_cons_succ, List.getElem?_cons_zero]; rfl
            case sw7_7 => rfl
            case yw7_7 => (intro w hSw; (try dsimp only at hSw); go_simp <;> with_reducible rfl)
            try simp only [Act.put, List.setIfInBounds_toArray, List.set_cons_zero, List.set_cons_succ]
            refine hR.take (i := 8) (oi := ?ow8_8) (v := ?vw8_8) (m' := 503) ?hw8_8 (by kernel_rfl) (by kernel_rfl) (fun _ _ _ h => h) (Or.inl ⟨?sw8_8, ?yw8_8⟩) (by assumption) ?nw8_8
            case hw8_8 => simp only [List.getElem?_toArray, List.getElem?_cons_succ, List.getElem?_cons_zero]; rfl
            case sw8_8 => rfl
            case yw8_8 => (intro w hSw; (try dsimp only at hSw); go_simp <;> with_reducible rfl)
            try simp only [Act.put, List.setIfInBounds_toArray, List.set_cons_zero, List.set_cons_succ]
            refine hR.come (rs := [3]) (by kernel_rfl) (by simp) ?_
            refine AllReadyH.cons (o := ?o9_3) ?h9_3 (fun K hK => ?kw9_3) AllReadyH.nil
            case h9_3 => simp only [List.getElem?_toArray, List.getElem?_cons_succ, List.getElem?_cons_zero]; rfl
            go_simp
            go_at_call 21; refine (totalN (q := x) (l := List.replicate j R) (by simp) (v := v) _ (F8.out.keep (Below.agree (by (first | with_reducible assumption | (with_reducible refine Below.drew ?_; with_reducible assumption) | (with_reducible refine ba _ _ ?_; with_reducible assumption) | (with_reducible refine Below.drew ?_; with_reducible refine ba _ _ ?_; with_reducible assumption) | exact Below.refl _ _ | exact (Below.refl _ _).drew | exact (Below.refl _ _).alloc (Nat.le_refl _) _ | (refine bc _ _ (by assumption) (by assumption)))))) (S8.out.keep (Below.agree (by (first | with_reducible assumption | (with_reducible refine Below.drew ?_; with_reducible assumption) | (with_reducible refine ba _ _ ?_; with_reducible assumption) | (with_reducible refine Below.drew ?_; with_reducible refine ba _ _ ?_; with_reducible assumption) | exact Below.refl _ _ | exact (Below.refl _ _).drew | exact (Below.refl _ _).alloc (Nat.le_refl _) _ | (refine bc _ _ (by assumption) (by assumption)))))) HV.out (fun r hr => by rw [List.eq_of_mem_replicate hr, ← HR.out]; exact HRV.out) (by simp; omega) hv32 HV7.out HT.out).mono ?_; rintro e w9 ⟨rfl, h9⟩; have hk9 := bc _ _ (by (first | with_reducible assumption | (with_reducible refine Below.drew ?_; with_reducible assumption) | (with_reducible refine ba _ _ ?_; with_reducible assumption) | (with_reducible refine Below.drew ?_; with_reducible refine ba _ _ ?_; with_reducible assumption) | exact Below.refl _ _ | exact (Below.refl _ _).drew | exact (Below.refl _ _).alloc (Nat.le_refl _) _ | (refine bc _ _ (by assumption) (by assumption)))) h9; clear h9
            refine hK.out _ _ ?_ (fun hHeld => ?_)
            · (first | with_reducible assumption | (with_reducible refine Below.drew ?_; with_reducible assumption) | (with_reducible refine ba _ _ ?_; with_reducible assumption) | (with_reducible refine Below.drew ?_; with_reducible refine ba _ _ ?_; with_reducible assumption) | exact Below.refl _ _ | exact (Below.refl _ _).drew | exact (Below.refl _ _).alloc (Nat.le_refl _) _ | (refine bc _ _ (by assumption) (by assumption)))
            clear hK K
            refine RegOk.put_ (m' := 511) (by kernel_rfl) ?_
            try simp only [Act.put, List.setIfInBounds_toArray, List.set_cons_zero, List.set_cons_succ]
            refine hR.take (i := 9) (oi := ?ow10_9) (v := ?vw10_9) (m' := 1023) ?hw10_9 (by kernel_rfl) (by kernel_rfl) (fun _ _ _ h => h) (Or.inl ⟨?sw10_9, ?yw10_9⟩) (by assumption) ?nw10_9
            case hw10_9 => simp only [List.getElem?_toArray, List.getElem?_cons_succ, List.getElem?_cons_zero]; rfl
            case sw10_9 => rfl
            case yw10_9 => (intro w hSw; (try dsimp only at hSw); go_simp <;> with_reducible rfl)
            try simp only [Act.put, List.setIfInBounds_toArray, List.set_cons_zero, List.set_cons_succ]
            refine hR.all (by kernel_rfl) ?_ _
            refine NoPanic.normal ?_
            go_wp2_with fail
            go_roundw
            case rel => exact ⟨v + 1, by omega, by go_num, Lib.hid (h6r.trans (Below.mono (by assumption) hl6))⟩
            case measure => simp [intOf]; omega
    · have hv1 : ¬ (v : Int) < (L : Int) := by omega
      go_upto_region 23 with fail
      refine wp_region_noPanic ?_
      refine wp_region_held_drew (S := fun X => Below w6.heap.size w6 X) (by kernel_rfl) ?_ (fun hHeld => ?_)
      · (first | with_reducible assumption | (with_reducible refine Below.drew ?_; with_reducible assumption) | (with_reducible refine ba _ _ ?_; with_reducible assumption) | (with_reducible refine Below.drew ?_; with_reducible refine ba _ _ ?_; with_reducible assumption) | exact Below.refl _ _ | exact (Below.refl _ _).drew | exact (Below.refl _ _).alloc (Nat.le_refl _) _ | (refine bc _ _ (by assumption) (by assumption)))
      refine RegOk.begin_ (n := 10) (T := qL7B) ⟨by kernel_rfl, by kernel_rfl, by kernel_rfl, by kernel_rfl⟩ fun hR => ?_
      refine hR.take (i := 0) (oi := ?ow11_0) (v := ?vw11_0) (m' := 1) ?hw11_0 (by kernel_rfl) (by kernel_rfl) (fun _ _ _ h => h) (Or.inl ⟨?sw11_0, ?yw11_0⟩) (by assumption) ?nw11_0
      case hw11_0 => simp only [List.getElem?_toArray, List.getElem?_cons_succ, List.getElem?_cons_zero]; rfl
      case sw11_0 => rfl
      case yw11_0 => (intro w hSw; (try dsimp only at hSw); go_simp <;> with_reducible rfl)
      try simp only [Act.put, List.setIfInBounds_toArray, List.set_cons_zero, List.set_cons_succ]
      refine hR.take (i := 1) (oi := ?ow12_1) (v := ?vw12_1) (m' := 3) ?hw12_1 (by kernel_rfl) (by kernel_rfl) (fun _ _ _ h => h) (Or.inl ⟨?sw12_1, ?yw12_1⟩) (by assumption) ?nw12_1
      case hw12_1 => simp only [List.getElem?_toArray, List.getElem?_cons_succ, List.getElem?_cons_zero]; rfl
      case sw12_1 => rfl
      case yw12_1 => (intro w hSw; (try dsimp only at hSw); go_simp <;> with_reducible rfl)
      try simp only [Act.put, List.setIfInBounds_toArray, List.set_cons_zero, List.set_cons_succ]
      refine hR.take (i := 2) (oi := ?ow13_2) (v := ?vw13_2) (m' := 7) ?hw13_2 (by kernel_rfl) (by kernel_rfl) (fun _ _ _ h => h) (Or.inl ⟨?sw13_2, ?yw13_2⟩) (by assumption) ?nw13_2
      case hw13_2 => simp only [List.getElem?_toArray, List.getElem?_cons_succ, List.getElem?_cons_zero]; rfl
      case sw13_2 => rfl
      case yw13_2 => (intro w hSw; (try dsimp only at hSw); go_simp <;> with_reducible rfl)
      try simp only [Act.put, List.setIfInBounds_toArray, List.set_cons_zero, List.set_cons_succ]
      refine hR.take (i := 3) (oi := ?ow14_3) (v := ?vw14_3) (m' := 15) ?hw14_3 (by kernel_rfl) (by kernel_rfl) (fun _ _ _ h => h) (Or.inl ⟨?sw14_3, ?yw14_3⟩) (by assumption) ?nw14_3
      case hw14_3 => simp only [List.getElem?_toArray, List.getElem?_cons_succ, List.getElem?_cons_zero]; rfl
      case sw14_3 => rfl
      case yw14_3 => (intro w hSw; (try dsimp only at hSw); go_simp <;> with_reducible rfl)
      try simp only [Act.put, List.setIfInBounds_toArray, List.set_cons_zero, List.set_cons_succ]
      refine hR.come (rs := [4]) (by kernel_rfl) (by simp) ?_
      refine AllReadyH.cons (o := ?o15_4) ?h15_4 (fun K hK => ?kw15_4) AllReadyH.nil
      case h15_4 => simp only [List.getElem?_toArray, List.getElem?_cons_succ, List.getElem?_cons_zero]; rfl
      go_simp
      go_at_call 15; refine (sumsP (q := x) _).mono ?_; rintro e wA ⟨rfl, hA⟩; have hk := bc _ _ (by (first | with_reducible assumption | (with_reducible refine Below.drew ?_; with_reducible assumption) | (with_reducible refine ba _ _ ?_; with_reducible assumption) | (with_reducible refine Below.drew ?_; with_reducible refine ba _ _ ?_; with_reducible assumption) | exact Below.refl _ _ | exact (Below.refl _ _).drew | exact (Below.refl _ _).alloc (Nat.le_refl _) _ | (refine bc _ _ (by assumption) (by assumption)))) hA; clear hA
      refine hK.out _ _ ?_ (fun hHeld => ?_)
      · (first | with_reducible assumption | (with_reducible refine Below.drew ?_; with_reducible assumption) | (with_reducible refine ba _ _ ?_; with_reducible assumption) | (with_reducible refine Below.drew ?_; with_reducible refine ba _ _ ?_; with_reducible assumption) | exact Below.refl _ _ | exact (Below.refl _ _).drew | exact (Below.refl _ _).alloc (Nat.le_refl _) _ | (refine bc _ _ (by assumption) (by assumption)))
      clear hK K
      refine RegOk.put_ (m' := 31) (by kernel_rfl) ?_
      try simp only [Act.put, List.setIfInBounds_toArray, List.set_cons_zero, List.set_cons_succ]
      refine hR.take (i := 5) (oi := ?ow16_5) (v := ?vw16_5) (m' := 63) ?hw16_5 (by kernel_rfl) (by kernel_rfl) (fun _ _ _ h => h) (Or.inl ⟨?sw16_5, ?yw16_5⟩) (by assumption) ?nw16_5
      case hw16_5 => simp only [List.getElem?_toArray, List.getElem?_cons_succ, List.getElem?_cons_zero]; rfl
      case sw16_5 => rfl
      case yw16_5 => (intro w hSw; (try dsimp only at hSw); go_simp <;> with_reducible rfl)
      try simp only [Act.put, List.setIfInBounds_toArray, List.set_cons_zero, List.set_cons_succ]
      refine hR.take (i := 6) (oi := ?ow17_6) (v := ?vw17_6) (m' := 127) ?hw17_6 (by kernel_rfl) (by kernel_rfl) (fun _ _ _ h => h) (Or.inl ⟨?sw17_6, ?yw17_6⟩) (by assumption) ?nw17_6
      case hw17_6 => simp only [List.getElem?_toArray, List.getElem?_cons_succ, List.getElem?_cons_zero]; rfl
      case sw17_6 => rfl
      case yw17_6 => (intro w hSw; (try dsimp only at hSw); go_simp <;> with_reducible rfl)
      try simp only [Act.put, List.setIfInBounds_toArray, List.set_cons_zero, List.set_cons_succ]
      refine hR.take (i := 7) (oi := ?ow18_7) (v := ?vw18_7) (m' := 255) ?hw18_7 (by kernel_rfl) (by kernel_rfl) (fun _ _ _ h => h) (Or.inl ⟨?sw18_7, ?yw18_7⟩) (by assumption) ?nw18_7
      case hw18_7 => simp only [List.getElem?_toArray, List.getElem?_cons_succ, List.getElem?_cons_zero]; rfl
      case sw18_7 => rfl
      case yw18_7 => (intro w hSw; (try dsimp only at hSw); go_simp <;> with_reducible rfl)
      try simp only [Act.put, List.setIfInBounds_toArray, List.set_cons_zero, List.set_cons_succ]
      refine hR.take (i := 8) (oi := ?ow19_8) (v := ?vw19_8) (m' := 511) ?hw19_8 (by kernel_rfl) (by kernel_rfl) (fun _ _ _ h => h) (Or.inl ⟨?sw19_8, ?yw19_8⟩) (by assumption) ?nw19_8
      case hw19_8 => simp only [List.getElem?_toArray, List.getElem?_cons_succ, List.getElem?_cons_zero]; rfl
      case sw19_8 => rfl
      case yw19_8 => (intro w hSw; (try dsimp only at hSw); go_simp <;> with_reducible rfl)
      try simp only [Act.put, List.setIfInBounds_toArray, List.set_cons_zero, List.set_cons_succ]
      refine hR.take (i := 9) (oi := ?ow20_9) (v := ?vw20_9) (m' := 1023) ?hw20_9 (by kernel_rfl) (by kernel_rfl) (fun _ _ _ h => h) (Or.inl ⟨?sw20_9, ?yw20_9⟩) (by assumption) ?nw20_9
      case hw20_9 => simp only [List.getElem?_toArray, List.getElem?_cons_succ, List.getElem?_cons_zero]; rfl
      case sw20_9 => rfl
      case yw20_9 => (intro w hSw; (try dsimp only at hSw); go_simp <;> with_reducible rfl)
      try simp only [Act.put, List.setIfInBounds_toArray, List.set_cons_zero, List.set_cons_succ]
      refine hR.all (by kernel_rfl) ?_ _
      refine NoPanic.normal ?_
      go_wp2_with fail
      go_ret
      exact ⟨rfl, b6.out.trans (Below.mono (by assumption) b6.out.size)⟩
end Go.Proofs.YtihcaoipemcddaaDoor
