/-
  Texts of this claim, merged: Q18, Ev7, EvN, Rd11. Conditions: as each theorem says.
-/
import Derived.Deep.Upon
import Derived.Test.YtagadbdbbglddaaGreatDoorT1
import Derived.Test.YtagadbdbbglddaaGreatDoorT2
import Derived.Test.YtagadbdbbglddaaGreatDoorT3
import Derived.Test.YtagadbdbbglddaaGreatDoorT4
import Derived.Test.YtagadbdbbglddaaGreatDoorT5
import Derived.Test.YtagadbdbbglddaaGreatDoorT6
import Derived.Test.YtagadbdbbglddaaGreatDoorT7
import Derived.Test.YtagadbdbbglddaaGreatDoorT8
import Derived.Test.YtagadbdbbglddaaGreatDoorT9
import Derived.Test.YtagadbdbbglddaaGreatDoorT10
import Derived.Test.YtagadbdbbglddaaGreatDoorT11
import Derived.Test.YtagadbdbbglddaaGreatDoorT12
import Derived.Test.YtagadbdbbglddaaGreatDoorT13
import Derived.Test.YtagadbdbbglddaaGreatDoorT14
import Derived.Test.YtagadbdbbglddaaGreatDoorT15
import Derived.Test.YtagadbdbbglddaaGreatDoorT16
import Derived.Test.YtagadbdbbglddaaGreatDoorT17
import Derived.Test.YtagadbdbbglddaaGreatDoorT18
set_option linter.unusedSimpArgs false
set_option linter.unusedVariables false
namespace Go.Proofs.YtagadbdbbglddaaGreatDoor
open Go.RowKit

theorem powerRI {kk : Int} {n m k P : Nat} (w : World) (hkk : kk = k) (hn : n ≤ 65536) (hm : m ≤ 255) (hk : k ≤ 6) (hP : n * m ^ k = P) :
    Calls Tryz.prog 44 #[.int .i64 n, .int .i64 m, .int .i64 kk] w fun e w' => (∃ z : Nat, e = .returned (.tuple #[.int .i64 z, .bool (under62 P)]) ∧ (under62 P = true → z = P)) ∧ w = w' := by
  subst hkk; exact powerRef w hn hm hk hP
theorem bound_pair2 {q : Qy} {rows : Int} (h : q.kind = 7) : boundF q rows = (bucketsF (fl q 0) 0 rows ++ bucketsF (fl q 1) 0 rows, true) := by unfold boundF; rw [if_neg (by omega), if_neg (by omega)]
set_option maxRecDepth 100000 in
set_option maxHeartbeats 8000000 in
theorem checkRef {q : Qy} {A : Option Addr} {c : Nat} {S : Nat → Prop} {p : List Int × Int} (rows : Int) (w : World) (h : Sl cdE.slice S w A c q.fs) (hp : checkTF q rows = p) :
    Calls Tryz.prog 18 #[(.agg #[.int .i64 q.kind, .int .i64 q.col, .int .i64 q.k, .slice A q.fs.length c]), .int .i64 rows] w (CheckRes w p) := by
  have H := Lib.hid h
  have HP := Lib.hid hp
  clear h hp
  go_enter Tryz.func18, Tryz.ntmps18
  go_upto_region 1 with fail
  refine wp_world (F := fun wx => Below w.heap.size w wx ∧ Hid (wx.heap[w.heap.size]? = some (.cells #[.int .i64 q.kind, .int .i64 q.col, .int .i64 q.k, .slice A q.fs.length c] 24 (0, 0))) ∧ Hid (wx.heap[w.heap.size + 1]? = some (.cells #[.slice none 0 0] 35 (0, 0)))) ⟨(by repeat' (first | with_reducible exact Below.refl _ _ | with_reducible assumption | with_reducible refine Below.setCell ?_ ?_ _ | with_reducible refine Below.drew ?_ | with_reducible refine below_drewN ?_ _ | with_reducible refine Below.alloc ?_ ?_ _ | (rintro _ ⟨⟩; simp <;> omega) | omega | (simp <;> omega))), Lib.hid ((Below.heap_alloc _ _ _ (by simp)).trans (heap_alloc_at rfl)), Lib.hid (heap_alloc_at (by simp))⟩ ?_
  rintro w1 ⟨bb, gq, gr⟩
  have b0 := Lib.hid bb
  have H1 := Lib.hid (H.out.keep (Below.agree bb))
  obtain ⟨x0, x1, x2, x3⟩ := row4 gq
  clear bb H
  cases hv : validQB q with
  | false =>
    have hno := Lib.hid (show checkTF q rows = ([], 1) by unfold checkTF; rw [if_neg (by rw [hv]; simp)])
    go_wp2_with (go_at_call 40; refine (validRef (q := q) _ H1.out).mono ?_; rw [hv]; rintro e w2 ⟨rfl, hb2⟩; have b2 := Lib.hid (b0.out.trans (hb2.mono b0.out.size)); have gr2 := mvQ gr hb2; have gq2 := mvQ gq hb2; have H2 := Lib.hid (H1.out.keep (Below.agree hb2)); obtain ⟨r0, rf, lr⟩ := one gr2)
    exact bodyPost_ret (v := .tuple #[.agg #[.slice none 0 0], .int .i64 1]) (by simp [results, Tryz.results18, go_sem, *]) rfl ⟨none, 0, by rw [← HP.out, hno.out]; rfl, by rw [← HP.out, hno.out]; exact Sl.nil_ _ _ _ _ (Nat.zero_le _), b2.out.setCell (by simp) _⟩
  | true =>
    by_cases hr0 : rows < 0
    · have hno := Lib.hid (show checkTF q rows = ([], 1) by unfold checkTF; rw [if_neg (fun h => by omega)])
      go_wp2_with (go_at_call 40; refine (validRef (q := q) _ H1.out).mono ?_; rw [hv]; rintro e w2 ⟨rfl, hb2⟩; have b2 := Lib.hid (b0.out.trans (hb2.mono b0.out.size)); have gr2 := mvQ gr hb2; have gq2 := mvQ gq hb2; have H2 := Lib.hid (H1.out.keep (Below.agree hb2)); obtain ⟨r0, rf, lr⟩ := one gr2)
      exact bodyPost_ret (v := .tuple #[.agg #[.slice none 0 0], .int .i64 1]) (by simp [results, Tryz.results18, go_sem, *]) rfl ⟨none, 0, by rw [← HP.out, hno.out]; rfl, by rw [← HP.out, hno.out]; exact Sl.nil_ _ _ _ _ (Nat.zero_le _), b2.out.setCell (by simp) _⟩
    have fr0 : decide (rows < 0) = false := decide_eq_false hr0
    by_cases hr1 : 65536 < rows
    · have hno := Lib.hid (show checkTF q rows = ([], 1) by unfold checkTF; rw [if_neg (fun h => by omega)])
      go_wp2_with (go_at_call 40; refine (validRef (q := q) _ H1.out).mono ?_; rw [hv]; rintro e w2 ⟨rfl, hb2⟩; have b2 := Lib.hid (b0.out.trans (hb2.mono b0.out.size)); have gr2 := mvQ gr hb2; have gq2 := mvQ gq hb2; have H2 := Lib.hid (H1.out.keep (Below.agree hb2)); obtain ⟨r0, rf, lr⟩ := one gr2)
      exact bodyPost_ret (v := .tuple #[.agg #[.slice none 0 0], .int .i64 1]) (by simp [results, Tryz.results18, go_sem, *]) rfl ⟨none, 0, by rw [← HP.out, hno.out]; rfl, by rw [← HP.out, hno.out]; exact Sl.nil_ _ _ _ _ (Nat.zero_le _), b2.out.setCell (by simp) _⟩
    have fr1 : decide (65536 < rows) = false := decide_eq_false hr1
    have hch : checkTF q rows = (if wideB q then ([], 140) else if (boundF q rows).2 then ((boundF q rows).1, 0) else ([], 141)) := by unfold checkTF; rw [if_pos ⟨hv, by omega, by omega⟩]
    have HCH := Lib.hid hch
    have HV := Lib.hid ((validQB_iff q).1 hv)
    obtain ⟨n, hn⟩ : ∃ n : Nat, rows = n := ⟨rows.toNat, by omega⟩
    have hn6 : n ≤ 65536 := by omega
    subst hn
    clear hch
    go_upto_region 3 with (go_at_call 40; refine (validRef (q := q) _ H1.out).mono ?_; rw [hv]; rintro e w2 ⟨rfl, hb2⟩; have b2 := Lib.hid (b0.out.trans (hb2.mono b0.out.size)); have gr2 := mvQ gr hb2; have gq2 := mvQ gq hb2; have H2 := Lib.hid (H1.out.keep (Below.agree hb2)); obtain ⟨r0, rf, lr⟩ := one gr2)
    clear hb2 gr gq H1 b0 x0 x1 x2 x3 r0 rf lr hr0 hr1 fr0 fr1
    have hfl := HV.out.head.2.2.2.2.2.2
    have hfs0 : 0 < q.fs.length := by rw [hfl]; unfold nFilF; split <;> omega
    have hl : q.fs[0]? = some (fl q 0) := by unfold fl; rw [List.getD_eq_getElem?_getD, List.getElem?_eq_getElem hfs0]; rfl
    have hvf := Lib.hid (show ∀ x ∈ fl q 0, ValidCd x from (HV.out.flt _ (List.mem_of_getElem? hl)).2)
    obtain ⟨b1, o1, B1, d1, rfl, -, l1, z1, hs1⟩ := flt_at H2.out hl
    simp only [Nat.add_zero] at z1
    have HS1 := Lib.hid hs1
    have hi0 : (0 : Int) < (q.fs.length : Int) := by omega
    have HFL := Lib.hid hfl
    clear hl hs1 hfl
    obtain ⟨x0, x1, x2, x3⟩ := row4 gq2
    obtain ⟨r0, rf, lr⟩ := one gr2
    obtain ⟨⟨hk1, hk7⟩, ⟨hc0, hc3⟩, -, hk0, hkm, hk36, -⟩ := HV.out.head
    have hb8 : bitsC q.col = 4 ∨ bitsC q.col = 8 := by
      rcases (by omega : q.col = 0 ∨ q.col = 1 ∨ q.col = 2 ∨ q.col = 3) with e | e | e | e <;> rw [e] <;> simp [bitsC]
    by_cases hnw : 4 ≤ q.kind ∧ q.kind ≤ 6
    · obtain ⟨hnw1, hnw2⟩ := hnw
      rcases hb8 with hb8 | hb8
      · have hno := Lib.hid (show checkTF q n = ((bucketsF (fl q 0) q.col n), 0) by rw [HCH.out, show wideB q = false from decide_eq_false (fun h => by omega), bound_cnt hnw1 hnw2]; rfl)
        have hb8' : (bitsC q.col == 8) = false := by rw [hb8]; rfl
        rcases (by omega : q.kind = 4 ∨ q.kind = 5 ∨ q.kind = 6) with hk | hk | hk
        · have e4 : (q.kind == 4) = true := by rw [hk]; rfl
          have e5 : (q.kind == 5) = false := by rw [hk]; rfl
          have e6 : (q.kind == 6) = false := by rw [hk]; rfl
          clear hb8 hk36 hk hkm
          go_wp2_with (first
            | (go_at_call 41; refine (bitsRef _ _).mono ?_; rintro e w5 ⟨rfl, rfl⟩)
            | (go_at_call 42; refine (bucketsRef (l := fl q 0) (n : Int) _ HS1.out hvf.out hc0 hc3).mono ?_; rintro e w6 ⟨B6, d6, rfl, ho6, hb6⟩; have b6 := Lib.hid (b2.out.trans (hb6.mono b2.out.size)); have gr6 := mvQ gr2 hb6; obtain ⟨s0, sf, ls⟩ := one gr6; have HO6 := Lib.hid ho6; clear ho6 hb6))
          exact bodyPost_ret (v := .tuple #[.agg #[.slice B6 (bucketsF (fl q 0) q.col n).length d6], .int .i64 0]) (by simp [results, Tryz.results18, go_sem, *]) rfl ⟨B6, d6, by rw [← HP.out, hno.out], by rw [← HP.out, hno.out]; exact (HO6.out.toSl (fun _ h _ => h.elim) (fun b hb _ _ => hb) |>.keep ((Agree.refl (fun b => w2.heap.size ≤ b) _).set (p := ⟨w.heap.size + 1, 0, none⟩) (fun h => by simp only at h; omega) _)).sub (fun b hb _ => by have := b2.out.size; omega), b6.out.setCell (by simp) _⟩
        · have e4 : (q.kind == 4) = false := by rw [hk]; rfl
          have e5 : (q.kind == 5) = true := by rw [hk]; rfl
          have e6 : (q.kind == 6) = false := by rw [hk]; rfl
          clear hb8 hk36 hk hkm
          go_wp2_with (first
            | (go_at_call 41; refine (bitsRef _ _).mono ?_; rintro e w5 ⟨rfl, rfl⟩)
            | (go_at_call 42; refine (bucketsRef (l := fl q 0) (n : Int) _ HS1.out hvf.out hc0 hc3).mono ?_; rintro e w6 ⟨B6, d6, rfl, ho6, hb6⟩; have b6 := Lib.hid (b2.out.trans (hb6.mono b2.out.size)); have gr6 := mvQ gr2 hb6; obtain ⟨s0, sf, ls⟩ := one gr6; have HO6 := Lib.hid ho6; clear ho6 hb6))
          exact bodyPost_ret (v := .tuple #[.agg #[.slice B6 (bucketsF (fl q 0) q.col n).length d6], .int .i64 0]) (by simp [results, Tryz.results18, go_sem, *]) rfl ⟨B6, d6, by rw [← HP.out, hno.out], by rw [← HP.out, hno.out]; exact (HO6.out.toSl (fun _ h _ => h.elim) (fun b hb _ _ => hb) |>.keep ((Agree.refl (fun b => w2.heap.size ≤ b) _).set (p := ⟨w.heap.size + 1, 0, none⟩) (fun h => by simp only at h; omega) _)).sub (fun b hb _ => by have := b2.out.size; omega), b6.out.setCell (by simp) _⟩
        · have e4 : (q.kind == 4) = false := by rw [hk]; rfl
          have e5 : (q.kind == 5) = false := by rw [hk]; rfl
          have e6 : (q.kind == 6) = true := by rw [hk]; rfl
          clear hb8 hk36 hk hkm
          go_wp2_with (first
            | (go_at_call 41; refine (bitsRef _ _).mono ?_; rintro e w5 ⟨rfl, rfl⟩)
            | (go_at_call 42; refine (bucketsRef (l := fl q 0) (n : Int) _ HS1.out hvf.out hc0 hc3).mono ?_; rintro e w6 ⟨B6, d6, rfl, ho6, hb6⟩; have b6 := Lib.hid (b2.out.trans (hb6.mono b2.out.size)); have gr6 := mvQ gr2 hb6; obtain ⟨s0, sf, ls⟩ := one gr6; have HO6 := Lib.hid ho6; clear ho6 hb6))
          exact bodyPost_ret (v := .tuple #[.agg #[.slice B6 (bucketsF (fl q 0) q.col n).length d6], .int .i64 0]) (by simp [results, Tryz.results18, go_sem, *]) rfl ⟨B6, d6, by rw [← HP.out, hno.out], by rw [← HP.out, hno.out]; exact (HO6.out.toSl (fun _ h _ => h.elim) (fun b hb _ _ => hb) |>.keep ((Agree.refl (fun b => w2.heap.size ≤ b) _).set (p := ⟨w.heap.size + 1, 0, none⟩) (fun h => by simp only at h; omega) _)).sub (fun b hb _ => by have := b2.out.size; omega), b6.out.setCell (by simp) _⟩
      · have hno := Lib.hid (show checkTF q n = ([], 140) by rw [HCH.out, show wideB q = true from decide_eq_true ⟨hnw1, hnw2, by omega⟩]; rfl)
        have hb8' : (bitsC q.col == 8) = true := by rw [hb8]; rfl
        clear hb8 hk36
        go_wp2_with (go_at_call 41; refine (bitsRef _ _).mono ?_; rintro e w5 ⟨rfl, rfl⟩)
        exact bodyPost_ret (v := .tuple #[.agg #[.slice none 0 0], .int .i64 140]) (by simp [results, Tryz.results18, go_sem, *]) rfl ⟨none, 0, by rw [← HP.out, hno.out]; rfl, by rw [← HP.out, hno.out]; exact Sl.nil_ _ _ _ _ (Nat.zero_le _), b2.out.setCell (by simp) _⟩
    · have hnwf : decide (4 ≤ q.kind) = false ∨ (decide (4 ≤ q.kind) = true ∧ decide (q.kind ≤ 6) = false) := by simp; omega
      have hwd : wideB q = false := decide_eq_false (fun h => hnw ⟨h.1, h.2.1⟩)
      by_cases hk7' : q.kind = 7
      · have e4 : (q.kind == 4) = false := by rw [hk7']; rfl
        have e5 : (q.kind == 5) = false := by rw [hk7']; rfl
        have e6 : (q.kind == 6) = false := by rw [hk7']; rfl
        have e7 : (q.kind == 7) = true := by rw [hk7']; rfl
        have e8 : decide (q.kind ≤ 6) = false := decide_eq_false (by omega)
        have hfs2 : q.fs.length = 2 := by rw [HFL.out]; unfold nFilF; rw [if_pos hk7']
        have hno := Lib.hid (show checkTF q n = (bucketsF (fl q 0) 0 n ++ bucketsF (fl q 1) 0 n, 0) by rw [HCH.out, hwd, bound_pair2 hk7']; rfl)
        have hl2 : q.fs[1]? = some (fl q 1) := by unfold fl; rw [List.getD_eq_getElem?_getD, List.getElem?_eq_getElem (by omega)]; rfl
        have hvf2 := Lib.hid (show ∀ x ∈ fl q 1, ValidCd x from (HV.out.flt _ (List.mem_of_getElem? hl2)).2)
        obtain ⟨b1', o1', B2, d2, e2', -, l2, z2, hs2⟩ := flt_at H2.out hl2
        injection e2' with e2'
        injection e2' with e3' e4'
        subst e3'; subst e4'
        have HS2 := Lib.hid hs2
        have hi1 : (1 : Int) < (q.fs.length : Int) := by omega
        have lq := heap_lt gq2.out
        clear hl2 hs2 hb8 hk36 hkm hk7' hnw hnwf hwd hfs2
        obtain ⟨m0, hm0⟩ : ∃ m0, fl q 0 = m0 := ⟨_, rfl⟩
        obtain ⟨m1, hm1⟩ : ∃ m1, fl q 1 = m1 := ⟨_, rfl⟩
        rw [hm0] at HS1 hvf hno z1
        rw [hm1] at HS2 hvf2 hno z2
        clear hm0 hm1
        go_wp2_with (first
          | (go_at_call 42; ((with_reducible refine (bucketsRef (l := m0) (n : Int) _ HS1.out hvf.out (by omega) (by omega)).mono ?_)); rintro e w6 ⟨B6, d6, rfl, ho6, hb6⟩; obtain ⟨hc6, hf6⟩ := bcell hb6; have b6 := Lib.hid (b2.out.trans (hb6.mono b2.out.size)); have gr6 := mvQ gr2 hb6; have HO6 := Lib.hid ho6; have HS6 := Lib.hid (HS2.out.keep (Below.agree hb6)); have hz6 := hb6.size; clear ho6 hb6)
          | (go_at_call 42; refine (bucketsRef (l := m1) (n : Int) _ HS6.out hvf2.out (by omega) (by omega)).mono ?_; rintro e w7 ⟨B7, d7, rfl, ho7, hb7⟩; have b7 := Lib.hid (b6.out.trans (hb7.mono b6.out.size)); have gr7 := mvQ gr6 hb7; have HO7 := Lib.hid (HO6.out.call hb7); have lo7 := HO6.out.lt; have HS7 := Lib.hid (ho7.toSl (T := fun b => w6.heap.size ≤ b) (fun _ h _ => h.elim) (fun b hb _ _ => hb)); have hz7 := hb7.size; clear ho7 hb7)
          | (at_builtin; go_must ((refine wpList_append_E (S := fun b => w6.heap.size ≤ b) rfl (.tmp 73) (.tmp 79) rfl i64sT (base := w2.heap.size) (v := .slice B6 16 d6) (xs := bucketsF m0 0 n) (ys := bucketsF m1 0 n) (by rfl) (by rfl) (by simp [bucketsF]) (nz := 32) (by simp [bucketsF]) (by simpa [bucketsF] using HO7.out.flat i64_flat) HS7.out (by unfold maxLen; simp [bucketsF]) (by simp [bucketsF]) (by omega) (fun g hg hs => (by have := lo7 g hg; omega)) ?_; intro A8 c8 w8 hown8 hg8 hor8; have b8 := Lib.hid (b7.out.grown hg8 (by have := b7.out.size; omega) (fun k hk => by have := (lo7 k hk).1; have := b2.out.size; omega)); have gr8 := Lib.hid ((hg8.block (w.heap.size + 1) (heap_lt gr7.out) (fun e => by have := (lo7 _ e.symm).1; omega)).trans gr7.out); have HO8 := Lib.hid (hown8.flat i64_flat (T := fun _ => False)); obtain ⟨s0, sf, ls⟩ := one gr8))))
        all_goals exact bodyPost_ret (v := .tuple #[.agg #[.slice A8 32 c8], .int .i64 0]) (by simp [results, Tryz.results18, go_sem, *]) rfl ⟨A8, c8, by rw [← HP.out, hno.out]; simp [bucketsF], by rw [← HP.out, hno.out]; exact (HO8.out.toSl (fun _ h _ => h.elim) (fun b hb _ _ => hb) |>.keep ((Agree.refl (fun b => w2.heap.size ≤ b) _).set (p := ⟨w.heap.size + 1, 0, none⟩) (fun h => by simp only at h; omega) _)).sub (fun b hb _ => by have := b2.out.size; omega), b8.out.setCell (by simp) _⟩
      · have f4 : decide (4 ≤ q.kind) = false := decide_eq_false (by omega)
        have e4 : (q.kind == 4) = false := beqF (by omega)
        have e5 : (q.kind == 5) = false := beqF (by omega)
        have e6 : (q.kind == 6) = false := beqF (by omega)
        have e7 : (q.kind == 7) = false := beqF (by omega)
        obtain ⟨m, hm⟩ : ∃ m : Nat, (underF (fl q 0) q.col).2 = m := ⟨(underF (fl q 0) q.col).2.toNat, by have := under_bd hvf.out q.col; omega⟩
        have hm255 : m ≤ 255 := by have := under_bd hvf.out q.col; omega
        have hkB : q.kind = 1 ∨ q.kind = 2 ∨ q.kind = 3 := by omega
        have hbd := bound_mom (q := q) (rows := n) (by omega)
        have hk6 : q.kind = 3 → q.k ≤ 6 := fun h => by rw [h] at hkm; exact hkm
        have HM := Lib.hid hm
        have HWD := Lib.hid hwd
        have HBD := Lib.hid hbd
        clear hm hwd hbd hb8 hk36 hkm hnw hnwf hk7' hk1 hk7
        obtain ⟨m0, hm0⟩ : ∃ m0, fl q 0 = m0 := ⟨_, rfl⟩
        rw [hm0] at HS1 hvf HM HBD z1
        clear hm0
        cases hsat : satB m0 with
        | false =>
          have hno := Lib.hid (show checkTF q n = ([0], 0) by rw [HCH.out, HWD.out, HBD.out]; unfold momF; rw [hsat]; rfl)
          clear hkB
          go_wp2_with (go_at_call 43; refine (satRef _ HS1.out hvf.out).mono ?_; rw [hsat]; rintro e w5 ⟨rfl, rfl⟩)
          exact bodyPost_ret (v := .tuple #[.agg #[.slice (some ⟨w2.heap.size, 0, none⟩) 1 1], .int .i64 0]) (by simp [results, Tryz.results18, go_sem, *]) rfl ⟨_, 1, by rw [← HP.out, hno.out]; rfl, by rw [← HP.out, hno.out]; exact Sl.litAt (S := fun _ => False) (by simp [World.setCell]) (.single rfl) (by unfold maxLen; simp) (fun _ h _ => h.elim) (by have := b2.out.size; omega), (b2.out.setCell (by simp) _).alloc (by have := b2.out.size; simp [World.setCell]; omega) _⟩
        | true =>
          have HL := Lib.hid (show largeF m0 q.col = (m : Int) by
            have h1 := (large_neg m0 (col := q.col) hvf.out).1
            have hs : (underF m0 q.col).1 ≤ (underF m0 q.col).2 := by
              unfold satB at hsat
              rw [decide_eq_true_eq] at hsat
              rcases (by omega : q.col = 0 ∨ q.col = 1 ∨ q.col = 2 ∨ q.col = 3) with e | e | e | e <;> rw [e] <;> omega
            unfold largeF; rw [if_pos hs]; exact HM.out)
          rcases hkB with hk | hk | hk
          · have e2 : (q.kind == 2) = false := by rw [hk]; rfl
            have e3 : (q.kind == 3) = false := by rw [hk]; rfl
            obtain ⟨P, hP⟩ : ∃ P, n * m ^ (0) = P := ⟨_, rfl⟩
            have hkk : (0 : Int) = ((0 : Nat) : Int) := by omega
            have hke : (0 : Nat) ≤ 6 := by first | omega | (have := hk6 hk; omega)
            have HMF := Lib.hid (show momF m0 q.col n (expF q) = ([(P : Int)], under62 P) by rw [show expF q = 0 from by unfold expF; rw [hk]; rfl]; exact momF_sat hsat HM.out hP)
            have HPW := fun (wy : World) => powerRI (kk := 0) wy hkk hn6 hm255 hke hP
            clear hk hk6 hkk hke hP
            cases hu : under62 P with
            | true =>
              have hno := Lib.hid (show checkTF q n = ([(P : Int)], 0) by rw [HCH.out, HWD.out, HBD.out, HMF.out, hu]; rfl)
              go_wp2_with (first
                | (go_at_call 43; refine (satRef _ HS1.out hvf.out).mono ?_; rw [hsat]; rintro e w5 ⟨rfl, rfl⟩)
                | (go_at_call 45; refine (largeRef _ HS1.out hc0 hc3).mono ?_; rw [HL.out]; rintro e w6 ⟨rfl, rfl⟩)
                | (go_at_call 44; refine (HPW _).mono ?_; rw [hu]; rintro e w7 ⟨⟨z, rfl, hz⟩, rfl⟩; obtain rfl := hz rfl))
              exact bodyPost_ret (v := .tuple #[.agg #[.slice (some ⟨w2.heap.size, 0, none⟩) 1 1], .int .i64 0]) (by simp [results, Tryz.results18, go_sem, *]) rfl ⟨_, 1, by rw [← HP.out, hno.out]; rfl, by rw [← HP.out, hno.out]; exact Sl.litAt (S := fun _ => False) (by simp [World.setCell]) (.single rfl) (by unfold maxLen; simp) (fun _ h _ => h.elim) (by have := b2.out.size; omega), (b2.out.setCell (by simp) _).alloc (by have := b2.out.size; simp [World.setCell]; omega) _⟩
            | false =>
              have hno := Lib.hid (show checkTF q n = ([], 141) by rw [HCH.out, HWD.out, HBD.out, HMF.out, hu]; rfl)
              go_wp2_with (first
                | (go_at_call 43; refine (satRef _ HS1.out hvf.out).mono ?_; rw [hsat]; rintro e w5 ⟨rfl, rfl⟩)
                | (go_at_call 45; refine (largeRef _ HS1.out hc0 hc3).mono ?_; rw [HL.out]; rintro e w6 ⟨rfl, rfl⟩)
                | (go_at_call 44; refine (HPW _).mono ?_; rw [hu]; rintro e w7 ⟨⟨z, rfl, -⟩, rfl⟩))
              exact bodyPost_ret (v := .tuple #[.agg #[.slice none 0 0], .int .i64 141]) (by simp [results, Tryz.results18, go_sem, *]) rfl ⟨none, 0, by rw [← HP.out, hno.out]; rfl, by rw [← HP.out, hno.out]; exact Sl.nil_ _ _ _ _ (Nat.zero_le _), b2.out.setCell (by simp) _⟩
          · have e2 : (q.kind == 2) = true := by rw [hk]; rfl
            have e3 : (q.kind == 3) = false := by rw [hk]; rfl
            obtain ⟨P, hP⟩ : ∃ P, n * m ^ (1) = P := ⟨_, rfl⟩
            have hkk : (1 : Int) = ((1 : Nat) : Int) := by omega
            have hke : (1 : Nat) ≤ 6 := by first | omega | (have := hk6 hk; omega)
            have HMF := Lib.hid (show momF m0 q.col n (expF q) = ([(P : Int)], under62 P) by rw [show expF q = 1 from by unfold expF; rw [hk]; rfl]; exact momF_sat hsat HM.out hP)
            have HPW := fun (wy : World) => powerRI (kk := 1) wy hkk hn6 hm255 hke hP
            clear hk hk6 hkk hke hP
            cases hu : under62 P with
            | true =>
              have hno := Lib.hid (show checkTF q n = ([(P : Int)], 0) by rw [HCH.out, HWD.out, HBD.out, HMF.out, hu]; rfl)
              go_wp2_with (first
                | (go_at_call 43; refine (satRef _ HS1.out hvf.out).mono ?_; rw [hsat]; rintro e w5 ⟨rfl, rfl⟩)
                | (go_at_call 45; refine (largeRef _ HS1.out hc0 hc3).mono ?_; rw [HL.out]; rintro e w6 ⟨rfl, rfl⟩)
                | (go_at_call 44; refine (HPW _).mono ?_; rw [hu]; rintro e w7 ⟨⟨z, rfl, hz⟩, rfl⟩; obtain rfl := hz rfl))
              exact bodyPost_ret (v := .tuple #[.agg #[.slice (some ⟨w2.heap.size, 0, none⟩) 1 1], .int .i64 0]) (by simp [results, Tryz.results18, go_sem, *]) rfl ⟨_, 1, by rw [← HP.out, hno.out]; rfl, by rw [← HP.out, hno.out]; exact Sl.litAt (S := fun _ => False) (by simp [World.setCell]) (.single rfl) (by unfold maxLen; simp) (fun _ h _ => h.elim) (by have := b2.out.size; omega), (b2.out.setCell (by simp) _).alloc (by have := b2.out.size; simp [World.setCell]; omega) _⟩
            | false =>
              have hno := Lib.hid (show checkTF q n = ([], 141) by rw [HCH.out, HWD.out, HBD.out, HMF.out, hu]; rfl)
              go_wp2_with (first
                | (go_at_call 43; refine (satRef _ HS1.out hvf.out).mono ?_; rw [hsat]; rintro e w5 ⟨rfl, rfl⟩)
                | (go_at_call 45; refine (largeRef _ HS1.out hc0 hc3).mono ?_; rw [HL.out]; rintro e w6 ⟨rfl, rfl⟩)
                | (go_at_call 44; refine (HPW _).mono ?_; rw [hu]; rintro e w7 ⟨⟨z, rfl, -⟩, rfl⟩))
              exact bodyPost_ret (v := .tuple #[.agg #[.slice none 0 0], .int .i64 141]) (by simp [results, Tryz.results18, go_sem, *]) rfl ⟨none, 0, by rw [← HP.out, hno.out]; rfl, by rw [← HP.out, hno.out]; exact Sl.nil_ _ _ _ _ (Nat.zero_le _), b2.out.setCell (by simp) _⟩
          · have e2 : (q.kind == 2) = false := by rw [hk]; rfl
            have e3 : (q.kind == 3) = true := by rw [hk]; rfl
            obtain ⟨P, hP⟩ : ∃ P, n * m ^ (q.k.toNat) = P := ⟨_, rfl⟩
            have hkk : (q.k : Int) = ((q.k.toNat : Nat) : Int) := by omega
            have hke : (q.k.toNat : Nat) ≤ 6 := by first | omega | (have := hk6 hk; omega)
            have HMF := Lib.hid (show momF m0 q.col n (expF q) = ([(P : Int)], under62 P) by rw [show expF q = q.k.toNat from by unfold expF; rw [hk]; rfl]; exact momF_sat hsat HM.out hP)
            have HPW := fun (wy : World) => powerRI (kk := q.k) wy hkk hn6 hm255 hke hP
            clear hk hk6 hkk hke hP
            cases hu : under62 P with
            | true =>
              have hno := Lib.hid (show checkTF q n = ([(P : Int)], 0) by rw [HCH.out, HWD.out, HBD.out, HMF.out, hu]; rfl)
              go_wp2_with (first
                | (go_at_call 43; refine (satRef _ HS1.out hvf.out).mono ?_; rw [hsat]; rintro e w5 ⟨rfl, rfl⟩)
                | (go_at_call 45; refine (largeRef _ HS1.out hc0 hc3).mono ?_; rw [HL.out]; rintro e w6 ⟨rfl, rfl⟩)
                | (go_at_call 44; refine (HPW _).mono ?_; rw [hu]; rintro e w7 ⟨⟨z, rfl, hz⟩, rfl⟩; obtain rfl := hz rfl))
              exact bodyPost_ret (v := .tuple #[.agg #[.slice (some ⟨w2.heap.size, 0, none⟩) 1 1], .int .i64 0]) (by simp [results, Tryz.results18, go_sem, *]) rfl ⟨_, 1, by rw [← HP.out, hno.out]; rfl, by rw [← HP.out, hno.out]; exact Sl.litAt (S := fun _ => False) (by simp [World.setCell]) (.single rfl) (by unfold maxLen; simp) (fun _ h _ => h.elim) (by have := b2.out.size; omega), (b2.out.setCell (by simp) _).alloc (by have := b2.out.size; simp [World.setCell]; omega) _⟩
            | false =>
              have hno := Lib.hid (show checkTF q n = ([], 141) by rw [HCH.out, HWD.out, HBD.out, HMF.out, hu]; rfl)
              go_wp2_with (first
                | (go_at_call 43; refine (satRef _ HS1.out hvf.out).mono ?_; rw [hsat]; rintro e w5 ⟨rfl, rfl⟩)
                | (go_at_call 45; refine (largeRef _ HS1.out hc0 hc3).mono ?_; rw [HL.out]; rintro e w6 ⟨rfl, rfl⟩)
                | (go_at_call 44; refine (HPW _).mono ?_; rw [hu]; rintro e w7 ⟨⟨z, rfl, -⟩, rfl⟩))
              exact bodyPost_ret (v := .tuple #[.agg #[.slice none 0 0], .int .i64 141]) (by simp [results, Tryz.results18, go_sem, *]) rfl ⟨none, 0, by rw [← HP.out, hno.out]; rfl, by rw [← HP.out, hno.out]; exact Sl.nil_ _ _ _ _ (Nat.zero_le _), b2.out.setCell (by simp) _⟩
end Go.Proofs.YtagadbdbbglddaaGreatDoor
namespace Go.Proofs.YtagadbdbbglddaaGreatDoor
open Go.RowKit

theorem live_len (s : Str) : (liveF s).length ≤ s.l.length := by
  unfold liveF
  rw [List.length_map]
  have h1 := List.length_filter_le (fun p : Rd × Bool => !p.2) (s.l.zip s.g)
  rw [List.length_zip] at h1
  omega
theorem live_valid {s : Str} (ok : OkStr s) : ∀ r ∈ liveF s, ValidR r := fun r hr => by
  unfold liveF at hr
  obtain ⟨p, hp, rfl⟩ := List.mem_map.1 hr
  exact ok.valid _ (List.of_mem_zip (List.mem_filter.1 hp).1).1
theorem sumsE_new {q : Qy} {s : Str} {A L G : Option Addr} {cc cl cg : Nat} {S T U : Nat → Prop} (w : World) (hq : ValidQ q) (hw : wideB q = false) (ok : OkStr s) (hl : s.l.length ≤ 1000)
    (h : Sl cdE.slice S w A cc q.fs) (hL : Sl rdE T w L cl s.l) (hG : Sl .bool U w G cg s.g) :
    Calls Tryz.prog 9 #[(.agg #[.int .i64 q.kind, .int .i64 q.col, .int .i64 q.k, .slice A q.fs.length cc]), .agg #[.slice L s.l.length cl, .slice G s.g.length cg]] w (IntsNew w (sumsF q (liveF s))) :=
  (sumsE w hq hw ok hl h hL hG).mono fun _ _ h => h.new
set_option maxRecDepth 100000 in
set_option maxHeartbeats 4000000 in
theorem made15P {q : Qy} {A : Option Addr} {cc : Nat} {S : Nat → Prop} (w : World) (h : Sl cdE.slice S w A cc q.fs) : Calls Tryz.prog 6 #[(.agg #[.int .i64 q.kind, .int .i64 q.col, .int .i64 q.k, .slice A q.fs.length cc])] w (QyRes (fun x => wideB x = false) w) := by
  have H := Lib.hid h
  clear h
  go_enter Tryz.func6, Tryz.ntmps6
  go_upto_region 1 with fail
  refine wp_world (F := fun wx => Below w.heap.size w wx ∧ Hid (wx.heap[w.heap.size]? = some (.cells #[.int .i64 q.kind, .int .i64 q.col, .int .i64 q.k, .slice A q.fs.length cc] 24 (0, 0))) ∧ Hid (wx.heap[w.heap.size + 1]? = some (.cells #[.int .i64 0, .int .i64 0, .int .i64 0, .slice none 0 0] 24 (0, 0)))) ⟨(by repeat' (first | with_reducible exact Below.refl _ _ | with_reducible assumption | with_reducible refine Below.setCell ?_ ?_ _ | with_reducible refine Below.drew ?_ | with_reducible refine below_drewN ?_ _ | with_reducible refine Below.alloc ?_ ?_ _ | (rintro _ ⟨⟩; simp <;> omega) | omega | (simp <;> omega))), Lib.hid ((Below.heap_alloc _ _ _ (by simp)).trans (heap_alloc_at rfl)), Lib.hid (heap_alloc_at (by simp))⟩ ?_
  rintro w1 ⟨bb, gq, gr⟩
  have B1 := Lib.hid bb
  obtain ⟨q0, q1, q2, q3⟩ := row4 gq
  have H1 := Lib.hid (H.out.keep (Below.agree bb))
  clear bb H
  go_cut [3] (fun p wx => ∃ (g : Nat) (x : Qy) (B : Option Addr) (d : Nat), p = .pointer (some ⟨g, 0, none⟩) ∧ Hid (ValidQ x) ∧ Hid (wx.heap[g]? = some (.cells #[.int .i64 x.kind, .int .i64 x.col, .int .i64 x.k, .slice B x.fs.length d] 24 (0, 0))) ∧ Hid (Sl cdE.slice (fun b => w1.heap.size ≤ b ∧ b < g) wx B d x.fs) ∧ w1.heap.size ≤ g ∧ Hid (Below w1.heap.size w1 wx))
  case first =>
    go_wp2_with (go_at_call 17; refine (made13P (q := q) _ H1.out).mono ?_; rintro e wC ⟨x, hv, -, B, d, rfl, hs, hbC⟩; have HC := Lib.hid hs; have bC := Lib.hid hbC; have HV := Lib.hid hv; clear hs hbC hv)
    go_meet
    case rel => exact ⟨_, x, B, d, rfl, HV, Lib.hid (heap_alloc_at rfl), Lib.hid (HC.out.old.keep ((Agree.refl _ _).alloc _)), bC.out.size, Lib.hid (bC.out.alloc bC.out.size _)⟩
  obtain ⟨g, x, B, d, rfl, HV, gx, HS, hg, HB⟩ := hcut
  obtain ⟨w2, hwv⟩ : ∃ x, x = wc := ⟨_, rfl⟩
  subst hwv
  have gr2 := mvQ gr HB.out
  have lgr := heap_lt gr.out
  have lgx := heap_lt gx.out
  clear q0 q1 q2 q3 gq H1 gr
  obtain ⟨q0, q1, q2, q3⟩ := row4 gx
  have fx := frz gx.out
  obtain ⟨ca, hca, hca3⟩ : ∃ r : Nat, bits BinOp.and IntKind.i64 x.col 1 = (r : Int) ∧ r ≤ 1 := and_bd x.col 1 (by omega)
  have hcw : wrap64 (2 * (ca : Int)) = 2 * (ca : Int) := IntWalk.wrap64_in _ (by omega)
  have hcw2 : IntKind.i64.wrap (2 * (ca : Int)) = 2 * (ca : Int) := IntWalk.i64_in _ (by omega)
  (first | go_values | go_skip | go_guarded | go_step | go_upon | go_back)
  (first | go_values | go_skip | go_guarded | go_step | go_upon | go_back)
  go_cut [3] (fun p wx => ∃ y : Qy, p = .pointer (some ⟨g, 0, none⟩) ∧ Hid (ValidQ y) ∧ Hid (wideB y = false) ∧ Hid (y.fs = x.fs) ∧ Hid (wx.heap[g]? = some (.cells #[.int .i64 y.kind, .int .i64 y.col, .int .i64 y.k, .slice B x.fs.length d] 24 (0, 0))) ∧ Hid (Gk g w2 wx))
  case first =>
    obtain ⟨⟨hk1, hk7⟩, ⟨hc0, hc3⟩, hc, hk0, hkm, hk36, hfl⟩ := HV.out.head
    by_cases h46 : 4 ≤ x.kind ∧ x.kind ≤ 6
    · have HH := Lib.hid (show HeadOk ⟨x.kind, 2 * (ca : Int), x.k, x.fs⟩ from ⟨⟨hk1, hk7⟩, ⟨by dsimp only; omega, by dsimp only; omega⟩, .inr ⟨by dsimp only; omega, by dsimp only; omega⟩, hk0, hkm, hk36, hfl⟩)
      have HW := Lib.hid (show wideB ⟨x.kind, 2 * (ca : Int), x.k, x.fs⟩ = false from decide_eq_false fun h => by
        have h2 : 4 < bitsC (2 * (ca : Int)) := h.2.2
        rcases (by omega : ca = 0 ∨ ca = 1) with e | e <;> rw [e] at h2 <;> revert h2 <;> decide)
      have HGG := Lib.hid (fun (u : Value) => (Gk.refl g w2).set 1 u)
      have hkk := h46
      rcases (by omega : x.kind = 4 ∨ x.kind = 5 ∨ x.kind = 6) with k4 | k4 | k4
      · have e4 : (x.kind == 4) = true := by rw [k4]; rfl
        have e5 : (x.kind == 5) = (true && !true) := by rw [k4]; rfl
        have e6 : (x.kind == 6) = (true && !true) := by rw [k4]; rfl
        simp only [Bool.not_true, Bool.not_false, Bool.and_true, Bool.and_false, Bool.true_and, Bool.false_and] at e5 e6
        clear k4 h46 hkk hc hk36 hkm hfl
        go_wp2_with fail
        go_meet
        case rel => exact ⟨⟨x.kind, 2 * (ca : Int), x.k, x.fs⟩, rfl, Lib.hid ⟨HH.out, HV.out.flt⟩, HW, Lib.hid rfl, Lib.hid (heap_set (i := 1) gx.out), Lib.hid (HGG.out _)⟩
      · have e4 : (x.kind == 4) = false := by rw [k4]; rfl
        have e5 : (x.kind == 5) = (true && !false) := by rw [k4]; rfl
        have e6 : (x.kind == 6) = (true && !true) := by rw [k4]; rfl
        simp only [Bool.not_true, Bool.not_false, Bool.and_true, Bool.and_false, Bool.true_and, Bool.false_and] at e5 e6
        clear k4 h46 hkk hc hk36 hkm hfl
        go_wp2_with fail
        go_meet
        case rel => exact ⟨⟨x.kind, 2 * (ca : Int), x.k, x.fs⟩, rfl, Lib.hid ⟨HH.out, HV.out.flt⟩, HW, Lib.hid rfl, Lib.hid (heap_set (i := 1) gx.out), Lib.hid (HGG.out _)⟩
      · have e4 : (x.kind == 4) = false := by rw [k4]; rfl
        have e5 : (x.kind == 5) = (false && !false) := by rw [k4]; rfl
        have e6 : (x.kind == 6) = (true && !false) := by rw [k4]; rfl
        simp only [Bool.not_true, Bool.not_false, Bool.and_true, Bool.and_false, Bool.true_and, Bool.false_and] at e5 e6
        clear k4 h46 hkk hc hk36 hkm hfl
        go_wp2_with fail
        go_meet
        case rel => exact ⟨⟨x.kind, 2 * (ca : Int), x.k, x.fs⟩, rfl, Lib.hid ⟨HH.out, HV.out.flt⟩, HW, Lib.hid rfl, Lib.hid (heap_set (i := 1) gx.out), Lib.hid (HGG.out _)⟩
    · have e4 : (x.kind == 4) = false := beqF (by omega)
      have e5 : (x.kind == 5) = false := beqF (by omega)
      have e6 : (x.kind == 6) = false := beqF (by omega)
      have HW := Lib.hid (show wideB x = false from decide_eq_false fun h => h46 ⟨h.1, h.2.1⟩)
      clear h46 hc hk36 hkm hfl
      go_wp2_with fail
      go_meet
      case rel => exact ⟨x, rfl, HV, HW, Lib.hid rfl, gx, Lib.hid (Gk.refl _ _)⟩
  obtain ⟨y, rfl, HY, HYW, HYF, gy, HGY⟩ := hcut
  obtain ⟨w3, hwv⟩ : ∃ x, x = wc := ⟨_, rfl⟩
  subst hwv
  clear q0 q1 q2 q3 fx gx hca hca3 hcw hcw2
  obtain ⟨q0, q1, q2, q3⟩ := row4 gy
  have fx := frz gy.out
  obtain ⟨kn, hkn⟩ : ∃ kn : Nat, y.k = kn := ⟨y.k.toNat, by have := HY.out.head.2.2.2.1; omega⟩
  obtain ⟨r, hr, hr12⟩ : ∃ r : Nat, (kn : Int).tmod 12 = (r : Int) ∧ r < 12 := tmod_bd kn 12 (by omega)
  have hr' : y.k.tmod 12 = (r : Int) := by rw [hkn]; exact hr
  have hrw : wrap64 (1 + (r : Int)) = 1 + (r : Int) := IntWalk.wrap64_in _ (by omega)
  have hrw2 : IntKind.i64.wrap (1 + (r : Int)) = 1 + (r : Int) := IntWalk.i64_in _ (by omega)
  have hrw3 : wrap64 (r : Int) = (r : Int) := IntWalk.wrap64_in _ (by omega)
  clear hkn hr
  (first | go_values | go_skip | go_guarded | go_step | go_upon | go_back)
  (first | go_values | go_skip | go_guarded | go_step | go_upon | go_back)
  go_cut [3] (fun p wx => ∃ z : Qy, p = .pointer (some ⟨g, 0, none⟩) ∧ Hid (ValidQ z) ∧ Hid (wideB z = false) ∧ Hid (z.fs = x.fs) ∧ Hid (wx.heap[g]? = some (.cells #[.int .i64 z.kind, .int .i64 z.col, .int .i64 z.k, .slice B x.fs.length d] 24 (0, 0))) ∧ Hid (Gk g w2 wx))
  case first =>
    by_cases h6 : y.kind = 6
    · have e6 : (y.kind == 6) = true := by rw [h6]; rfl
      have HH := Lib.hid (show HeadOk ⟨y.kind, y.col, 1 + (r : Int), y.fs⟩ from by
        obtain ⟨⟨hk1, hk7⟩, ⟨hc0, hc3⟩, hc, hk0, hkm, hk36, hfl⟩ := HY.out.head
        refine ⟨⟨hk1, hk7⟩, ⟨hc0, hc3⟩, hc, by dsimp only; omega, ?_, fun _ => by dsimp only; omega, hfl⟩
        show 1 + (r : Int) ≤ maxKF y.kind
        rw [h6]
        have : maxKF 6 = 65536 := rfl
        omega)
      have HGG := Lib.hid (fun (u : Value) => HGY.out.set 2 u)
      clear h6
      go_wp2_with fail
      go_meet
      case rel => exact ⟨⟨y.kind, y.col, 1 + (r : Int), y.fs⟩, rfl, Lib.hid ⟨HH.out, HY.out.flt⟩, HYW, HYF, Lib.hid (heap_set (i := 2) gy.out), Lib.hid (HGG.out _)⟩
    · have e6 : (y.kind == 6) = false := beqF h6
      clear h6
      go_wp2_with fail
      go_meet
      case rel => exact ⟨y, rfl, HY, HYW, HYF, gy, HGY⟩
  obtain ⟨z, rfl, HZ, HZW, HZF, gz, HGZ⟩ := hcut
  obtain ⟨w4, hwv⟩ : ∃ x, x = wc := ⟨_, rfl⟩
  subst hwv
  clear q0 q1 q2 q3 fx gy hr' hr12 hrw hrw2 hrw3 HGY HY HYW HYF
  obtain ⟨q0, q1, q2, q3⟩ := row4 gz
  have HSZ := Lib.hid (show Sl cdE.slice (fun b => w1.heap.size ≤ b ∧ b < g) w4 B d z.fs by rw [HZF.out]; exact HGZ.out.slKeep HS.out (by rintro ⟨-, h⟩; omega))
  have HLN := Lib.hid (show z.fs.length = x.fs.length by rw [HZF.out])
  rw [← HLN.out] at q3 gz
  have B4 := Lib.hid (HGZ.out.below HB.out hg HB.out.size)
  have B40 := Lib.hid (B1.out.trans (B4.out.mono B1.out.size))
  have gr4 := Lib.hid (HGZ.out.row gr2.out (by omega))
  obtain ⟨P, hP⟩ : ∃ P, checkTF z 64 = P := ⟨_, rfl⟩
  have HP := Lib.hid hP
  have lw4 := HGZ.out.g.size
  have lgz := heap_lt gz.out
  clear hP gr2
  obtain ⟨r0, r1, r2, r3⟩ := row4 gr4
  have fr := frz gr4.out
  go_upto_region 7 with (go_at_call 18; refine (checkRef (q := z) 64 _ HSZ.out HP.out).mono ?_; rintro e w5 ⟨B5, d5, rfl, hs5, hb5⟩; have HB5 := Lib.hid hb5; clear hs5 hb5)
  refine wp_world (F := fun wx => Hid (Below w4.heap.size w4 wx)) (Lib.hid (HB5.out.alloc HB5.out.size _)) ?_
  intro w6 HB6
  have gz6 := mvQ gz HB6.out
  have gr6 := mvQ gr4 HB6.out
  have HS6 := Lib.hid (HSZ.out.keep (Below.agree HB6.out))
  have B6 := Lib.hid (B40.out.trans (HB6.out.mono B40.out.size))
  have lz6 := HB6.out.size
  have lgr6 := heap_lt gr6.out
  clear q0 q1 q2 q3 r0 r1 r2 r3 fr gz gr4 HSZ
  obtain ⟨q0, q1, q2, q3⟩ := row4 gz6
  obtain ⟨r0, r1, r2, r3⟩ := row4 gr6
  have fr := frz gr6.out
  have bb := B6.out
  have l1 := B1.out.size
  by_cases hp : P.2 = 0
  · have e0 : (P.2 != 0) = false := by simp [hp]
    clear hp
    go_wp2_with fail
    refine bodyPost_ret (v := .agg #[.int .i64 z.kind, .int .i64 z.col, .int .i64 z.k, .slice B z.fs.length d]) (by simp [results, Tryz.results6, go_sem, *]) rfl ⟨z, HZ.out, HZW.out, B, d, rfl, ?_, (by repeat' (first | with_reducible exact Below.refl _ _ | with_reducible assumption | with_reducible refine Below.setCell ?_ ?_ _ | with_reducible refine Below.drew ?_ | with_reducible refine below_drewN ?_ _ | with_reducible refine Below.alloc ?_ ?_ _ | (rintro _ ⟨⟩; simp <;> omega) | omega | (simp <;> omega)))⟩
    exact (HS6.out.keep (by repeat' (first | with_reducible exact Agree.refl _ _ | with_reducible refine Agree.set ?_ ?_ _ | (rintro ⟨h, -⟩; simp at h; omega)))).sub (fun b hb _ => by have := hb.1; omega)
  · have e0 : (P.2 != 0) = true := by simpa using hp
    clear hp
    have lgr61 : w.heap.size + 1 < w6.heap.size + 1 := by omega
    have lgr62 : w.heap.size + 1 < w6.heap.size + 1 + 1 := by omega
    go_wp2_with fail
    refine bodyPost_ret (v := .agg #[.int .i64 1, .int .i64 0, .int .i64 0, .slice (some ⟨w6.heap.size + 1, 0, none⟩) 1 1]) (by simp [results, Tryz.results6, go_sem, *]) rfl ⟨⟨1, 0, 0, [[]]⟩, ?_, rfl, _, 1, rfl, ?_, (by repeat' (first | with_reducible exact Below.refl _ _ | with_reducible assumption | with_reducible refine Below.setCell ?_ ?_ _ | with_reducible refine Below.drew ?_ | with_reducible refine below_drewN ?_ _ | with_reducible refine Below.alloc ?_ ?_ _ | (rintro _ ⟨⟩; simp <;> omega) | omega | (simp <;> omega)))⟩
    · exact ⟨⟨⟨by decide, by decide⟩, ⟨by decide, by decide⟩, .inl rfl, by decide, by decide, fun h => by rcases h with h | h <;> exact absurd h (by decide), rfl⟩, fun l hl => by simp at hl; subst hl; exact ⟨by simp, fun c hc => by cases hc⟩⟩
    · exact sl_fs1 (S := fun b => w.heap.size ≤ b) (l := []) (heap_alloc_at (by simp [World.setCell])) (Sl.nil_ _ _ _ _ (Nat.zero_le _)) (by show w.heap.size ≤ w6.heap.size + 1; omega)
end Go.Proofs.YtagadbdbbglddaaGreatDoor
namespace Go.Proofs.YtagadbdbbglddaaGreatDoor
open Go.RowKit

theorem set2 {W : World} {g : Nat} {t : TypeId} {a b u v : Value} (h : W.heap[g]? = some (.cells #[a, b] t (0, 0))) : ((W.setCell ⟨g, 0, none⟩ u).setCell ⟨g, 1, none⟩ v).heap[g]? = some (.cells #[u, v] t (0, 0)) :=
  heap_set (i := 1) (heap_set (i := 0) h)
theorem same15N {xs : List Int} {A B : Option Addr} {c d n : Nat} {S T : Nat → Prop} (hn : xs.length = n) (w : World) (h : Sl .i64 S w A c xs) (k : Sl .i64 T w B d xs) :
    Calls Tryz.prog 36 #[.slice A n c, .slice B n d] w fun e w' => e = .returned (.bool true) ∧ Below w.heap.size w w' := by
  subst hn
  exact (same15 w h k).mono fun e w' ⟨h1, h2⟩ => ⟨by rw [h1]; simp, h2⟩
/-- An answer's box. -/
def An (w : World) (g : Nat) (xs ys : List Int) (n m : Nat) : Prop := ∃ A c B d, w.heap[g]? = some (.cells #[.slice A n c, .slice B m d] 52 (0, 0)) ∧ Sl .i64 (fun _ => True) w A c xs ∧ Sl .i64 (fun _ => True) w B d ys
theorem sumsN {q : Qy} {s : Str} {A L G : Option Addr} {cc cl cg f n nl ng : Nat} {xs : List Int} {S T U : Nat → Prop} (hx : sumsF q (liveF s) = xs) (hf : q.fs.length = f) (hn : xs.length = n) (hnl : s.l.length = nl) (hng : s.g.length = ng)
    (w : World) (hq : ValidQ q) (hw : wideB q = false) (ok : OkStr s) (hl : s.l.length ≤ 1000) (h : Sl cdE.slice S w A cc q.fs) (hL : Sl rdE T w L cl s.l) (hG : Sl .bool U w G cg s.g) :
    Calls Tryz.prog 9 #[(.agg #[.int .i64 q.kind, .int .i64 q.col, .int .i64 q.k, .slice A f cc]), .agg #[.slice L nl cl, .slice G ng cg]] w fun e w' => ∃ A c, e = .returned (.slice A n c) ∧ Sl .i64 (fun b => w.heap.size ≤ b) w' A c xs ∧ Below w.heap.size w w' := by
  subst hf; subst hn; subst hnl; subst hng; subst hx
  exact sumsE_new w hq hw ok hl h hL hG
/-- A stream's box. -/
def StB (w : World) (g : Nat) (s : Str) (nl ng : Nat) : Prop := ∃ L cl G cg, w.heap[g]? = some (.cells #[.slice L nl cl, .slice G ng cg] 31 (0, 0)) ∧ Sl rdE (fun _ => True) w L cl s.l ∧ Sl .bool (fun _ => True) w G cg s.g
theorem mvSt {w w' : World} {g n m : Nat} {s : Str} (h : Hid (StB w g s n m)) (hb : Below w.heap.size w w') : Hid (StB w' g s n m) := by
  obtain ⟨A, c, B, d, h1, h2, h3⟩ := h.out
  exact Lib.hid ⟨A, c, B, d, (hb.block g (heap_lt h1)).trans h1, h2.keep (Below.agree hb), h3.keep (Below.agree hb)⟩
theorem mvF {w w' : World} {A : Option Addr} {c : Nat} {l : List (List Cd)} (h : Hid (Sl cdE.slice (fun _ => True) w A c l)) (hb : Below w.heap.size w w') : Hid (Sl cdE.slice (fun _ => True) w' A c l) := Lib.hid (h.out.keep (Below.agree hb))
theorem two2 {W : World} {g : Nat} {u v : Value} {t : TypeId} (h : Hid (W.heap[g]? = some (.cells #[u, v] t (0, 0)))) : W.cell? ⟨g, 0, none⟩ = some u ∧ W.cell? ⟨g, 1, none⟩ = some v :=
  ⟨cell_of_row _ _ 0 _ _ _ h.out, cell_of_row _ _ 1 _ _ _ h.out⟩
end Go.Proofs.YtagadbdbbglddaaGreatDoor
namespace Go.Proofs.YtagadbdbbglddaaGreatDoor
open Go.RowKit

section
variable {F : Nat → Prop} {w0 wr w2 w6 : World} {B : Nat} {xs : List (List Int)} {v v' : Value} {x : List Int} {A : Option Addr} {c : Nat}
end

/-- Columns and the number of an error. -/
def ColRes (w : World) (p : List (List Int) × Int) (e : Ending) (w' : World) : Prop :=
  ∃ A c, e = .returned (.tuple #[.slice A p.1.length c, .int .i64 p.2]) ∧ Sl Enc.u64.slice (fun b => w.heap.size ≤ b) w' A c p.1 ∧ Below w.heap.size w w'
theorem ColRes.none {w w' : World} {k : Int} {e : Ending} (he : e = .returned (.tuple #[.slice none 0 0, .int .i64 k])) (hb : Below w.heap.size w w') : ColRes w ([], k) e w' :=
  ⟨_, 0, he, Sl.nil_ _ _ _ _ (Nat.zero_le _), hb⟩

end Go.Proofs.YtagadbdbbglddaaGreatDoor
