/-
  The law 'NetworkDelay', walked: it returns true for every input, and nothing that existed changes. No condition.
-/
import Derived.Test.YtmaaniogcmlfbaaNetL
import Derived.Test.YtmaaniogcmlfbaaNet24
namespace Go.Proofs.Ytmaaniogcmlfbaa
open Go.RowKit

set_option maxRecDepth 100000 in
set_option maxHeartbeats 1600000 in
theorem walk_NetworkDelay {A : Option Addr} {c : Nat} {l : List NOp} (w : World) (h : Sl opE (fun _ => True) w A c l) :
    Calls Try.prog 5 #[.slice A l.length c] w fun e w' => e = .returned (.bool true) ∧ Below w.heap.size w w' := by
  have hm := h.max
  have hL := Lib.hid h.old
  clear h
  go_enter Try.func5, Try.ntmps5
  go_wp2_with (first
    | (go_at_call 9; refine (sanity_true _).mono ?_; rintro e w1 ⟨rfl, hb1⟩)
    | (go_at_call 10; refine (newN _).mono ?_; rintro e w2 ⟨rfl, hb2⟩))
  have hb12 := Lib.hid (hb1.trans (hb2.mono hb1.size))
  have hz := hb12.out.size
  clear hb1 hb2
  go_loopw [5] (fun kv wr => ∃ j : Nat, j ≤ l.length ∧ j ≤ 40 ∧ kv = .int .i64 j ∧ NG (· = w2.heap.size) wr w2.heap.size (histF (l.take j)) ∧ Below w.heap.size w wr) (fun kv _ => 40 - (intOf kv).toNat)
  case atStart =>
    exact ⟨0, Nat.zero_le _, by omega, rfl, NG.made (n := ⟨0, []⟩) (Sl.nil_ pkE (fun _ => False) _ _ (Nat.zero_le _)) (fun _ h _ => h.elim) rfl, hb12.out.alloc hz _⟩
  case round =>
    obtain ⟨j, hj, hj40, rfl, ng, hbw⟩ := hrel
    have ok := histF_ok (l.take j)
    have hlen := histF_len (l.take j)
    have htk : (l.take j).length ≤ j := List.length_take_le _ _
    by_cases hlt : j < l.length
    · by_cases h40 : j < 40
      · obtain ⟨o, ho⟩ : ∃ o, l[j]? = some o := ⟨_, List.getElem?_eq_getElem hlt⟩
        have hT := Lib.hid (histF_take ho)
        have hl9 : (histF (l.take j)).way.length ≤ 40 := by omega
        clear hlen htk
        generalize histF (l.take j) = n at *
        obtain ⟨b1, f1, B1, d1, rfl, hSb, hb1, x0, x1, x2, x3, x4, x5, x6, x7, hs1⟩ := op_at (hL.out.keep (Below.agree hbw)) ho
        obtain ⟨A0, c0, y0, y1, fg, hglt, hg, hs⟩ := ng.open_
        have hgB := ng.hg
        have hs1' := Lib.hid hs1
        have hs' := Lib.hid hs
        have hg' := Lib.hid hg
        have ho' := Lib.hid ho
        clear hs1 hs hg ng ho
        have hj0 : (0 : Int) ≤ (j : Int) := by omega
        have hj1 : (j : Int) < (l.length : Int) := by omega
        have hj2 : (j : Int) < 40 := by omega
        have f0 := fg 0
        have f1' := fg 1
        clear fg
        have hb1' : b1 < w.heap.size := hSb.2
        have hne : b1 ≠ w2.heap.size := by omega
        have hne' : w2.heap.size ≠ b1 := by omega
        cases hsd : o.send with
        | true =>
          rw [hsd] at x7
          obtain ⟨q, hq⟩ : ∃ q, madeF o.p = q := ⟨_, rfl⟩
          have hql : q.b.length ≤ 40 := by rw [← hq]; exact madeF_len _
          obtain ⟨m, hm'⟩ : ∃ m, sendF n q = m := ⟨_, rfl⟩
          have hT' : Hid (histF (l.take (j + 1)) = m) := by have h := hT.out; unfold stepF at h; rw [if_pos hsd, hq, hm'] at h; exact h
          have hmn : Hid (m.now = n.now) := by have := sendF_now n q; rw [hm'] at this; exact this
          have hmw := sendF_way n q (by omega)
          rw [hm'] at hmw
          have hml : Hid (m.way.length = n.way.length + 1) := by show _ = _; rw [hmw]; simp
          have hlast : m.way[n.way.length]? = some (lateF n q) := by rw [hmw]; simp
          have Hlast := Lib.hid hlast
          have Hq := Lib.hid hq
          have Hm := Lib.hid hm'
          clear hmw hlast hq hm'
          by_cases hle : n.now ≤ q.at_
          · have hla : Hid ((lateF n q).at_ = q.at_) := by show max _ _ = _; omega
            go_wp2_with (go_at_call 12; refine (madeE (S := fun b => b < w.heap.size) (p := o.p) _ ((hs1'.out.sub fun _ h _ => h.2).keep (by repeat' (first | with_reducible exact Agree.refl _ _ | with_reducible assumption | with_reducible refine Agree.set ?_ ?_ _ | with_reducible refine Agree.alloc ?_ _ | with_reducible refine Agree.drew ?_ | with_reducible refine Agree.drewN ?_ _ | omega | (simp <;> omega)))) Hq.out).mono ?_; rintro e w3 ⟨c3, rfl, hs3, hb3⟩; have hz3 := hb3.size; have hlg3 := Nat.lt_of_lt_of_le hglt hz3; obtain ⟨hc3, hf3⟩ := kcell hb3)
            refine (sendS (S := fun b => b ≠ w2.heap.size ∧ b < wr.heap.size) (n := n) (p := q) _ (((hs'.out.old).keep (Below.agree hb3)).keep (by repeat' (first | with_reducible exact Agree.refl _ _ | with_reducible assumption | with_reducible refine Agree.set ?_ ?_ _ | with_reducible refine Agree.alloc ?_ _ | with_reducible refine Agree.drew ?_ | with_reducible refine Agree.drewN ?_ _ | omega | (simp <;> omega)))) ((hs3.sub fun b hb _ => by omega).keep (by repeat' (first | with_reducible exact Agree.refl _ _ | with_reducible assumption | with_reducible refine Agree.set ?_ ?_ _ | with_reducible refine Agree.alloc ?_ _ | with_reducible refine Agree.drew ?_ | with_reducible refine Agree.drewN ?_ _ | omega | (simp <;> omega)))) rfl rfl rfl rfl rfl rfl (by omega) Hm.out hmn.out hml.out).mono ?_
            rintro e w4 ⟨A4, c4, rfl, hs4, hb4⟩
            have hz4 := hb4.size
            have hz4' : w3.heap.size < w4.heap.size := by (simp at hz4; omega)
            have hlg4 := Nat.lt_trans hlg3 hz4'
            have hc4 := (bcellk (k := wr.heap.size) hb4 (by simp; omega)).1
            have hf4 := (bcellk (k := wr.heap.size) hb4 (by simp; omega)).2
            have hd4 := fun o => (bcell hb4).1 w3.heap.size o (by simp)
            obtain ⟨b6, o6, B6, d6, rfl, hSb6, hb6, z0, z1, z2, z3, -⟩ := pk_at hs4 Hlast.out
            rw [hla.out] at z2
            go_wp2_with fail
            have e0 : (((n.way.length : Int) + 1) == 0) = false := by rw [beq_eq_false_iff_ne]; omega
            have e1 : IntKind.i64.wrap ((n.way.length : Int) + 1 - 1) = n.way.length := by rw [IntKind.wrap_i64]; omega
            have e2 : (0 : Int) ≤ (n.way.length : Int) := by omega
            have e3 : (n.way.length : Int) < (n.way.length : Int) + 1 := by omega
            go_quiet (fail)
            clear e0 e1 e2 e3
            go_wp2_with fail
            go_roundw
            case rel =>
              refine ⟨j + 1, by omega, by omega, by go_num, ?_, (by repeat' (first | with_reducible exact Below.refl _ _ | with_reducible assumption | with_reducible refine Below.trans ?_ (Below.mono hb4 ?_) | with_reducible refine Below.trans ?_ (Below.mono hb3 ?_) | with_reducible refine Below.trans ?_ (Below.mono hbw ?_) | with_reducible refine Below.setCell ?_ ?_ _ | with_reducible refine Below.drew ?_ | with_reducible refine below_drewN ?_ _ | with_reducible refine Below.alloc ?_ ?_ _ | (rintro _ ⟨⟩; simp <;> omega) | omega | (simp <;> omega)))⟩
              rw [hT'.out]
              refine NG.repl (S := fun b => b ≠ w2.heap.size) hmn.out hml.out rfl ?_ ((hs4.sub ?_).keep (by repeat' (first | with_reducible exact Agree.refl _ _ | with_reducible assumption | with_reducible refine Agree.set ?_ ?_ _ | with_reducible refine Agree.alloc ?_ _ | with_reducible refine Agree.drew ?_ | with_reducible refine Agree.drewN ?_ _ | omega | (simp <;> omega)))) (fun b hb _ => hb)
              · (repeat' (first | with_reducible assumption | with_reducible refine HG.alloc ?_ _ | with_reducible refine HG.drew ?_ | with_reducible refine HG.drewN ?_ _ | with_reducible refine HG.set ?_ ?_ _ | with_reducible refine HG.below ?_ (by with_reducible assumption) | (simp; done) | omega | (simp <;> omega)))
              · intro b hb _
                rcases hb with hb | hb
                · exact hb.1
                · simp at hb; omega
            case measure => simp [intOf]; omega
          · have hla : Hid ((lateF n q).at_ = n.now) := by show max _ _ = _; omega
            go_wp2_with (go_at_call 12; refine (madeE (S := fun b => b < w.heap.size) (p := o.p) _ ((hs1'.out.sub fun _ h _ => h.2).keep (by repeat' (first | with_reducible exact Agree.refl _ _ | with_reducible assumption | with_reducible refine Agree.set ?_ ?_ _ | with_reducible refine Agree.alloc ?_ _ | with_reducible refine Agree.drew ?_ | with_reducible refine Agree.drewN ?_ _ | omega | (simp <;> omega)))) Hq.out).mono ?_; rintro e w3 ⟨c3, rfl, hs3, hb3⟩; have hz3 := hb3.size; have hlg3 := Nat.lt_of_lt_of_le hglt hz3; obtain ⟨hc3, hf3⟩ := kcell hb3)
            refine (sendS (S := fun b => b ≠ w2.heap.size ∧ b < wr.heap.size) (n := n) (p := q) _ (((hs'.out.old).keep (Below.agree hb3)).keep (by repeat' (first | with_reducible exact Agree.refl _ _ | with_reducible assumption | with_reducible refine Agree.set ?_ ?_ _ | with_reducible refine Agree.alloc ?_ _ | with_reducible refine Agree.drew ?_ | with_reducible refine Agree.drewN ?_ _ | omega | (simp <;> omega)))) ((hs3.sub fun b hb _ => by omega).keep (by repeat' (first | with_reducible exact Agree.refl _ _ | with_reducible assumption | with_reducible refine Agree.set ?_ ?_ _ | with_reducible refine Agree.alloc ?_ _ | with_reducible refine Agree.drew ?_ | with_reducible refine Agree.drewN ?_ _ | omega | (simp <;> omega)))) rfl rfl rfl rfl rfl rfl (by omega) Hm.out hmn.out hml.out).mono ?_
            rintro e w4 ⟨A4, c4, rfl, hs4, hb4⟩
            have hz4 := hb4.size
            have hz4' : w3.heap.size < w4.heap.size := by (simp at hz4; omega)
            have hlg4 := Nat.lt_trans hlg3 hz4'
            have hc4 := (bcellk (k := wr.heap.size) hb4 (by simp; omega)).1
            have hf4 := (bcellk (k := wr.heap.size) hb4 (by simp; omega)).2
            have hd4 := fun o => (bcell hb4).1 w3.heap.size o (by simp)
            obtain ⟨b6, o6, B6, d6, rfl, hSb6, hb6, z0, z1, z2, z3, -⟩ := pk_at hs4 Hlast.out
            rw [hla.out] at z2
            go_wp2_with fail
            have e0 : (((n.way.length : Int) + 1) == 0) = false := by rw [beq_eq_false_iff_ne]; omega
            have e1 : IntKind.i64.wrap ((n.way.length : Int) + 1 - 1) = n.way.length := by rw [IntKind.wrap_i64]; omega
            have e2 : (0 : Int) ≤ (n.way.length : Int) := by omega
            have e3 : (n.way.length : Int) < (n.way.length : Int) + 1 := by omega
            go_quiet (fail)
            clear e0 e1 e2 e3
            go_wp2_with fail
            go_roundw
            case rel =>
              refine ⟨j + 1, by omega, by omega, by go_num, ?_, (by repeat' (first | with_reducible exact Below.refl _ _ | with_reducible assumption | with_reducible refine Below.trans ?_ (Below.mono hb4 ?_) | with_reducible refine Below.trans ?_ (Below.mono hb3 ?_) | with_reducible refine Below.trans ?_ (Below.mono hbw ?_) | with_reducible refine Below.setCell ?_ ?_ _ | with_reducible refine Below.drew ?_ | with_reducible refine below_drewN ?_ _ | with_reducible refine Below.alloc ?_ ?_ _ | (rintro _ ⟨⟩; simp <;> omega) | omega | (simp <;> omega)))⟩
              rw [hT'.out]
              refine NG.repl (S := fun b => b ≠ w2.heap.size) hmn.out hml.out rfl ?_ ((hs4.sub ?_).keep (by repeat' (first | with_reducible exact Agree.refl _ _ | with_reducible assumption | with_reducible refine Agree.set ?_ ?_ _ | with_reducible refine Agree.alloc ?_ _ | with_reducible refine Agree.drew ?_ | with_reducible refine Agree.drewN ?_ _ | omega | (simp <;> omega)))) (fun b hb _ => hb)
              · (repeat' (first | with_reducible assumption | with_reducible refine HG.alloc ?_ _ | with_reducible refine HG.drew ?_ | with_reducible refine HG.drewN ?_ _ | with_reducible refine HG.set ?_ ?_ _ | with_reducible refine HG.below ?_ (by with_reducible assumption) | (simp; done) | omega | (simp <;> omega)))
              · intro b hb _
                rcases hb with hb | hb
                · exact hb.1
                · simp at hb; omega
            case measure => simp [intOf]; omega
        | false =>
          rw [hsd] at x7
          have hst : stepF n o = (applyF n o.kd o.at_ o.by_).1 := by unfold stepF; rw [if_neg (by simp [hsd])]
          have hT' := Lib.hid (hT.out.trans hst)
          clear hst
          have hA := applyF_len n o.kd o.at_ o.by_
          have hN := applyF_now n o.kd o.at_ o.by_
          have okA := (ok.apply o.kd o.at_ o.by_).1
          have br : Below wr.heap.size wr wr := Below.refl _ _
          have rc := fun W (hW : Below wr.heap.size wr W) b o (hb : b < wr.heap.size) => hW.cell (p := ⟨b, o, none⟩) hb
          have ba : ∀ W o, Below wr.heap.size wr W → Below wr.heap.size wr (W.alloc o) := fun W o h => h.alloc h.size o
          have bc : ∀ W W', Below wr.heap.size wr W → Below W.heap.size W W' → Below wr.heap.size wr W' := fun W W' h k => h.trans (k.mono h.size)
          generalize hr : applyF n o.kd o.at_ o.by_ = r at *
          have hr' := Lib.hid hr
          clear hr
          have hA' := Lib.hid hA
          have hN' := Lib.hid hN
          clear hA hN
          have hnow := hN'.out.1
          have hnow' : decide (r.1.now < n.now) = false := by rw [decide_eq_false_iff_not]; omega
          by_cases hd0 : r.2.length = 0
          · have hd5 := Lib.hid hd0
            clear hd0
            go_wp2_with fail
            go_region_held3 (fun X => Below wr.heap.size wr X) (repeat' (first | with_reducible assumption | with_reducible refine Below.drew ?_ | with_reducible refine Below.alloc ?_ ?_ _ | with_reducible refine Below.setCell ?_ ?_ _ | (simp; done) | omega | (simp <;> omega)))
              (first | (go_at_call 13; refine (applyS (S := fun b => b ≠ w2.heap.size ∧ b < wr.heap.size) (n := n) (n' := r.1) (ds := r.2) _ ((hs'.out.old).keep (Below.agree (by assumption))) ok rfl rfl hr'.out rfl rfl hd5.out).mono ?_; rintro e w4 ⟨A4, c4, A5, c5, rfl, hs4, hs5, hb4⟩; have hk4 := bc _ _ (by assumption) hb4; have hz4 := hk4.size; have hlg := Nat.lt_of_lt_of_le hglt hz4; have hlb := Nat.lt_of_lt_of_le hb1 hz4; obtain ⟨hc4, hf4⟩ := kcell hk4; obtain ⟨hd4, hdf4⟩ := bcell hb4; have hl4 := fun (b : Nat) h => Nat.lt_of_lt_of_le (n := b) h hb4.size))
            all_goals
              have hbw4 := hbw.trans (hk4.mono hbw.size)
              clear rc ba bc br
              go_wp2_with fail
              go_quiet (fail)
              go_wp2_with fail
              go_roundw
              case rel =>
                refine ⟨j + 1, by omega, by omega, by go_num, ?_, (by repeat' (first | with_reducible exact Below.refl _ _ | with_reducible assumption | with_reducible refine Below.setCell ?_ ?_ _ | with_reducible refine Below.drew ?_ | with_reducible refine below_drewN ?_ _ | with_reducible refine Below.alloc ?_ ?_ _ | (rintro _ ⟨⟩; simp <;> omega) | omega | (simp <;> omega)))⟩
                rw [hT'.out]
                first
                  | (refine NG.repl (S := fun b => b ≠ w2.heap.size ∧ b ≠ wr.heap.size) rfl rfl rfl ?_ ((hs4.sub ?_).keep (by repeat' (first | with_reducible exact Agree.refl _ _ | with_reducible assumption | with_reducible refine Agree.set ?_ ?_ _ | with_reducible refine Agree.alloc ?_ _ | with_reducible refine Agree.drew ?_ | with_reducible refine Agree.drewN ?_ _ | omega | (simp <;> omega)))) (fun b hb _ => hb.1)
                     · (repeat' (first | with_reducible assumption | with_reducible refine HG.alloc ?_ _ | with_reducible refine HG.drew ?_ | with_reducible refine HG.drewN ?_ _ | with_reducible refine HG.set ?_ ?_ _ | with_reducible refine HG.under ?_ hk4 hglt | (simp; done) | omega | (simp <;> omega)))
                     · (intro b hb _; rcases hb with hb | hb; exact ⟨hb.1, by omega⟩; simp at hb; exact ⟨by omega, by omega⟩))
                  | (refine NG.repl (S := fun b => b ≠ w2.heap.size) rfl rfl rfl ?_ ((hs4.sub ?_).keep (by repeat' (first | with_reducible exact Agree.refl _ _ | with_reducible assumption | with_reducible refine Agree.set ?_ ?_ _ | with_reducible refine Agree.alloc ?_ _ | with_reducible refine Agree.drew ?_ | with_reducible refine Agree.drewN ?_ _ | omega | (simp <;> omega)))) (fun b hb _ => hb)
                     · (repeat' (first | with_reducible assumption | with_reducible refine HG.alloc ?_ _ | with_reducible refine HG.drew ?_ | with_reducible refine HG.drewN ?_ _ | with_reducible refine HG.set ?_ ?_ _ | with_reducible refine HG.under ?_ hk4 hglt | (simp; done) | omega | (simp <;> omega)))
                     · (intro b hb _; rcases hb with hb | hb; exact hb.1; simp at hb; omega))
              case measure => simp [intOf]; omega
          · obtain ⟨d, hd⟩ : ∃ d, r.2[0]? = some d := ⟨_, List.getElem?_eq_getElem (by omega)⟩
            have hd5 : Hid (r.2.length = 1) := by show _ = _; have := hA'.out.1; omega
            have hda : decide (n.now < d.at_) = false := by (have := hN'.out.2 d (mem_of_get hd); rw [decide_eq_false_iff_not]; omega)
            have Hd := Lib.hid hd
            clear hd0 hd
            go_wp2_with fail
            go_region_held3 (fun X => Below wr.heap.size wr X) (repeat' (first | with_reducible assumption | with_reducible refine Below.drew ?_ | with_reducible refine Below.alloc ?_ ?_ _ | with_reducible refine Below.setCell ?_ ?_ _ | (simp; done) | omega | (simp <;> omega)))
              (first | (go_at_call 13; refine (applyS (S := fun b => b ≠ w2.heap.size ∧ b < wr.heap.size) (n := n) (n' := r.1) (ds := r.2) _ ((hs'.out.old).keep (Below.agree (by assumption))) ok rfl rfl hr'.out rfl rfl hd5.out).mono ?_; rintro e w4 ⟨A4, c4, A5, c5, rfl, hs4, hs5, hb4⟩; have hk4 := bc _ _ (by assumption) hb4; have hz4 := hk4.size; have hlg := Nat.lt_of_lt_of_le hglt hz4; have hlb := Nat.lt_of_lt_of_le hb1 hz4; obtain ⟨hc4, hf4⟩ := kcell hk4; obtain ⟨b6, o6, B6, d6, rfl, hSb6, hb6, z0, z1, z2, z3, -⟩ := pk_at hs5 Hd.out; simp only [Nat.zero_mul, Nat.add_zero] at z0 z1 z2 z3; obtain ⟨hd4, hdf4⟩ := bcell hb4; have hl4 := fun (b : Nat) h => Nat.lt_of_lt_of_le (n := b) h hb4.size))
            all_goals
              have hbw4 := hbw.trans (hk4.mono hbw.size)
              clear rc ba bc br
              go_wp2_with fail
              go_quiet (fail)
              go_wp2_with fail
              go_roundw
              case rel =>
                refine ⟨j + 1, by omega, by omega, by go_num, ?_, (by repeat' (first | with_reducible exact Below.refl _ _ | with_reducible assumption | with_reducible refine Below.setCell ?_ ?_ _ | with_reducible refine Below.drew ?_ | with_reducible refine below_drewN ?_ _ | with_reducible refine Below.alloc ?_ ?_ _ | (rintro _ ⟨⟩; simp <;> omega) | omega | (simp <;> omega)))⟩
                rw [hT'.out]
                first
                  | (refine NG.repl (S := fun b => b ≠ w2.heap.size ∧ b ≠ wr.heap.size) rfl rfl rfl ?_ ((hs4.sub ?_).keep (by repeat' (first | with_reducible exact Agree.refl _ _ | with_reducible assumption | with_reducible refine Agree.set ?_ ?_ _ | with_reducible refine Agree.alloc ?_ _ | with_reducible refine Agree.drew ?_ | with_reducible refine Agree.drewN ?_ _ | omega | (simp <;> omega)))) (fun b hb _ => hb.1)
                     · (repeat' (first | with_reducible assumption | with_reducible refine HG.alloc ?_ _ | with_reducible refine HG.drew ?_ | with_reducible refine HG.drewN ?_ _ | with_reducible refine HG.set ?_ ?_ _ | with_reducible refine HG.under ?_ hk4 hglt | (simp; done) | omega | (simp <;> omega)))
                     · (intro b hb _; rcases hb with hb | hb; exact ⟨hb.1, by omega⟩; simp at hb; exact ⟨by omega, by omega⟩))
                  | (refine NG.repl (S := fun b => b ≠ w2.heap.size) rfl rfl rfl ?_ ((hs4.sub ?_).keep (by repeat' (first | with_reducible exact Agree.refl _ _ | with_reducible assumption | with_reducible refine Agree.set ?_ ?_ _ | with_reducible refine Agree.alloc ?_ _ | with_reducible refine Agree.drew ?_ | with_reducible refine Agree.drewN ?_ _ | omega | (simp <;> omega)))) (fun b hb _ => hb)
                     · (repeat' (first | with_reducible assumption | with_reducible refine HG.alloc ?_ _ | with_reducible refine HG.drew ?_ | with_reducible refine HG.drewN ?_ _ | with_reducible refine HG.set ?_ ?_ _ | with_reducible refine HG.under ?_ hk4 hglt | (simp; done) | omega | (simp <;> omega)))
                     · (intro b hb _; rcases hb with hb | hb; exact hb.1; simp at hb; omega))
              case measure => simp [intOf]; omega
      · have hj1 : (j : Int) < (l.length : Int) := by omega
        have hj2 : ¬ (j : Int) < 40 := by omega
        go_wp2_with fail
        go_ret
        exact ⟨rfl, hbw⟩
    · have hj1 : ¬ (j : Int) < (l.length : Int) := by omega
      go_wp2_with fail
      go_ret
      exact ⟨rfl, hbw⟩
end Go.Proofs.Ytmaaniogcmlfbaa
