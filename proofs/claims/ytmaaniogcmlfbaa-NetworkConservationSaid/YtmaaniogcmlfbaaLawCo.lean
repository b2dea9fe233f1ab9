/-
  The law 'NetworkConservation', walked: it returns true for every input, and nothing that existed changes. No condition.
-/
import Derived.Test.YtmaaniogcmlfbaaNetL
import Derived.Test.YtmaaniogcmlfbaaNet24
namespace Go.Proofs.Ytmaaniogcmlfbaa
open Go.RowKit

set_option maxRecDepth 100000 in
set_option maxHeartbeats 1600000 in
theorem walk_NetworkConservation {A : Option Addr} {c : Nat} {l : List NOp} (w : World) (h : Sl opE (fun _ => True) w A c l) :
    Calls Try.prog 3 #[.slice A l.length c] w fun e w' => e = .returned (.bool true) ∧ Below w.heap.size w w' := by
  have hm := h.max
  have hL := Lib.hid h.old
  clear h
  go_enter Try.func3, Try.ntmps3
  go_wp2_with (first
    | (go_at_call 9; refine (sanity_true _).mono ?_; rintro e w1 ⟨rfl, hb1⟩)
    | (go_at_call 10; refine (newN _).mono ?_; rintro e w2 ⟨rfl, hb2⟩))
  have hb12 := Lib.hid (hb1.trans (hb2.mono hb1.size))
  have hz := hb12.out.size
  clear hb1 hb2
  go_loopw [5, 6, 7] (fun iv ov kv wr => ∃ j b : Nat, j ≤ l.length ∧ j ≤ 40 ∧ b ≤ j ∧ kv = .int .i64 j ∧ ov = .int .i64 b ∧ iv = .int .i64 ((b + (histF (l.take j)).way.length : Nat) : Int) ∧ NG (· = w2.heap.size) wr w2.heap.size (histF (l.take j)) ∧ Below w.heap.size w wr) (fun _ _ kv _ => 40 - (intOf kv).toNat)
  case atStart =>
    exact ⟨0, 0, Nat.zero_le _, by omega, by omega, rfl, rfl, rfl, NG.made (n := ⟨0, []⟩) (Sl.nil_ pkE (fun _ => False) _ _ (Nat.zero_le _)) (fun _ h _ => h.elim) rfl, hb12.out.alloc hz _⟩
  case round =>
    obtain ⟨j, b, hj, hj40, hbj, rfl, rfl, rfl, ng, hbw⟩ := hrel
    have ok := histF_ok (l.take j)
    have hlen := histF_len (l.take j)
    have htk : (l.take j).length ≤ j := List.length_take_le _ _
    by_cases hlt : j < l.length
    · by_cases h40 : j < 40
      · obtain ⟨o, ho⟩ : ∃ o, l[j]? = some o := ⟨_, List.getElem?_eq_getElem hlt⟩
        have hT := Lib.hid (histF_take ho)
        generalize histF (l.take j) = n at *
        obtain ⟨b1, f1, B1, d1, rfl, hSb, hb1, x0, x1, x2, x3, x4, x5, x6, x7, hs1⟩ := op_at (hL.out.keep (Below.agree hbw)) ho
        obtain ⟨A0, c0, y0, y1, fg, hglt, hg, hs⟩ := ng.open_
        have hs1' := Lib.hid hs1
        have hs' := Lib.hid hs
        have hg' := Lib.hid hg
        have ho' := Lib.hid ho
        clear hs1 hs hg ng ho
        have hj0 : (0 : Int) ≤ (j : Int) := by omega
        have hj1 : (j : Int) < (l.length : Int) := by omega
        have hj2 : (j : Int) < 40 := by omega
        have f0 := fg 0
        have f1' := fg 1
        clear fg
        have hb1' : b1 < w.heap.size := hSb.2
        have hne : b1 ≠ w2.heap.size := by omega
        have hne' : w2.heap.size ≠ b1 := by omega
        cases hsd : o.send with
        | true =>
          rw [hsd] at x7
          go_wp2_with fail
          go_region_law (first
            | (go_simp; go_at_call 12; refine (made_any (S := fun b => b < w.heap.size) (p := o.p) _ _ _ _ _ ((hs1'.out.sub fun _ h _ => h.2).keep (by repeat' (first | with_reducible exact Agree.refl _ _ | with_reducible assumption | with_reducible refine Agree.set ?_ ?_ _ | with_reducible refine Agree.alloc ?_ _ | with_reducible refine Agree.drew ?_ | with_reducible refine Agree.drewN ?_ _ | omega | (simp <;> omega))))).mono ?_; rintro e w3 ⟨c3, rfl, hs3, hb3⟩; obtain ⟨hc3, hf3⟩ := bcellk (k := wr.heap.size) hb3 (by simp))
            | (go_simp; go_at_call 11; refine (sendFN (S := fun b => b ≠ w2.heap.size ∧ b < wr.heap.size) (n := n) (p := madeF o.p) _ (((hs'.out.old).keep (by repeat' (first | with_reducible exact Agree.refl _ _ | with_reducible assumption | with_reducible refine Agree.set ?_ ?_ _ | with_reducible refine Agree.alloc ?_ _ | with_reducible refine Agree.drew ?_ | with_reducible refine Agree.drewN ?_ _ | omega | (simp <;> omega)))).keep (Below.agree hb3)) (hs3.sub fun b hb _ => by omega) (madeF_len _)).mono ?_; rintro e w4 ⟨A4, c4, rfl, hs4, hb4⟩; obtain ⟨hc4, hf4⟩ := bcellk (k := wr.heap.size) hb4 (by have := hb3.size; simp at this; omega)))
          all_goals
            have hb34 : Below wr.heap.size wr w4 := ((Below.refl _ _).drew.trans hb3).trans (hb4.mono hb3.size)
            have hsl := sendF_len n (madeF o.p) (by omega)
            have hst : stepF n o = sendF n (madeF o.p) := by unfold stepF; rw [if_pos hsd]
            have hT' := Lib.hid (hT.out.trans hst)
            have HS := Lib.hid hsl
            clear hst hsl
            go_wp2_with fail
            go_roundw
            case rel =>
              refine ⟨j + 1, b, by omega, by omega, by omega, by go_num, rfl, ?_, ?_, ?_⟩
              · rw [hT'.out, HS.out]; go_num
              · rw [hT'.out]
                exact NG.put rfl ⟨_, _, (hb34.block _ hglt).trans hg'.out⟩ hs4 (fun b hb _ => by rcases hb with hb | hb; exact hb.1; have := hb3.size; simp at this; omega)
              · exact ((hbw.trans (hb34.mono hbw.size)).setCell (by simp; omega) _).setCell (by simp; omega) _
            case measure => simp [intOf]; omega
        | false =>
          rw [hsd] at x7
          have hst : stepF n o = (applyF n o.kd o.at_ o.by_).1 := by unfold stepF; rw [if_neg (by simp [hsd])]
          have hT' := Lib.hid (hT.out.trans hst)
          clear hst
          have hA := applyF_len n o.kd o.at_ o.by_
          have okA := (ok.apply o.kd o.at_ o.by_).1
          have br : Below wr.heap.size wr wr := Below.refl _ _
          have rc := fun W (hW : Below wr.heap.size wr W) b o (hb : b < wr.heap.size) => hW.cell (p := ⟨b, o, none⟩) hb
          have ba : ∀ W o, Below wr.heap.size wr W → Below wr.heap.size wr (W.alloc o) := fun W o h => h.alloc h.size o
          have bc : ∀ W W', Below wr.heap.size wr W → Below W.heap.size W W' → Below wr.heap.size wr W' := fun W W' h k => h.trans (k.mono h.size)
          generalize hr : applyF n o.kd o.at_ o.by_ = r at *
          have hr' := Lib.hid hr
          clear hr
          have hA' := Lib.hid hA
          clear hA
          obtain ⟨a1, a2, a3, a4, a5, a6⟩ := hA'.out
          have g1 : ¬ (1 : Int) < (r.2.length : Int) := by omega
          have g2 : ¬ (n.way.length : Int) + 1 < (r.1.way.length : Int) := by omega
          have g3 : ¬ (r.1.way.length : Int) < (n.way.length : Int) - 1 := by omega
          have fin : ∀ W, NG (· = w2.heap.size) W w2.heap.size r.1 → Below w.heap.size w W → ∀ iv ov : Value, (∃ b' : Nat, b' ≤ j + 1 ∧ ov = .int .i64 b' ∧ iv = .int .i64 ((b' + r.1.way.length : Nat) : Int)) →
              ∃ j' b' : Nat, j' ≤ l.length ∧ j' ≤ 40 ∧ b' ≤ j' ∧ Value.int .i64 ((j : Int) + 1) = .int .i64 j' ∧ ov = .int .i64 b' ∧ iv = .int .i64 ((b' + (histF (l.take j')).way.length : Nat) : Int) ∧ NG (· = w2.heap.size) W w2.heap.size (histF (l.take j')) ∧ Below w.heap.size w W := by
            rintro W hng hbl iv ov ⟨b', h1, h2, h3⟩
            exact ⟨j + 1, b', by omega, by omega, h1, by go_num, h2, by rw [hT'.out]; exact h3, by rw [hT'.out]; exact hng, hbl⟩
          have Fin := Lib.hid fin
          have a3' := a3
          clear fin a4 a5 a6
          go_wp2_with fail
          go_region_held3 (fun X => Below wr.heap.size wr X) (repeat' (first | with_reducible assumption | with_reducible refine Below.drew ?_ | with_reducible refine Below.alloc ?_ ?_ _ | with_reducible refine Below.setCell ?_ ?_ _ | (simp; done) | omega | (simp <;> omega)))
            (first | (go_at_call 13; refine (applyE (S := fun b => b ≠ w2.heap.size ∧ b < wr.heap.size) (n := n) _ ((hs'.out.old).keep (Below.agree (by assumption))) ok hr'.out).mono ?_; rintro e w4 ⟨A4, c4, A5, c5, rfl, hs4, hs5, hb4⟩; have hk4 := bc _ _ (by assumption) hb4; have hz4 := hk4.size; have hlg := Nat.lt_of_lt_of_le hglt hz4; have hlb := Nat.lt_of_lt_of_le hb1 hz4; obtain ⟨hc4, hf4⟩ := kcell hk4; obtain ⟨hd4, hdf4⟩ := bcell hb4; have hl4 := fun (b : Nat) h => Nat.lt_of_lt_of_le (n := b) h hb4.size))
          all_goals
            have hbw4 := hbw.trans (hk4.mono hbw.size)
            by_cases hk3 : o.kd = 3
            · have k3 : (o.kd == 3) = true := by simpa using hk3
              have a6 := hA'.out.2.2.2.2.2 hk3
              clear hk3
              have hd' : ¬ (r.2.length : Int) = 1 := fun h => by have := hA'.out.2.2.2.1 (by omega); omega
              go_wp2_with fail
              go_roundw
              case rel =>
                refine Fin.out _ ?_ (by repeat' (first | with_reducible exact Below.refl _ _ | with_reducible assumption | with_reducible refine Below.setCell ?_ ?_ _ | with_reducible refine Below.drew ?_ | with_reducible refine below_drewN ?_ _ | with_reducible refine Below.alloc ?_ ?_ _ | (rintro _ ⟨⟩; simp <;> omega) | omega | (simp <;> omega))) _ _ ⟨b, by omega, rfl, by go_num⟩
                first
                | ((with_reducible refine NG.below (NG.put rfl ⟨_, _, (hk4.block _ hglt).trans hg'.out⟩ hs4 ?_) ((Below.refl _ _).alloc (Nat.le_refl _) _)); intro b hb _; rcases hb with hb | hb; exact hb.1; simp at hb; omega)
                | ((with_reducible refine NG.put (S := fun b => b ≠ w2.heap.size ∧ b ≠ wr.heap.size) rfl (w := (_ : World).setCell _ _) ?_ ?_ (fun b hb _ => hb.1)); rotate_left; exact ((hs4.sub fun b hb _ => by (rcases hb with hb | hb; exact ⟨hb.1, by omega⟩; simp at hb; exact ⟨by omega, by omega⟩)).keep (by repeat' (first | with_reducible exact Agree.refl _ _ | with_reducible assumption | with_reducible refine Agree.set ?_ ?_ _ | with_reducible refine Agree.alloc ?_ _ | with_reducible refine Agree.drew ?_ | with_reducible refine Agree.drewN ?_ _ | omega | (simp <;> omega)))); exact ⟨_, _, (Below.heap_setCell _ _ _ _ (by simp; omega)).trans ((Below.heap_setCell _ _ _ _ (by simp; omega)).trans ((hk4.block _ hglt).trans hg'.out))⟩)
              case measure => simp [intOf]; omega
            · have k3 : (o.kd == 3) = false := by simpa using hk3
              have a5 := hA'.out.2.2.2.2.1 hk3
              clear hk3
              by_cases hd : r.2.length = 1
              · have a4 := hA'.out.2.2.2.1 hd
                have hd' : (r.2.length : Int) = 1 := by omega
                have hd2 : ((r.1.way.length : Int) != (n.way.length : Int) - 1) = false := by simp; omega
                have hd3 : (r.1.way.length : Int) = (n.way.length : Int) - 1 := by omega
                have Hd3 := Lib.hid hd3
                clear hd hd3
                go_wp2_with fail
                go_roundw
                case rel =>
                  refine Fin.out _ ?_ (by repeat' (first | with_reducible exact Below.refl _ _ | with_reducible assumption | with_reducible refine Below.setCell ?_ ?_ _ | with_reducible refine Below.drew ?_ | with_reducible refine below_drewN ?_ _ | with_reducible refine Below.alloc ?_ ?_ _ | (rintro _ ⟨⟩; simp <;> omega) | omega | (simp <;> omega))) _ _ ⟨b + 1, by omega, by go_num, by go_num⟩
                  first
                  | ((with_reducible refine NG.below (NG.put rfl ⟨_, _, (hk4.block _ hglt).trans hg'.out⟩ hs4 ?_) ((Below.refl _ _).alloc (Nat.le_refl _) _)); intro b hb _; rcases hb with hb | hb; exact hb.1; simp at hb; omega)
                  | ((with_reducible refine NG.put (S := fun b => b ≠ w2.heap.size ∧ b ≠ wr.heap.size) rfl (w := (_ : World).setCell _ _) ?_ ?_ (fun b hb _ => hb.1)); rotate_left; exact ((hs4.sub fun b hb _ => by (rcases hb with hb | hb; exact ⟨hb.1, by omega⟩; simp at hb; exact ⟨by omega, by omega⟩)).keep (by repeat' (first | with_reducible exact Agree.refl _ _ | with_reducible assumption | with_reducible refine Agree.set ?_ ?_ _ | with_reducible refine Agree.alloc ?_ _ | with_reducible refine Agree.drew ?_ | with_reducible refine Agree.drewN ?_ _ | omega | (simp <;> omega)))); exact ⟨_, _, (Below.heap_setCell _ _ _ _ (by simp; omega)).trans ((Below.heap_setCell _ _ _ _ (by simp; omega)).trans ((hk4.block _ hglt).trans hg'.out))⟩)
                case measure => simp [intOf]; omega
              · have hd' : ¬ (r.2.length : Int) = 1 := by omega
                clear hd
                go_wp2_with fail
                go_roundw
                case rel =>
                  refine Fin.out _ ?_ (by repeat' (first | with_reducible exact Below.refl _ _ | with_reducible assumption | with_reducible refine Below.setCell ?_ ?_ _ | with_reducible refine Below.drew ?_ | with_reducible refine below_drewN ?_ _ | with_reducible refine Below.alloc ?_ ?_ _ | (rintro _ ⟨⟩; simp <;> omega) | omega | (simp <;> omega))) _ _ ⟨b + (n.way.length - r.1.way.length), by omega, by go_num, by go_num⟩
                  first
                  | ((with_reducible refine NG.below (NG.put rfl ⟨_, _, (hk4.block _ hglt).trans hg'.out⟩ hs4 ?_) ((Below.refl _ _).alloc (Nat.le_refl _) _)); intro b hb _; rcases hb with hb | hb; exact hb.1; simp at hb; omega)
                  | ((with_reducible refine NG.put (S := fun b => b ≠ w2.heap.size ∧ b ≠ wr.heap.size) rfl (w := (_ : World).setCell _ _) ?_ ?_ (fun b hb _ => hb.1)); rotate_left; exact ((hs4.sub fun b hb _ => by (rcases hb with hb | hb; exact ⟨hb.1, by omega⟩; simp at hb; exact ⟨by omega, by omega⟩)).keep (by repeat' (first | with_reducible exact Agree.refl _ _ | with_reducible assumption | with_reducible refine Agree.set ?_ ?_ _ | with_reducible refine Agree.alloc ?_ _ | with_reducible refine Agree.drew ?_ | with_reducible refine Agree.drewN ?_ _ | omega | (simp <;> omega)))); exact ⟨_, _, (Below.heap_setCell _ _ _ _ (by simp; omega)).trans ((Below.heap_setCell _ _ _ _ (by simp; omega)).trans ((hk4.block _ hglt).trans hg'.out))⟩)
                case measure => simp [intOf]; omega
      · have hj1 : (j : Int) < (l.length : Int) := by omega
        have hj2 : ¬ (j : Int) < 40 := by omega
        obtain ⟨A0, c0, y0, y1, -, hglt, -, -⟩ := ng.open_
        have hl9 : (histF (l.take j)).way.length ≤ 40 := by omega
        clear ng ok htk hlen
        generalize histF (l.take j) = n at *
        go_wp2_with fail
        go_ret
        exact ⟨rfl, hbw⟩
    · have hj1 : ¬ (j : Int) < (l.length : Int) := by omega
      obtain ⟨A0, c0, y0, y1, -, hglt, -, -⟩ := ng.open_
      have hl9 : (histF (l.take j)).way.length ≤ 40 := by omega
      clear ng ok htk hlen
      generalize histF (l.take j) = n at *
      go_wp2_with fail
      go_ret
      exact ⟨rfl, hbw⟩
end Go.Proofs.Ytmaaniogcmlfbaa
