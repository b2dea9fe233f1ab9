/-
  The law 'NetworkMatchesReference', walked: it returns true for every input, and nothing that existed changes. No condition.
-/
import Derived.Test.YtmaaniogcmlfbaaRunR
import Derived.Test.YtmaaniogcmlfbaaNet24
namespace Go.Proofs.Ytmaaniogcmlfbaa
open Go.RowKit

theorem runNL {S T : Nat → Prop} {A B : Option Addr} {c d len : Nat} {n : Nt} {es : List Ev} {r : Nt × List Pk} (w : World) (h : Sl pkE S w A c n.way) (k : Sl evE T w B d es) (ok : NtOk n) (hl : es.length = len) (hes : len ≤ 1000) (hE : runF n es = r) :
    Calls Try.prog 20 #[.agg #[.int .i64 n.now, .slice A n.way.length c], .slice B len d] w (ApRes S w r.1 r.2) := by
  subst hl; subst hE; exact runN w h k ok hes
theorem runRL {S T : Nat → Prop} {A B : Option Addr} {c d len : Nat} {n : Nt} {es : List Ev} {r : Nt × List Pk} (w : World) (h : Sl pkE S w A c n.way) (k : Sl evE T w B d es) (ok : NtOk n) (hl : es.length = len) (hes : len ≤ 1000) (hE : runF n es = r) :
    Calls Try.prog 21 #[.agg #[.int .i64 n.now, .slice A n.way.length c], .slice B len d] w (ApRes S w r.1 r.2) := by
  subst hl; subst hE; exact runR w h k ok hes

set_option maxRecDepth 100000 in
set_option maxHeartbeats 8000000 in
theorem walk_NetworkMatchesReference {A B : Option Addr} {c d : Nat} {l : List NOp} {es : List Ev} (w : World) (h : Sl opE (fun _ => True) w A c l) (h' : Sl evE (fun _ => True) w B d es) :
    Calls Try.prog 7 #[.slice A l.length c, .slice B es.length d] w fun e w' => e = .returned (.bool true) ∧ Below w.heap.size w w' := by
  have hm := h.max
  have hm' := h'.max
  have hcm := h'.capMax
  have hle := h'.le
  have hL := Lib.hid h.old
  have hE := Lib.hid h'.old
  clear h h'
  go_enter Try.func7, Try.ntmps7
  go_wp2_with (first
    | (go_at_call 9; refine (sanity_true _).mono ?_; rintro e w1 ⟨rfl, hb1⟩)
    | (go_at_call 10; refine (newN _).mono ?_; rintro e w2 ⟨rfl, hb2⟩)
    | (go_at_call 15; refine (newR _).mono ?_; rintro e w3 ⟨rfl, hb3⟩))
  have hb12 := hb1.trans (hb2.mono hb1.size)
  have hz := hb12.size
  have hb13 := Lib.hid ((hb12.alloc hz _).trans (hb3.mono (by simp; omega)))
  have hz3 : w2.heap.size + 1 ≤ w3.heap.size := by have := hb3.size; simpa using this
  have hB2 : HG w3 w2.heap.size := HG.below (w := w2.alloc (.cells #[.int .i64 0, .slice none 0 0] 26)) ⟨_, _, heap_alloc_at rfl⟩ hb3
  have hN3 : NG (fun b => b = w2.heap.size ∨ b = w3.heap.size) w3 w2.heap.size ⟨0, []⟩ := (NG.made (n := ⟨0, []⟩) (Sl.nil_ pkE (fun _ => False) _ _ (Nat.zero_le _)) (fun _ h _ => h.elim) rfl).below hb3
  clear hb1 hb2 hb3 hb12
  go_loopw [8] (fun kv wr => ∃ j : Nat, j ≤ l.length ∧ j ≤ 40 ∧ kv = .int .i64 j ∧ NG (fun b => b = w2.heap.size ∨ b = w3.heap.size) wr w2.heap.size (histF (l.take j)) ∧ NG (fun b => b = w2.heap.size ∨ b = w3.heap.size) wr w3.heap.size (histF (l.take j)) ∧ Below w.heap.size w wr) (fun kv _ => 40 - (intOf kv).toNat)
  case atStart =>
    exact ⟨0, Nat.zero_le _, by omega, rfl, hN3.alloc _, NG.made (n := ⟨0, []⟩) (Sl.nil_ pkE (fun _ => False) _ _ (Nat.zero_le _)) (fun _ h _ => h.elim) rfl, hb13.out.alloc (by omega) _⟩
  case round =>
    obtain ⟨j, hj, hj40, rfl, ngN, ngM, hbw⟩ := hrel
    have ok := histF_ok (l.take j)
    have hlen := histF_len (l.take j)
    have htk : (l.take j).length ≤ j := List.length_take_le _ _
    by_cases hlt : j < l.length
    · by_cases h40 : j < 40
      · obtain ⟨o, ho⟩ : ∃ o, l[j]? = some o := ⟨_, List.getElem?_eq_getElem hlt⟩
        have hT := Lib.hid (histF_take ho)
        generalize histF (l.take j) = n at *
        obtain ⟨b1, f1, B1, d1, rfl, hSb, hb1, x0, x1, x2, x3, x4, x5, x6, x7, hs1⟩ := op_at (hL.out.keep (Below.agree hbw)) ho
        obtain ⟨A0, c0, y0, y1, fg, hglt, hg, hs⟩ := ngN.open_
        obtain ⟨A9, c9, z0, z1, fz, hzlt, hgz, hsz⟩ := ngM.open_
        have hgB := ngN.hg
        have hs1' := Lib.hid hs1
        have hs' := Lib.hid hs
        have hsz' := Lib.hid hsz
        have ho' := Lib.hid ho
        clear hs1 hs hg hsz hgz ho
        have hj0 : (0 : Int) ≤ (j : Int) := by omega
        have hj1 : (j : Int) < (l.length : Int) := by omega
        have hj2 : (j : Int) < 40 := by omega
        have f0 := fg 0
        have f1' := fg 1
        have g0 := fz 0
        have g1 := fz 1
        clear fg fz
        have hb1' : b1 < w.heap.size := hSb.2
        have hne : b1 ≠ w2.heap.size := by omega
        have hne' : w2.heap.size ≠ b1 := by omega
        have hme : b1 ≠ w3.heap.size := by omega
        have hme' : w3.heap.size ≠ b1 := by omega
        have hnm : w2.heap.size ≠ w3.heap.size := by omega
        have hnm' : w3.heap.size ≠ w2.heap.size := by omega
        cases hsd : o.send with
        | true =>
          rw [hsd] at x7
          have hst : stepF n o = sendF n (madeF o.p) := by unfold stepF; rw [if_pos hsd]
          have hT' := Lib.hid (hT.out.trans hst)
          clear hst
          go_upto_region 8 with fail
          go_cut [42] (fun _ wx => NG (fun b => b = w2.heap.size ∨ b = w3.heap.size) wx w2.heap.size (sendF n (madeF o.p)) ∧ NG (fun b => b = w2.heap.size ∨ b = w3.heap.size) wx w3.heap.size n ∧ Below w.heap.size w wx)
          case first =>
            go_region_law (first
              | (go_simp; go_at_call 12; refine (made_any (S := fun b => b < w.heap.size) (p := o.p) _ _ _ _ _ ((hs1'.out.sub fun _ h _ => h.2).keep (by repeat' (first | with_reducible exact Agree.refl _ _ | with_reducible assumption | with_reducible refine Agree.set ?_ ?_ _ | with_reducible refine Agree.alloc ?_ _ | with_reducible refine Agree.drew ?_ | with_reducible refine Agree.drewN ?_ _ | omega | (simp <;> omega))))).mono ?_; rintro e w4 ⟨c3, rfl, hs3, hb3⟩; obtain ⟨hc3, hf3⟩ := bcellk (k := wr.heap.size) hb3 (by simp))
              | (go_simp; go_at_call 11; refine (sendFN (S := fun b => ¬ (b = w2.heap.size ∨ b = w3.heap.size) ∧ b < wr.heap.size) (n := n) (p := madeF o.p) _ (((hs'.out.old).keep (by repeat' (first | with_reducible exact Agree.refl _ _ | with_reducible assumption | with_reducible refine Agree.set ?_ ?_ _ | with_reducible refine Agree.alloc ?_ _ | with_reducible refine Agree.drew ?_ | with_reducible refine Agree.drewN ?_ _ | omega | (simp <;> omega)))).keep (Below.agree hb3)) (hs3.sub fun b hb _ => by omega) (madeF_len _)).mono ?_; rintro e w5 ⟨A4, c4, rfl, hs4, hb4⟩; obtain ⟨hc4, hf4⟩ := bcellk (k := wr.heap.size) hb4 (by have := hb3.size; simp at this; omega)))
            all_goals
              have hb34 : Below wr.heap.size wr w5 := ((Below.refl _ _).drew.trans hb3).trans (hb4.mono hb3.size)
              have hz34 := hb34.size
              go_wp2_with fail
              go_meet
              refine ⟨NG.repl rfl rfl (.inl rfl) (hgB.under hb34 hglt) hs4 ?_, ((ngM.below hb34).set (.inl rfl) hnm _).set (.inl rfl) hnm _, (by repeat' (first | with_reducible exact Below.refl _ _ | with_reducible assumption | with_reducible refine Below.trans ?_ (Below.mono hb34 ?_) | with_reducible refine Below.trans ?_ (Below.mono hbw ?_) | with_reducible refine Below.setCell ?_ ?_ _ | with_reducible refine Below.drew ?_ | with_reducible refine below_drewN ?_ _ | with_reducible refine Below.alloc ?_ ?_ _ | (rintro _ ⟨⟩; simp <;> omega) | omega | (simp <;> omega)))⟩
              intro b hb _
              rcases hb with hb | hb
              · exact hb.1
              · have := hb3.size; simp at this; omega
          case rest =>
            clear x0 x1 x2 x3 x4 x5 x6 x7 y0 y1 z0 z1 f0 f1' g0 g1 hs' hsz' hs1' ngN ngM hbw hgB hglt hzlt hb1
            obtain ⟨ngN, ngM, hbw⟩ := hcut
            obtain ⟨A0, c0, y0, y1, fg, hglt, hg, hs⟩ := ngN.open_
            obtain ⟨A9, c9, z0, z1, fz, hzlt, hgz, hsz⟩ := ngM.open_
            have hgN := ngN.hg
            have hgM := ngM.hg
            obtain ⟨b1_, f1_, B1, d1, e1_, -, hb1, x0, x1, x2, x3, x4, x5, x6, x7, hs1⟩ := op_at (hL.out.keep (Below.agree hbw)) ho'.out
            injection e1_ with e1_
            injection e1_ with e2_ e3_
            subst e2_
            subst e3_
            rw [hsd] at x7
            have hs1' := Lib.hid hs1
            have hs' := Lib.hid hs
            have hsz' := Lib.hid hsz
            clear hs hg hsz hgz hs1
            have f0 := fg 0
            have f1' := fg 1
            have g0 := fz 0
            have g1 := fz 1
            clear fg fz
            go_upto_region 9 with fail
            go_cut [49] (fun _ wx => NG (fun b => b = w2.heap.size ∨ b = w3.heap.size) wx w2.heap.size (sendF n (madeF o.p)) ∧ NG (fun b => b = w2.heap.size ∨ b = w3.heap.size) wx w3.heap.size (sendF n (madeF o.p)) ∧ Below w.heap.size w wx)
            case first =>
              go_region_law (first
                | (go_simp; go_at_call 12; refine (made_any (S := fun b => b < w.heap.size) (p := o.p) _ _ _ _ _ ((hs1'.out.sub fun _ h _ => h.2).keep (by repeat' (first | with_reducible exact Agree.refl _ _ | with_reducible assumption | with_reducible refine Agree.set ?_ ?_ _ | with_reducible refine Agree.alloc ?_ _ | with_reducible refine Agree.drew ?_ | with_reducible refine Agree.drewN ?_ _ | omega | (simp <;> omega))))).mono ?_; rintro e w4 ⟨c3, rfl, hs3, hb3⟩; obtain ⟨hc3, hf3⟩ := bcellk (k := wc.heap.size) hb3 (by simp))
                | (go_simp; go_at_call 16; refine (sendFR (S := fun b => ¬ (b = w2.heap.size ∨ b = w3.heap.size) ∧ b < wc.heap.size) (n := n) (p := madeF o.p) _ (((hsz'.out.old).keep (by repeat' (first | with_reducible exact Agree.refl _ _ | with_reducible assumption | with_reducible refine Agree.set ?_ ?_ _ | with_reducible refine Agree.alloc ?_ _ | with_reducible refine Agree.drew ?_ | with_reducible refine Agree.drewN ?_ _ | omega | (simp <;> omega)))).keep (Below.agree hb3)) (hs3.sub fun b hb _ => by omega) (madeF_len _)).mono ?_; rintro e w5 ⟨A4, c4, rfl, hs4, hb4⟩; obtain ⟨hc4, hf4⟩ := bcellk (k := wc.heap.size) hb4 (by have := hb3.size; simp at this; omega)))
              all_goals
                have hb34 : Below wc.heap.size wc w5 := ((Below.refl _ _).drew.trans hb3).trans (hb4.mono hb3.size)
                have hz34 := hb34.size
                go_wp2_with fail
                go_meet
                refine ⟨((ngN.below hb34).set (.inr rfl) hnm' _).set (.inr rfl) hnm' _, NG.repl rfl rfl (.inr rfl) (hgM.under hb34 hzlt) hs4 ?_, (by repeat' (first | with_reducible exact Below.refl _ _ | with_reducible assumption | with_reducible refine Below.trans ?_ (Below.mono hb34 ?_) | with_reducible refine Below.trans ?_ (Below.mono hbw ?_) | with_reducible refine Below.setCell ?_ ?_ _ | with_reducible refine Below.drew ?_ | with_reducible refine below_drewN ?_ _ | with_reducible refine Below.alloc ?_ ?_ _ | (rintro _ ⟨⟩; simp <;> omega) | omega | (simp <;> omega)))⟩
                intro b hb _
                rcases hb with hb | hb
                · exact hb.1
                · have := hb3.size; simp at this; omega
            case rest =>
              clear x0 x1 x2 x3 x4 x5 x6 x7 y0 y1 z0 z1 f0 f1' g0 g1 hs' hsz' hs1' ngN ngM hbw hgN hgM hglt hzlt hb1
              obtain ⟨ngN, ngM, hbw⟩ := hcut
              obtain ⟨A0, c0, y0, y1, fg, hglt, hg, hs⟩ := ngN.open_
              obtain ⟨A9, c9, z0, z1, fz, hzlt, hgz, hsz⟩ := ngM.open_
              have hgN := ngN.hg
              have hgM := ngM.hg
              have hs' := Lib.hid hs
              have hsz' := Lib.hid hsz
              clear hs hg hsz hgz
              have f0 := fg 0
              have f1' := fg 1
              have g0 := fz 0
              have g1 := fz 1
              clear fg fz
              generalize sendF n (madeF o.p) = m at *
              go_wp2_with (go_at_call 19; refine (same_eq _ hs'.out hsz'.out).mono ?_; rintro e w6 ⟨rfl, hb6⟩)
              go_roundw
              case rel => exact ⟨j + 1, by omega, by omega, by go_num, by rw [hT'.out]; exact ngN.below hb6, by rw [hT'.out]; exact ngM.below hb6, hbw.trans (hb6.mono hbw.size)⟩
              case measure => simp [intOf]; omega
        | false =>
          rw [hsd] at x7
          have hst : stepF n o = (applyF n o.kd o.at_ o.by_).1 := by unfold stepF; rw [if_neg (by simp [hsd])]
          have hT' := Lib.hid (hT.out.trans hst)
          clear hst
          have okA := (ok.apply o.kd o.at_ o.by_).1
          generalize hr : applyF n o.kd o.at_ o.by_ = r at *
          have hr' := Lib.hid hr
          clear hr
          go_upto_region 10 with fail
          go_cut [9, 10] (fun s1 s2 wx => ∃ g A5 c5, s1 = .pointer (some ⟨g, 0, none⟩) ∧ s2 = .slice A5 r.2.length c5 ∧ wr.heap.size ≤ g ∧ NG (fun b => b = w2.heap.size ∨ b = w3.heap.size) wx g r.1 ∧ Sl pkE (fun b => ¬ (b = w2.heap.size ∨ b = w3.heap.size)) wx A5 c5 r.2 ∧ Below wr.heap.size wr wx)
          case first =>
            have br : Below wr.heap.size wr wr := Below.refl _ _
            have rc := fun W (hW : Below wr.heap.size wr W) b o (hb : b < wr.heap.size) => hW.cell (p := ⟨b, o, none⟩) hb
            have ba : ∀ W o, Below wr.heap.size wr W → Below wr.heap.size wr (W.alloc o) := fun W o h => h.alloc h.size o
            have bc : ∀ W W', Below wr.heap.size wr W → Below W.heap.size W W' → Below wr.heap.size wr W' := fun W W' h k => h.trans (k.mono h.size)
            go_region_held3 (fun X => Below wr.heap.size wr X) (repeat' (first | with_reducible assumption | with_reducible refine Below.drew ?_ | with_reducible refine Below.alloc ?_ ?_ _ | with_reducible refine Below.setCell ?_ ?_ _ | (simp; done) | omega | (simp <;> omega)))
              (first | (go_at_call 13; refine (applyE (S := fun b => ¬ (b = w2.heap.size ∨ b = w3.heap.size) ∧ b < wr.heap.size) (n := n) _ ((hs'.out.old).keep (Below.agree (by assumption))) ok hr'.out).mono ?_; rintro e w4 ⟨A4, c4, A5, c5, rfl, hs4, hs5, hb4⟩; have hk4 := bc _ _ (by assumption) hb4; have hz4 := hk4.size; have hlg := Nat.lt_of_lt_of_le hglt hz4; have hlz := Nat.lt_of_lt_of_le hzlt hz4; have hlb := Nat.lt_of_lt_of_le hb1 hz4; obtain ⟨hc4, hf4⟩ := kcell hk4; obtain ⟨hd4, hdf4⟩ := bcell hb4; have hl4 := fun (b : Nat) h => Nat.lt_of_lt_of_le (n := b) h hb4.size))
            · go_wp2_with fail
              go_meet
              exact ⟨_, A5, c5, rfl, rfl, hz4, NG.made hs4 (fun b hb _ => by rcases hb with hb | hb; exact hb.1; simp at hb; omega) rfl, (hs5.sub fun b hb _ => by rcases hb with hb | hb; exact hb.1; simp at hb; omega).keep ((Agree.refl _ _).alloc _), hk4.alloc hz4 _⟩
            · go_wp2_with fail
              go_meet
              have hgx : HG w4 wr.heap.size := HG.below (w := (wr.alloc (.cells #[.int .i64 0, .slice none 0 0] 26)).drew) ⟨_, _, heap_alloc_at rfl⟩ hb4
              exact ⟨_, A5, c5, rfl, rfl, Nat.le_refl _, NG.put2 rfl rfl hgx hs4 (fun b hb _ => by rcases hb with hb | hb; exact ⟨hb.1, by omega⟩; simp at hb; exact ⟨by omega, by omega⟩), ((hs5.sub (T := fun b => ¬ (b = w2.heap.size ∨ b = w3.heap.size) ∧ b ≠ wr.heap.size) fun b hb _ => by rcases hb with hb | hb; exact ⟨hb.1, by omega⟩; simp at hb; exact ⟨by omega, by omega⟩).keep (((Agree.refl _ _).set (fun h => h.2 rfl) _).set (fun h => h.2 rfl) _)).sub fun b hb _ => hb.1, (hk4.setCell (Nat.le_refl _) _).setCell (Nat.le_refl _) _⟩
          case rest =>
            obtain ⟨g9, A5, c5, rfl, rfl, hg9, ng9, hs5, hbx⟩ := hcut
            clear x0 x1 x2 x3 x4 x5 x6 x7 y0 y1 z0 z1 f0 f1' g0 g1 hs' hsz' hs1' hgB hb1
            replace ngN := ngN.below hbx
            replace ngM := ngM.below hbx
            replace hbw := hbw.trans (hbx.mono hbw.size)
            have hg9n : g9 ≠ w2.heap.size := by omega
            have hg9m : g9 ≠ w3.heap.size := by omega
            clear hglt hzlt hbx hg9
            obtain ⟨wd, rfl⟩ : ∃ wd, wd = wc := ⟨_, rfl⟩
            obtain ⟨A0, c0, y0, y1, fg, hglt, hg, hs⟩ := ngN.open_
            obtain ⟨A9, c9, z0, z1, fz, hzlt, hgz, hsz⟩ := ngM.open_
            have hgN := ngN.hg
            have hgM := ngM.hg
            obtain ⟨b1_, f1_, B1, d1, e1_, -, hb1, x0, x1, x2, x3, x4, x5, x6, x7, hs1⟩ := op_at (hL.out.keep (Below.agree hbw)) ho'.out
            injection e1_ with e1_
            injection e1_ with e2_ e3_
            subst e2_
            subst e3_
            rw [hsd] at x7
            have hs1' := Lib.hid hs1
            have hs' := Lib.hid hs
            have hsz' := Lib.hid hsz
            clear hs hg hsz hgz hs1
            have f0 := fg 0
            have f1' := fg 1
            have g0 := fz 0
            have g1 := fz 1
            clear fg fz
            go_upto_region 11 with fail
            go_cut [11, 12] (fun s1 s2 wx => ∃ g A5 c5, s1 = .pointer (some ⟨g, 0, none⟩) ∧ s2 = .slice A5 r.2.length c5 ∧ wd.heap.size ≤ g ∧ NG (fun b => b = w2.heap.size ∨ b = w3.heap.size) wx g r.1 ∧ Sl pkE (fun b => ¬ (b = w2.heap.size ∨ b = w3.heap.size)) wx A5 c5 r.2 ∧ Below wd.heap.size wd wx)
            case first =>
              have br : Below wd.heap.size wd wd := Below.refl _ _
              have rc := fun W (hW : Below wd.heap.size wd W) b o (hb : b < wd.heap.size) => hW.cell (p := ⟨b, o, none⟩) hb
              have ba : ∀ W o, Below wd.heap.size wd W → Below wd.heap.size wd (W.alloc o) := fun W o h => h.alloc h.size o
              have bc : ∀ W W', Below wd.heap.size wd W → Below W.heap.size W W' → Below wd.heap.size wd W' := fun W W' h k => h.trans (k.mono h.size)
              go_region_held3 (fun X => Below wd.heap.size wd X) (repeat' (first | with_reducible assumption | with_reducible refine Below.drew ?_ | with_reducible refine Below.alloc ?_ ?_ _ | with_reducible refine Below.setCell ?_ ?_ _ | (simp; done) | omega | (simp <;> omega)))
                (first | (go_at_call 17; refine (applyRE (S := fun b => ¬ (b = w2.heap.size ∨ b = w3.heap.size) ∧ b < wd.heap.size) (n := n) _ ((hsz'.out.old).keep (Below.agree (by assumption))) ok hr'.out).mono ?_; rintro e w4 ⟨A4, c4, A5, c5, rfl, hs4, hs5, hb4⟩; have hk4 := bc _ _ (by assumption) hb4; have hz4 := hk4.size; have hlg := Nat.lt_of_lt_of_le hglt hz4; have hlz := Nat.lt_of_lt_of_le hzlt hz4; have hlb := Nat.lt_of_lt_of_le hb1 hz4; obtain ⟨hc4, hf4⟩ := kcell hk4; obtain ⟨hd4, hdf4⟩ := bcell hb4; have hl4 := fun (b : Nat) h => Nat.lt_of_lt_of_le (n := b) h hb4.size))
              · go_wp2_with fail
                go_meet
                exact ⟨_, A5, c5, rfl, rfl, hz4, NG.made hs4 (fun b hb _ => by rcases hb with hb | hb; exact hb.1; simp at hb; omega) rfl, (hs5.sub fun b hb _ => by rcases hb with hb | hb; exact hb.1; simp at hb; omega).keep ((Agree.refl _ _).alloc _), hk4.alloc hz4 _⟩
              · go_wp2_with fail
                go_meet
                have hgx : HG w4 wd.heap.size := HG.below (w := (wd.alloc (.cells #[.int .i64 0, .slice none 0 0] 26)).drew) ⟨_, _, heap_alloc_at rfl⟩ hb4
                exact ⟨_, A5, c5, rfl, rfl, Nat.le_refl _, NG.put2 rfl rfl hgx hs4 (fun b hb _ => by rcases hb with hb | hb; exact ⟨hb.1, by omega⟩; simp at hb; exact ⟨by omega, by omega⟩), ((hs5.sub (T := fun b => ¬ (b = w2.heap.size ∨ b = w3.heap.size) ∧ b ≠ wd.heap.size) fun b hb _ => by rcases hb with hb | hb; exact ⟨hb.1, by omega⟩; simp at hb; exact ⟨by omega, by omega⟩).keep (((Agree.refl _ _).set (fun h => h.2 rfl) _).set (fun h => h.2 rfl) _)).sub fun b hb _ => hb.1, (hk4.setCell (Nat.le_refl _) _).setCell (Nat.le_refl _) _⟩
            case rest =>
              obtain ⟨g11, A6, c6, rfl, rfl, hg11, ng11, hs6, hbx⟩ := hcut
              clear x0 x1 x2 x3 x4 x5 x6 x7 y0 y1 z0 z1 f0 f1' g0 g1 hs' hsz' hs1' hgN hgM hb1
              replace ngN := ngN.below hbx
              replace ngM := ngM.below hbx
              have hg9l := ng9.lt
              replace ng9 := ng9.below hbx
              replace hs5 := hs5.keep (Below.agree hbx)
              replace hbw := hbw.trans (hbx.mono hbw.size)
              have hg11n : g11 ≠ w2.heap.size := by omega
              have hg11m : g11 ≠ w3.heap.size := by omega
              have hg911 : g9 ≠ g11 := by omega
              clear hglt hzlt hbx hg11
              obtain ⟨A0, c0, y0, y1, fg, hglt, -, -⟩ := ngN.open_
              obtain ⟨A9, c9, z0, z1, fz, hzlt, -, -⟩ := ngM.open_
              have hgN := ngN.hg
              have hgM := ngM.hg
              have f0 := fg 0
              have f1' := fg 1
              have g0 := fz 0
              have g1 := fz 1
              clear fg fz
              obtain ⟨A7, c7, p0, p1, -, h9lt, -, h9s⟩ := ng9.open_
              obtain ⟨A8, c8, q0, q1, -, h11lt, -, h11s⟩ := ng11.open_
              have h9s' := Lib.hid h9s
              have h11s' := Lib.hid h11s
              have hs5' := Lib.hid hs5
              have hs6' := Lib.hid hs6
              clear h9s h11s hs5 hs6 ng9 ng11 ngN ngM
              have hn91 : w2.heap.size ≠ g9 := Ne.symm hg9n
              have hn92 : w3.heap.size ≠ g9 := Ne.symm hg9m
              have hn93 : w2.heap.size ≠ g11 := Ne.symm hg11n
              have hn94 : w3.heap.size ≠ g11 := Ne.symm hg11m
              go_wp2_with (first
                | (go_at_call 18; refine (samePackets_eq _ hs5'.out hs6'.out).mono ?_; rintro e w6 ⟨rfl, hb6⟩; obtain ⟨hc6, hf6⟩ := bcell hb6; have hz6 := hb6.size)
                | (go_at_call 19; refine (same_eq (n := r.1) _ ((h9s'.out.keep (Below.agree hb6)).keep (by repeat' (first | with_reducible exact Agree.refl _ _ | with_reducible assumption | with_reducible refine Agree.set ?_ ?_ _ | with_reducible refine Agree.alloc ?_ _ | with_reducible refine Agree.drew ?_ | with_reducible refine Agree.drewN ?_ _ | omega | (simp <;> omega)))) ((h11s'.out.keep (Below.agree hb6)).keep (by repeat' (first | with_reducible exact Agree.refl _ _ | with_reducible assumption | with_reducible refine Agree.set ?_ ?_ _ | with_reducible refine Agree.alloc ?_ _ | with_reducible refine Agree.drew ?_ | with_reducible refine Agree.drewN ?_ _ | omega | (simp <;> omega))))).mono ?_; rintro e w7 ⟨rfl, hb7⟩))
              go_roundw
              case rel =>
                refine ⟨j + 1, by omega, by omega, by go_num, ?_, ?_, ?_⟩
                · rw [hT'.out]
                  refine NG.below (NG.set (NG.set (NG.repl rfl rfl (.inl rfl) (hgN.below hb6) (h9s'.out.keep (Below.agree hb6)) (fun b hb _ => hb)) (.inr rfl) hnm' _) (.inr rfl) hnm' _) hb7
                · rw [hT'.out]
                  refine NG.below (NG.repl rfl rfl (.inr rfl) (((hgM.below hb6).set hnm' _).set hnm' _) ((h11s'.out.keep (Below.agree hb6)).keep (by repeat' (first | with_reducible exact Agree.refl _ _ | with_reducible assumption | with_reducible refine Agree.set ?_ ?_ _ | with_reducible refine Agree.alloc ?_ _ | with_reducible refine Agree.drew ?_ | with_reducible refine Agree.drewN ?_ _ | omega | (simp <;> omega)))) (fun b hb _ => hb)) hb7
                · exact (by repeat' (first | with_reducible exact Below.refl _ _ | with_reducible assumption | with_reducible refine Below.trans ?_ (Below.mono hb7 ?_) | with_reducible refine Below.trans ?_ (Below.mono hb6 ?_) | with_reducible refine Below.trans ?_ (Below.mono hbw ?_) | with_reducible refine Below.setCell ?_ ?_ _ | with_reducible refine Below.drew ?_ | with_reducible refine below_drewN ?_ _ | with_reducible refine Below.alloc ?_ ?_ _ | (rintro _ ⟨⟩; simp <;> omega) | omega | (simp <;> omega)))
              case measure => simp [intOf]; omega
      · skip
        have hj1 : (j : Int) < (l.length : Int) := by omega
        have hj2 : ¬ (j : Int) < 40 := by omega
        obtain ⟨A0, c0, y0, y1, fg, hglt, hg, hs⟩ := ngN.open_
        obtain ⟨A9, c9, z0, z1, fz, hzlt, hgz, hsz⟩ := ngM.open_
        clear hg hgz fg fz hlen htk ngN ngM
        have hs' := Lib.hid hs
        have hsz' := Lib.hid hsz
        clear hs hsz
        generalize histF (l.take j) = n at *
        have hEr : Sl evE (fun b => True ∧ b < w.heap.size) wr B d es := hE.out.keep (Below.agree hbw)
        by_cases h20 : es.length ≤ 20
        · have h20' : (es.length : Int) ≤ 20 := by omega
          have h21 : ¬ (20 : Int) < (es.length : Int) := by omega
          obtain ⟨r, hr⟩ : ∃ r, runF n (es) = r := ⟨_, rfl⟩
          have hr' := Lib.hid hr
          have hEr' : Hid (Sl evE (fun b => True ∧ b < w.heap.size) wr B d (es)) := Lib.hid (hEr)
          have hel : True := trivial
          clear hr hEr
          go_wp2_with (first
            | (go_at_call 20; refine (runNL (S := fun b => ¬ (b = w2.heap.size ∨ b = w3.heap.size)) (n := n) _ (hs'.out.keep (by repeat' (first | with_reducible exact Agree.refl _ _ | with_reducible assumption | with_reducible refine Agree.set ?_ ?_ _ | with_reducible refine Agree.alloc ?_ _ | with_reducible refine Agree.drew ?_ | with_reducible refine Agree.drewN ?_ _ | omega | (simp <;> omega)))) (hEr'.out.keep (by repeat' (first | with_reducible exact Agree.refl _ _ | with_reducible assumption | with_reducible refine Agree.set ?_ ?_ _ | with_reducible refine Agree.alloc ?_ _ | with_reducible refine Agree.drew ?_ | with_reducible refine Agree.drewN ?_ _ | omega | (simp <;> omega)))) ok rfl (by omega) hr'.out).mono ?_; rintro e w4 ⟨A4, c4, A5, c5, rfl, hs4, hs5, hb4⟩; have hz4 := hb4.size; have hlg := Nat.lt_of_lt_of_le hglt hz4; have hlz := Nat.lt_of_lt_of_le hzlt hz4; obtain ⟨hc4, hf4⟩ := kcell hb4)
            | (go_at_call 21; refine (runRL (S := fun b => ¬ (b = w2.heap.size ∨ b = w3.heap.size)) (n := n) _ ((hsz'.out.keep (Below.agree hb4)).keep (by repeat' (first | with_reducible exact Agree.refl _ _ | with_reducible assumption | with_reducible refine Agree.set ?_ ?_ _ | with_reducible refine Agree.alloc ?_ _ | with_reducible refine Agree.drew ?_ | with_reducible refine Agree.drewN ?_ _ | omega | (simp <;> omega)))) ((hEr'.out.keep (Below.agree hb4)).keep (by repeat' (first | with_reducible exact Agree.refl _ _ | with_reducible assumption | with_reducible refine Agree.set ?_ ?_ _ | with_reducible refine Agree.alloc ?_ _ | with_reducible refine Agree.drew ?_ | with_reducible refine Agree.drewN ?_ _ | omega | (simp <;> omega)))) ok rfl (by omega) hr'.out).mono ?_; rintro e w5 ⟨A6, c6, A7, c7, rfl, hs6, hs7, hb5⟩; have hz5 := hb5.size; obtain ⟨hc5, hf5⟩ := bcell hb5; have hz5' : w4.heap.size < w5.heap.size := by (simp at hz5; omega))
            | (go_at_call 19; refine (same_eq (n := r.1) _ (((hs4.keep ((Agree.refl _ _).alloc _)).keep (Below.agree hb5)).keep (by repeat' (first | with_reducible exact Agree.refl _ _ | with_reducible assumption | with_reducible refine Agree.set ?_ ?_ _ | with_reducible refine Agree.alloc ?_ _ | with_reducible refine Agree.drew ?_ | with_reducible refine Agree.drewN ?_ _ | omega | (simp <;> omega)))) (hs6.keep (by repeat' (first | with_reducible exact Agree.refl _ _ | with_reducible assumption | with_reducible refine Agree.set ?_ ?_ _ | with_reducible refine Agree.alloc ?_ _ | with_reducible refine Agree.drew ?_ | with_reducible refine Agree.drewN ?_ _ | omega | (simp <;> omega))))).mono ?_; rintro e w6 ⟨rfl, hb6⟩; have hz6 := hb6.size)
            | (go_at_call 18; refine (samePackets_eq (ps := r.2) _ ((((hs5.keep ((Agree.refl _ _).alloc _)).keep (Below.agree hb5)).keep ((Agree.refl _ _).alloc _)).keep (Below.agree hb6)) ((hs7.keep ((Agree.refl _ _).alloc _)).keep (Below.agree hb6))).mono ?_; rintro e w7 ⟨rfl, hb7⟩))
          go_ret
          have hz7 : w.heap.size ≤ w6.heap.size := by have := hbw.size; simp at hz6; omega
          exact ⟨rfl, (by repeat' (first | with_reducible exact Below.refl _ _ | with_reducible assumption | with_reducible refine Below.trans ?_ (Below.mono hb7 ?_) | with_reducible refine Below.trans ?_ (Below.mono hb6 ?_) | with_reducible refine Below.trans ?_ (Below.mono hb5 ?_) | with_reducible refine Below.trans ?_ (Below.mono hb4 ?_) | with_reducible refine Below.trans ?_ (Below.mono hbw ?_) | with_reducible refine Below.setCell ?_ ?_ _ | with_reducible refine Below.drew ?_ | with_reducible refine below_drewN ?_ _ | with_reducible refine Below.alloc ?_ ?_ _ | (rintro _ ⟨⟩; simp <;> omega) | omega | (simp <;> omega)))⟩
        · have h20' : (20 : Int) < (es.length : Int) := by omega
          have h21 : 20 ≤ d := by omega
          have h22 : (20 : Int) ≤ (d : Int) := by omega
          obtain ⟨r, hr⟩ : ∃ r, runF n (es.take 20) = r := ⟨_, rfl⟩
          have hr' := Lib.hid hr
          have hEr' : Hid (Sl evE (fun b => True ∧ b < w.heap.size) wr B d (es.take 20)) := Lib.hid (hEr.take 20)
          have hel : Hid ((es.take 20).length = 20) := Lib.hid (by rw [List.length_take]; omega)
          clear hr hEr
          go_wp2_with (first
            | (go_at_call 20; refine (runNL (S := fun b => ¬ (b = w2.heap.size ∨ b = w3.heap.size)) (n := n) _ (hs'.out.keep (by repeat' (first | with_reducible exact Agree.refl _ _ | with_reducible assumption | with_reducible refine Agree.set ?_ ?_ _ | with_reducible refine Agree.alloc ?_ _ | with_reducible refine Agree.drew ?_ | with_reducible refine Agree.drewN ?_ _ | omega | (simp <;> omega)))) (hEr'.out.keep (by repeat' (first | with_reducible exact Agree.refl _ _ | with_reducible assumption | with_reducible refine Agree.set ?_ ?_ _ | with_reducible refine Agree.alloc ?_ _ | with_reducible refine Agree.drew ?_ | with_reducible refine Agree.drewN ?_ _ | omega | (simp <;> omega)))) ok hel.out (by omega) hr'.out).mono ?_; rintro e w4 ⟨A4, c4, A5, c5, rfl, hs4, hs5, hb4⟩; have hz4 := hb4.size; have hlg := Nat.lt_of_lt_of_le hglt hz4; have hlz := Nat.lt_of_lt_of_le hzlt hz4; obtain ⟨hc4, hf4⟩ := kcell hb4)
            | (go_at_call 21; refine (runRL (S := fun b => ¬ (b = w2.heap.size ∨ b = w3.heap.size)) (n := n) _ ((hsz'.out.keep (Below.agree hb4)).keep (by repeat' (first | with_reducible exact Agree.refl _ _ | with_reducible assumption | with_reducible refine Agree.set ?_ ?_ _ | with_reducible refine Agree.alloc ?_ _ | with_reducible refine Agree.drew ?_ | with_reducible refine Agree.drewN ?_ _ | omega | (simp <;> omega)))) ((hEr'.out.keep (Below.agree hb4)).keep (by repeat' (first | with_reducible exact Agree.refl _ _ | with_reducible assumption | with_reducible refine Agree.set ?_ ?_ _ | with_reducible refine Agree.alloc ?_ _ | with_reducible refine Agree.drew ?_ | with_reducible refine Agree.drewN ?_ _ | omega | (simp <;> omega)))) ok hel.out (by omega) hr'.out).mono ?_; rintro e w5 ⟨A6, c6, A7, c7, rfl, hs6, hs7, hb5⟩; have hz5 := hb5.size; obtain ⟨hc5, hf5⟩ := bcell hb5; have hz5' : w4.heap.size < w5.heap.size := by (simp at hz5; omega))
            | (go_at_call 19; refine (same_eq (n := r.1) _ (((hs4.keep ((Agree.refl _ _).alloc _)).keep (Below.agree hb5)).keep (by repeat' (first | with_reducible exact Agree.refl _ _ | with_reducible assumption | with_reducible refine Agree.set ?_ ?_ _ | with_reducible refine Agree.alloc ?_ _ | with_reducible refine Agree.drew ?_ | with_reducible refine Agree.drewN ?_ _ | omega | (simp <;> omega)))) (hs6.keep (by repeat' (first | with_reducible exact Agree.refl _ _ | with_reducible assumption | with_reducible refine Agree.set ?_ ?_ _ | with_reducible refine Agree.alloc ?_ _ | with_reducible refine Agree.drew ?_ | with_reducible refine Agree.drewN ?_ _ | omega | (simp <;> omega))))).mono ?_; rintro e w6 ⟨rfl, hb6⟩; have hz6 := hb6.size)
            | (go_at_call 18; refine (samePackets_eq (ps := r.2) _ ((((hs5.keep ((Agree.refl _ _).alloc _)).keep (Below.agree hb5)).keep ((Agree.refl _ _).alloc _)).keep (Below.agree hb6)) ((hs7.keep ((Agree.refl _ _).alloc _)).keep (Below.agree hb6))).mono ?_; rintro e w7 ⟨rfl, hb7⟩))
          go_ret
          have hz7 : w.heap.size ≤ w6.heap.size := by have := hbw.size; simp at hz6; omega
          exact ⟨rfl, (by repeat' (first | with_reducible exact Below.refl _ _ | with_reducible assumption | with_reducible refine Below.trans ?_ (Below.mono hb7 ?_) | with_reducible refine Below.trans ?_ (Below.mono hb6 ?_) | with_reducible refine Below.trans ?_ (Below.mono hb5 ?_) | with_reducible refine Below.trans ?_ (Below.mono hb4 ?_) | with_reducible refine Below.trans ?_ (Below.mono hbw ?_) | with_reducible refine Below.setCell ?_ ?_ _ | with_reducible refine Below.drew ?_ | with_reducible refine below_drewN ?_ _ | with_reducible refine Below.alloc ?_ ?_ _ | (rintro _ ⟨⟩; simp <;> omega) | omega | (simp <;> omega)))⟩
    · skip
      have hj1 : ¬ (j : Int) < (l.length : Int) := by omega
      obtain ⟨A0, c0, y0, y1, fg, hglt, hg, hs⟩ := ngN.open_
      obtain ⟨A9, c9, z0, z1, fz, hzlt, hgz, hsz⟩ := ngM.open_
      clear hg hgz fg fz hlen htk ngN ngM
      have hs' := Lib.hid hs
      have hsz' := Lib.hid hsz
      clear hs hsz
      generalize histF (l.take j) = n at *
      have hEr : Sl evE (fun b => True ∧ b < w.heap.size) wr B d es := hE.out.keep (Below.agree hbw)
      by_cases h20 : es.length ≤ 20
      · have h20' : (es.length : Int) ≤ 20 := by omega
        have h21 : ¬ (20 : Int) < (es.length : Int) := by omega
        obtain ⟨r, hr⟩ : ∃ r, runF n (es) = r := ⟨_, rfl⟩
        have hr' := Lib.hid hr
        have hEr' : Hid (Sl evE (fun b => True ∧ b < w.heap.size) wr B d (es)) := Lib.hid (hEr)
        have hel : True := trivial
        clear hr hEr
        go_wp2_with (first
          | (go_at_call 20; refine (runNL (S := fun b => ¬ (b = w2.heap.size ∨ b = w3.heap.size)) (n := n) _ (hs'.out.keep (by repeat' (first | with_reducible exact Agree.refl _ _ | with_reducible assumption | with_reducible refine Agree.set ?_ ?_ _ | with_reducible refine Agree.alloc ?_ _ | with_reducible refine Agree.drew ?_ | with_reducible refine Agree.drewN ?_ _ | omega | (simp <;> omega)))) (hEr'.out.keep (by repeat' (first | with_reducible exact Agree.refl _ _ | with_reducible assumption | with_reducible refine Agree.set ?_ ?_ _ | with_reducible refine Agree.alloc ?_ _ | with_reducible refine Agree.drew ?_ | with_reducible refine Agree.drewN ?_ _ | omega | (simp <;> omega)))) ok rfl (by omega) hr'.out).mono ?_; rintro e w4 ⟨A4, c4, A5, c5, rfl, hs4, hs5, hb4⟩; have hz4 := hb4.size; have hlg := Nat.lt_of_lt_of_le hglt hz4; have hlz := Nat.lt_of_lt_of_le hzlt hz4; obtain ⟨hc4, hf4⟩ := kcell hb4)
          | (go_at_call 21; refine (runRL (S := fun b => ¬ (b = w2.heap.size ∨ b = w3.heap.size)) (n := n) _ ((hsz'.out.keep (Below.agree hb4)).keep (by repeat' (first | with_reducible exact Agree.refl _ _ | with_reducible assumption | with_reducible refine Agree.set ?_ ?_ _ | with_reducible refine Agree.alloc ?_ _ | with_reducible refine Agree.drew ?_ | with_reducible refine Agree.drewN ?_ _ | omega | (simp <;> omega)))) ((hEr'.out.keep (Below.agree hb4)).keep (by repeat' (first | with_reducible exact Agree.refl _ _ | with_reducible assumption | with_reducible refine Agree.set ?_ ?_ _ | with_reducible refine Agree.alloc ?_ _ | with_reducible refine Agree.drew ?_ | with_reducible refine Agree.drewN ?_ _ | omega | (simp <;> omega)))) ok rfl (by omega) hr'.out).mono ?_; rintro e w5 ⟨A6, c6, A7, c7, rfl, hs6, hs7, hb5⟩; have hz5 := hb5.size; obtain ⟨hc5, hf5⟩ := bcell hb5; have hz5' : w4.heap.size < w5.heap.size := by (simp at hz5; omega))
          | (go_at_call 19; refine (same_eq (n := r.1) _ (((hs4.keep ((Agree.refl _ _).alloc _)).keep (Below.agree hb5)).keep (by repeat' (first | with_reducible exact Agree.refl _ _ | with_reducible assumption | with_reducible refine Agree.set ?_ ?_ _ | with_reducible refine Agree.alloc ?_ _ | with_reducible refine Agree.drew ?_ | with_reducible refine Agree.drewN ?_ _ | omega | (simp <;> omega)))) (hs6.keep (by repeat' (first | with_reducible exact Agree.refl _ _ | with_reducible assumption | with_reducible refine Agree.set ?_ ?_ _ | with_reducible refine Agree.alloc ?_ _ | with_reducible refine Agree.drew ?_ | with_reducible refine Agree.drewN ?_ _ | omega | (simp <;> omega))))).mono ?_; rintro e w6 ⟨rfl, hb6⟩; have hz6 := hb6.size)
          | (go_at_call 18; refine (samePackets_eq (ps := r.2) _ ((((hs5.keep ((Agree.refl _ _).alloc _)).keep (Below.agree hb5)).keep ((Agree.refl _ _).alloc _)).keep (Below.agree hb6)) ((hs7.keep ((Agree.refl _ _).alloc _)).keep (Below.agree hb6))).mono ?_; rintro e w7 ⟨rfl, hb7⟩))
        go_ret
        have hz7 : w.heap.size ≤ w6.heap.size := by have := hbw.size; simp at hz6; omega
        exact ⟨rfl, (by repeat' (first | with_reducible exact Below.refl _ _ | with_reducible assumption | with_reducible refine Below.trans ?_ (Below.mono hb7 ?_) | with_reducible refine Below.trans ?_ (Below.mono hb6 ?_) | with_reducible refine Below.trans ?_ (Below.mono hb5 ?_) | with_reducible refine Below.trans ?_ (Below.mono hb4 ?_) | with_reducible refine Below.trans ?_ (Below.mono hbw ?_) | with_reducible refine Below.setCell ?_ ?_ _ | with_reducible refine Below.drew ?_ | with_reducible refine below_drewN ?_ _ | with_reducible refine Below.alloc ?_ ?_ _ | (rintro _ ⟨⟩; simp <;> omega) | omega | (simp <;> omega)))⟩
      · have h20' : (20 : Int) < (es.length : Int) := by omega
        have h21 : 20 ≤ d := by omega
        have h22 : (20 : Int) ≤ (d : Int) := by omega
        obtain ⟨r, hr⟩ : ∃ r, runF n (es.take 20) = r := ⟨_, rfl⟩
        have hr' := Lib.hid hr
        have hEr' : Hid (Sl evE (fun b => True ∧ b < w.heap.size) wr B d (es.take 20)) := Lib.hid (hEr.take 20)
        have hel : Hid ((es.take 20).length = 20) := Lib.hid (by rw [List.length_take]; omega)
        clear hr hEr
        go_wp2_with (first
          | (go_at_call 20; refine (runNL (S := fun b => ¬ (b = w2.heap.size ∨ b = w3.heap.size)) (n := n) _ (hs'.out.keep (by repeat' (first | with_reducible exact Agree.refl _ _ | with_reducible assumption | with_reducible refine Agree.set ?_ ?_ _ | with_reducible refine Agree.alloc ?_ _ | with_reducible refine Agree.drew ?_ | with_reducible refine Agree.drewN ?_ _ | omega | (simp <;> omega)))) (hEr'.out.keep (by repeat' (first | with_reducible exact Agree.refl _ _ | with_reducible assumption | with_reducible refine Agree.set ?_ ?_ _ | with_reducible refine Agree.alloc ?_ _ | with_reducible refine Agree.drew ?_ | with_reducible refine Agree.drewN ?_ _ | omega | (simp <;> omega)))) ok hel.out (by omega) hr'.out).mono ?_; rintro e w4 ⟨A4, c4, A5, c5, rfl, hs4, hs5, hb4⟩; have hz4 := hb4.size; have hlg := Nat.lt_of_lt_of_le hglt hz4; have hlz := Nat.lt_of_lt_of_le hzlt hz4; obtain ⟨hc4, hf4⟩ := kcell hb4)
          | (go_at_call 21; refine (runRL (S := fun b => ¬ (b = w2.heap.size ∨ b = w3.heap.size)) (n := n) _ ((hsz'.out.keep (Below.agree hb4)).keep (by repeat' (first | with_reducible exact Agree.refl _ _ | with_reducible assumption | with_reducible refine Agree.set ?_ ?_ _ | with_reducible refine Agree.alloc ?_ _ | with_reducible refine Agree.drew ?_ | with_reducible refine Agree.drewN ?_ _ | omega | (simp <;> omega)))) ((hEr'.out.keep (Below.agree hb4)).keep (by repeat' (first | with_reducible exact Agree.refl _ _ | with_reducible assumption | with_reducible refine Agree.set ?_ ?_ _ | with_reducible refine Agree.alloc ?_ _ | with_reducible refine Agree.drew ?_ | with_reducible refine Agree.drewN ?_ _ | omega | (simp <;> omega)))) ok hel.out (by omega) hr'.out).mono ?_; rintro e w5 ⟨A6, c6, A7, c7, rfl, hs6, hs7, hb5⟩; have hz5 := hb5.size; obtain ⟨hc5, hf5⟩ := bcell hb5; have hz5' : w4.heap.size < w5.heap.size := by (simp at hz5; omega))
          | (go_at_call 19; refine (same_eq (n := r.1) _ (((hs4.keep ((Agree.refl _ _).alloc _)).keep (Below.agree hb5)).keep (by repeat' (first | with_reducible exact Agree.refl _ _ | with_reducible assumption | with_reducible refine Agree.set ?_ ?_ _ | with_reducible refine Agree.alloc ?_ _ | with_reducible refine Agree.drew ?_ | with_reducible refine Agree.drewN ?_ _ | omega | (simp <;> omega)))) (hs6.keep (by repeat' (first | with_reducible exact Agree.refl _ _ | with_reducible assumption | with_reducible refine Agree.set ?_ ?_ _ | with_reducible refine Agree.alloc ?_ _ | with_reducible refine Agree.drew ?_ | with_reducible refine Agree.drewN ?_ _ | omega | (simp <;> omega))))).mono ?_; rintro e w6 ⟨rfl, hb6⟩; have hz6 := hb6.size)
          | (go_at_call 18; refine (samePackets_eq (ps := r.2) _ ((((hs5.keep ((Agree.refl _ _).alloc _)).keep (Below.agree hb5)).keep ((Agree.refl _ _).alloc _)).keep (Below.agree hb6)) ((hs7.keep ((Agree.refl _ _).alloc _)).keep (Below.agree hb6))).mono ?_; rintro e w7 ⟨rfl, hb7⟩))
        go_ret
        have hz7 : w.heap.size ≤ w6.heap.size := by have := hbw.size; simp at hz6; omega
        exact ⟨rfl, (by repeat' (first | with_reducible exact Below.refl _ _ | with_reducible assumption | with_reducible refine Below.trans ?_ (Below.mono hb7 ?_) | with_reducible refine Below.trans ?_ (Below.mono hb6 ?_) | with_reducible refine Below.trans ?_ (Below.mono hb5 ?_) | with_reducible refine Below.trans ?_ (Below.mono hb4 ?_) | with_reducible refine Below.trans ?_ (Below.mono hbw ?_) | with_reducible refine Below.setCell ?_ ?_ _ | with_reducible refine Below.drew ?_ | with_reducible refine below_drewN ?_ _ | with_reducible refine Below.alloc ?_ ?_ _ | (rintro _ ⟨⟩; simp <;> omega) | omega | (simp <;> omega)))⟩
end Go.Proofs.Ytmaaniogcmlfbaa
