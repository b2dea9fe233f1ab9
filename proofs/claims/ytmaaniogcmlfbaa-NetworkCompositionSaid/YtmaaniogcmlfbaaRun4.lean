/-
  The laws' 'run', walked.
-/
import Derived.Test.YtmaaniogcmlfbaaRun3
namespace Go.Proofs.Ytmaaniogcmlfbaa
open Go.RowKit

/-- What 'run' gives: the network, what was sent, what was delivered. -/
def R3Res (S : Nat → Prop) (w : World) (s : St3) (e : Ending) (w' : World) : Prop :=
  ∃ A1 c1 A2 c2 A3 c3, e = .returned (.tuple #[.agg #[.int .i64 s.1.now, .slice A1 s.1.way.length c1], .slice A2 s.2.1.length c2, .slice A3 s.2.2.length c3]) ∧
    Sl pkE (Fresh S w) w' A1 c1 s.1.way ∧ Sl pkE (Fresh S w) w' A2 c2 s.2.1 ∧ Sl pkE (Fresh S w) w' A3 c3 s.2.2 ∧ Below w.heap.size w w'

set_option maxRecDepth 100000 in
set_option maxHeartbeats 8000000 in
theorem run3L {S : Nat → Prop} {A : Option Addr} {c : Nat} {l : List NOp} (w : World) (h : Sl opE S w A c l) :
    Calls Try.prog 14 #[.slice A l.length c] w (R3Res S w (run3 (l.take 40))) := by
  have hm := h.max
  have hL := Lib.hid h.old
  clear h
  go_enter Try.func14, Try.ntmps14
  go_wp2_with (go_at_call 10; refine (newN _).mono ?_; rintro e w2 ⟨rfl, hb2⟩)
  have hz2 : w.heap.size + 1 ≤ w2.heap.size := by have := hb2.size; simpa using this
  have hres : HG w2 w.heap.size := HG.below (w := w.alloc (.cells #[.int .i64 0, .slice none 0 0] 26)) ⟨_, _, heap_alloc_at rfl⟩ hb2
  have hb02 := Lib.hid (((Below.refl w.heap.size w).alloc (Nat.le_refl _) (.cells #[.int .i64 0, .slice none 0 0] 26)).trans (hb2.mono (by simp)))
  have hr' := Lib.hid hres
  clear hb2 hres
  go_loopw [6, 7, 8] (fun v6 v7 v8 wr => ∃ j : Nat, j ≤ l.length ∧ j ≤ 40 ∧ v8 = .int .i64 j ∧ ∃ F, R3F F S w (w2.heap.size + 1) w2.heap.size (run3 (l.take j)) v6 v7 wr) (fun _ _ v8 _ => 40 - (intOf v8).toNat)
  case atStart =>
    refine ⟨0, Nat.zero_le _, by omega, rfl, fun _ => False, ?_⟩
    refine ⟨fun _ h => h.elim, fun _ h => h.elim, fun _ _ h => h, fun _ _ h => h, ?_, (Own.litAt pkE (fun _ => False) _ _ (by simp) (by omega)).alloc _, Own.litAt pkE (fun _ => False) _ _ (by simp) (by omega), ⟨none, 0, ?_, Sl.nil_ _ _ _ _ (Nat.zero_le _)⟩, ?_, by (simp <;> omega), ((hr'.out.alloc _).alloc _).alloc _, by omega, by omega⟩
    · intro k hk; simp [Value.ownBlock] at hk ⊢; omega
    · rw [Below.heap_alloc _ _ _ (by simp; omega), Below.heap_alloc _ _ _ (by simp)]
      exact heap_alloc_at rfl
    · exact ((hb02.out.alloc (by omega) _).alloc (by simp; omega) _).alloc (by simp; omega) _
  case round =>
    obtain ⟨j, hj, hj40, rfl, F, hR⟩ := hrel
    have ok3 := run3_ok (l.take j)
    have htk : (l.take j).length ≤ j := List.length_take_le _ _
    by_cases hgo : j < l.length ∧ j < 40
    · obtain ⟨hlt, h40⟩ := hgo
      obtain ⟨o, ho⟩ : ∃ o, l[j]? = some o := ⟨_, List.getElem?_eq_getElem hlt⟩
      have hT := Lib.hid (run3_take ho)
      generalize run3 (l.take j) = s at *
      have ok := ok3.ok
      have hls : s.2.1.length ≤ 40 := by have := ok3.sent; omega
      have hlg' : s.2.2.length ≤ 40 := by have := ok3.got; omega
      obtain ⟨b1, f1, B1, d1, rfl, hSb, hb1, x0, x1, x2, x3, x4, x5, x6, x7, hs1⟩ := op_at (hL.out.keep (Below.agree hR.bel)) ho
      obtain ⟨A6, c6, rfl, -⟩ := hR.own6.form
      obtain ⟨A7, c7, rfl, -⟩ := hR.own7.form
      obtain ⟨A0, c0, hg, hs⟩ := hR.net
      have y0 := cell_of_row _ _ 0 _ _ _ hg
      have y1 := cell_of_row _ _ 1 _ _ _ hg
      simp only [List.getElem?_toArray, List.getElem?_cons_zero, List.getElem?_cons_succ] at y0 y1
      have f0 : wr.frozen? ⟨w2.heap.size, 0, none⟩ = false := by simp [World.frozen?, hg]
      have f1' : wr.frozen? ⟨w2.heap.size, 1, none⟩ = false := by simp [World.frozen?, hg]
      have hglt := heap_lt hg
      have hs1' := Lib.hid hs1
      have hs' := Lib.hid hs
      have ho' := Lib.hid ho
      have HR := Lib.hid hR
      have hbw := hR.bel
      have hbase := hR.base
      clear hs1 hs hg ho hR ok3
      have hj0 : (0 : Int) ≤ (j : Int) := by omega
      have hj1 : (j : Int) < (l.length : Int) := by omega
      have hj2 : (j : Int) < 40 := by omega
      have hb1' : b1 < w.heap.size := hSb.2
      have hne : b1 ≠ w2.heap.size := by omega
      have hne' : w2.heap.size ≠ b1 := by omega
      cases hsd : o.send with
      | true =>
        rw [hsd] at x7
        obtain ⟨q, hq⟩ : ∃ q, madeF o.p = q := ⟨_, rfl⟩
        have hql : q.b.length ≤ 40 := by rw [← hq]; exact madeF_len _
        have hst : step3 s o = (sendF s.1 q, s.2.1 ++ [q], s.2.2) := by unfold step3; rw [if_pos hsd, hq]
        have hT' := Lib.hid (hT.out.trans hst)
        have Hq := Lib.hid hq
        clear hst hq
        go_upto_region 8 with fail
        go_cut [35] (fun _ wx => ∃ F, R3F F S w (w2.heap.size + 1) w2.heap.size (sendF s.1 q, s.2.1, s.2.2) (.slice A6 s.2.1.length c6) (.slice A7 s.2.2.length c7) wx)
        case first =>
          go_region_law (first
            | (go_simp; go_at_call 12; refine (madeE (S := fun b => S b ∧ b < w.heap.size) (p := o.p) _ (hs1'.out.keep (by repeat' (first | with_reducible exact Agree.refl _ _ | with_reducible assumption | with_reducible refine Agree.set ?_ ?_ _ | with_reducible refine Agree.alloc ?_ _ | with_reducible refine Agree.drew ?_ | with_reducible refine Agree.drewN ?_ _ | omega | (simp <;> omega)))) Hq.out).mono ?_; rintro e w4 ⟨c3, rfl, hs3, hb3⟩; obtain ⟨hc3, hf3⟩ := bcellk (k := wr.heap.size) hb3 (by simp))
            | (go_simp; go_at_call 11; refine (sendFN (S := fun b => F b ∨ (S b ∧ b < w.heap.size)) (n := s.1) (p := q) _ (((hs'.out.sub fun b hb _ => .inl hb).keep (by repeat' (first | with_reducible exact Agree.refl _ _ | with_reducible assumption | with_reducible refine Agree.set ?_ ?_ _ | with_reducible refine Agree.alloc ?_ _ | with_reducible refine Agree.drew ?_ | with_reducible refine Agree.drewN ?_ _ | omega | (simp <;> omega)))).keep (Below.agree hb3)) (hs3.sub fun b hb _ => .inr hb) hql).mono ?_; rintro e w5 ⟨A4, c4, rfl, hs4, hb4⟩; obtain ⟨hc4, hf4⟩ := bcellk (k := wr.heap.size) hb4 (by have := hb3.size; simp at this; omega)))
          all_goals
            have hb34 : Below wr.heap.size wr w5 := ((Below.refl _ _).drew.trans hb3).trans (hb4.mono hb3.size)
            have hz34 := hb34.size
            have hz3' : wr.heap.size ≤ w4.heap.size := hb3.size
            go_wp2_with fail
            go_meet
            refine ⟨fun b => (F b ∨ (S b ∧ b < w.heap.size) ∨ w4.heap.size ≤ b) ∧ b < w5.heap.size, ?_⟩
            have l6 := HR.out.own6.lt
            have l7 := HR.out.own7.lt
            have gB := HR.out.gB
            refine R3F.put ((HR.out.move hb34).widen (fun b hb => ⟨.inl hb, (HR.out.move hb34).lt b hb⟩) (fun b hb => hb.2) ?_ ?_ ?_) (hs4.sub fun b hb hl => ⟨?_, hl⟩)
            · rintro b ⟨h | h | h, -⟩
              · exact HR.out.hF b h
              · exact .inl h
              · exact .inr (by omega)
            · rintro k hk ⟨h | h | h, -⟩
              · exact HR.out.n6 k hk h
              · have := (l6 k hk).1; omega
              · have := (l6 k hk).2; omega
            · rintro k hk ⟨h | h | h, -⟩
              · exact HR.out.n7 k hk h
              · have := (l7 k hk).1; omega
              · have := (l7 k hk).2; omega
            · rcases hb with (h | h) | h
              · exact .inl h
              · exact .inr (.inl h)
              · exact .inr (.inr h)
        case rest =>
          clear x0 x1 x2 x3 x4 x5 x6 x7 y0 y1 f0 f1' hs' hs1' HR hbw hbase hb1 hglt
          obtain ⟨F2, hR⟩ := hcut
          obtain ⟨b1_, f1_, B1, d1, e1_, -, hb1, x0, x1, x2, x3, x4, x5, x6, x7, hs1⟩ := op_at (hL.out.keep (Below.agree hR.bel)) ho'.out
          injection e1_ with e1_
          injection e1_ with e2_ e3_
          subst e2_
          subst e3_
          rw [hsd] at x7
          have hs1' := Lib.hid hs1
          clear hs1
          have HR := Lib.hid hR
          have hbw := hR.bel
          have hbase := hR.base
          clear hR
          go_wp2_with (first
            | (go_at_call 12; refine (madeE (S := fun b => S b ∧ b < w.heap.size) (p := o.p) _ (hs1'.out.keep (by repeat' (first | with_reducible exact Agree.refl _ _ | with_reducible assumption | with_reducible refine Agree.set ?_ ?_ _ | with_reducible refine Agree.alloc ?_ _ | with_reducible refine Agree.drew ?_ | with_reducible refine Agree.drewN ?_ _ | omega | (simp <;> omega)))) Hq.out).mono ?_; rintro e w4 ⟨c3, rfl, hs3, hb3⟩; have hz3 := hb3.size; have HR4 : R3F (fun b => F2 b ∨ (S b ∧ b < w.heap.size) ∨ b = w4.heap.size) S w (w2.heap.size + 1) w2.heap.size _ _ _ (w4.alloc (.cells #[.int .i64 q.fr, .int .i64 q.to_, .int .i64 q.at_, .slice B1 q.b.length c3] 32)) := ((HR.out.move hb3).alloc _).widen (fun b hb => .inl hb) (by (rintro b (h | h | h); have := (HR.out.move hb3).lt b h; simp; omega; have := hbw.size; simp; omega; subst h; simp)) (by (rintro b (h | h | h); exact HR.out.hF b h; exact .inl h; right; omega)) (by (rintro k hk (h | h | h); exact HR.out.n6 k hk h; have := (HR.out.own6.lt k hk).1; omega; have := (HR.out.own6.lt k hk).2; omega)) (by (rintro k hk (h | h | h); exact HR.out.n7 k hk h; have := (HR.out.own7.lt k hk).1; omega; have := (HR.out.own7.lt k hk).2; omega)); have HR4' := Lib.hid HR4; clear HR4; have hs3' := Lib.hid hs3; clear hs3)
            | (at_builtin; refine wpList_append_E (S := fun b => F2 b ∨ (S b ∧ b < w.heap.size) ∨ b = w4.heap.size) rfl (.tmp 36) (.tmp 42) rfl pksT (base := w2.heap.size + 1) (v := .slice A6 s.2.1.length c6) (ys := [q]) (by rfl) (by rfl) rfl (nz := s.2.1.length + 1) (by simp) HR4'.out.own6 (Sl.lit (S := fun b => F2 b ∨ (S b ∧ b < w.heap.size) ∨ b = w4.heap.size) (.single (pkE_shut (hs3'.out.sub fun b hb _ => .inr (.inl hb)))) (by unfold maxLen; simp) (fun _ hb _ => hb) (.inr (.inr rfl))) (by unfold maxLen; simp; omega) (by simp; omega) (by simp; omega) (fun g hg => HR4'.out.n6 g hg) ?_; intro A8 c8 w6 hown6 hg6 hor6))
          go_roundw
          case rel =>
            refine ⟨j + 1, by omega, by omega, by go_num, fun b => F2 b ∨ (S b ∧ b < w.heap.size) ∨ b = w4.heap.size, ?_⟩
            rw [hT'.out]
            have hown6' : Own pkE (fun b => F2 b ∨ (S b ∧ b < w.heap.size) ∨ b = w4.heap.size) w6 (w2.heap.size + 1) 32 (.slice A8 (s.2.1.length + 1) c8) (s.2.1 ++ [q]) := hown6
            exact HR4'.out.app6 (ys := [q]) hown6' hg6 hor6
          case measure => simp [intOf]; omega
      | false =>
        rw [hsd] at x7
        have hst : step3 s o = ((applyF s.1 o.kd o.at_ o.by_).1, s.2.1, s.2.2 ++ (applyF s.1 o.kd o.at_ o.by_).2) := by unfold step3; rw [if_neg (by simp [hsd])]
        have hT' := Lib.hid (hT.out.trans hst)
        clear hst
        have hd1 := (ok.apply o.kd o.at_ o.by_).2.1
        generalize hr : applyF s.1 o.kd o.at_ o.by_ = r at *
        have hrE := Lib.hid hr
        clear hr
        go_upto_region 10 with fail
        go_cut [9, 10] (fun s9 s10 wx => ∃ F2 g9 A4 c4 A5 c5, s9 = .pointer (some ⟨g9, 0, none⟩) ∧ s10 = .slice A5 r.2.length c5 ∧ wx.heap[g9]? = some (.cells #[.int .i64 r.1.now, .slice A4 r.1.way.length c4] 26 (0, 0)) ∧ wr.heap.size ≤ g9 ∧ Sl pkE F2 wx A4 c4 r.1.way ∧ Sl pkE F2 wx A5 c5 r.2 ∧ R3F F2 S w (w2.heap.size + 1) w2.heap.size s (.slice A6 s.2.1.length c6) (.slice A7 s.2.2.length c7) wx)
        case first =>
          have br : Below wr.heap.size wr wr := Below.refl _ _
          have rc := fun W (hW : Below wr.heap.size wr W) b o (hb : b < wr.heap.size) => hW.cell (p := ⟨b, o, none⟩) hb
          have ba : ∀ W o, Below wr.heap.size wr W → Below wr.heap.size wr (W.alloc o) := fun W o h => h.alloc h.size o
          have bc : ∀ W W', Below wr.heap.size wr W → Below W.heap.size W W' → Below wr.heap.size wr W' := fun W W' h k => h.trans (k.mono h.size)
          go_region_held3 (fun X => Below wr.heap.size wr X) (repeat' (first | with_reducible assumption | with_reducible refine Below.drew ?_ | with_reducible refine Below.alloc ?_ ?_ _ | with_reducible refine Below.setCell ?_ ?_ _ | (simp; done) | omega | (simp <;> omega)))
            (first | (go_at_call 13; refine (applyE (S := F) (n := s.1) _ (hs'.out.keep (Below.agree (by assumption))) ok hrE.out).mono ?_; rintro e w4 ⟨A4, c4, A5, c5, rfl, hs4, hs5, hb4⟩; have hk4 := bc _ _ (by assumption) hb4; have hz4 := hk4.size; have hlg := Nat.lt_of_lt_of_le hglt hz4; have hlb := Nat.lt_of_lt_of_le hb1 hz4; obtain ⟨hc4, hf4⟩ := kcell hk4; obtain ⟨hd4, hdf4⟩ := bcell hb4; have hl4 := fun (b : Nat) h => Nat.lt_of_lt_of_le (n := b) h hb4.size))
          · go_wp2_with fail
            go_meet
            have l6 := HR.out.own6.lt
            have l7 := HR.out.own7.lt
            have gB := HR.out.gB
            have hR4 : R3F (fun b => (F b ∨ wr.heap.size + 0 ≤ b) ∧ b < w4.heap.size) S w (w2.heap.size + 1) w2.heap.size s (.slice A6 s.2.1.length c6) (.slice A7 s.2.2.length c7) w4 := (HR.out.move hk4).widen (fun b hb => ⟨.inl hb, (HR.out.move hk4).lt b hb⟩) (fun b hb => hb.2) (by (rintro b ⟨h | h, -⟩; exact HR.out.hF b h; exact .inr (by omega))) (by (rintro k hk ⟨h | h, -⟩; exact HR.out.n6 k hk h; have := (l6 k hk).2; omega)) (by (rintro k hk ⟨h | h, -⟩; exact HR.out.n7 k hk h; have := (l7 k hk).2; omega))
            exact ⟨_, _, A4, c4, A5, c5, rfl, rfl, heap_alloc_at rfl, hz4, (hs4.sub (fun b hb hl => by (rcases hb with hb | hb; exact ⟨.inl hb, hl⟩; simp at hb; exact ⟨.inr (by omega), hl⟩))).keep ((Agree.refl _ _).alloc _), (hs5.sub (fun b hb hl => by (rcases hb with hb | hb; exact ⟨.inl hb, hl⟩; simp at hb; exact ⟨.inr (by omega), hl⟩))).keep ((Agree.refl _ _).alloc _), hR4.alloc _⟩
          · go_wp2_with fail
            go_meet
            have hgx : HG w4 wr.heap.size := HG.below (w := (wr.alloc (.cells #[.int .i64 0, .slice none 0 0] 26)).drew) ⟨_, _, heap_alloc_at rfl⟩ hb4
            obtain ⟨_, _, hgx⟩ := hgx
            have l6 := HR.out.own6.lt
            have l7 := HR.out.own7.lt
            have gB := HR.out.gB
            have hR4 : R3F (fun b => (F b ∨ wr.heap.size + 1 ≤ b) ∧ b < w4.heap.size) S w (w2.heap.size + 1) w2.heap.size s (.slice A6 s.2.1.length c6) (.slice A7 s.2.2.length c7) w4 := (HR.out.move hk4).widen (fun b hb => ⟨.inl hb, (HR.out.move hk4).lt b hb⟩) (fun b hb => hb.2) (by (rintro b ⟨h | h, -⟩; exact HR.out.hF b h; exact .inr (by omega))) (by (rintro k hk ⟨h | h, -⟩; exact HR.out.n6 k hk h; have := (l6 k hk).2; omega)) (by (rintro k hk ⟨h | h, -⟩; exact HR.out.n7 k hk h; have := (l7 k hk).2; omega))
            have nfx : ¬ ((F wr.heap.size ∨ wr.heap.size + 1 ≤ wr.heap.size) ∧ wr.heap.size < w4.heap.size) := by
              rintro ⟨h | h, -⟩
              · have := HR.out.lt _ h; omega
              · omega
            have e6 : (Value.slice A6 s.2.1.length c6).ownBlock ≠ some wr.heap.size := fun e => by have := (l6 _ e).2; omega
            have e7 : (Value.slice A7 s.2.2.length c7).ownBlock ≠ some wr.heap.size := fun e => by have := (l7 _ e).2; omega
            exact ⟨_, _, A4, c4, A5, c5, rfl, rfl, heap_set (i := 1) (heap_set (i := 0) hgx), Nat.le_refl _, (hs4.sub (fun b hb hl => by (rcases hb with hb | hb; exact ⟨.inl hb, hl⟩; simp at hb; exact ⟨.inr (by omega), hl⟩))).keep (((Agree.refl _ _).set nfx _).set nfx _), (hs5.sub (fun b hb hl => by (rcases hb with hb | hb; exact ⟨.inl hb, hl⟩; simp at hb; exact ⟨.inr (by omega), hl⟩))).keep (((Agree.refl _ _).set nfx _).set nfx _), (hR4.far hbase nfx e6 e7 0 _).far hbase nfx e6 e7 1 _⟩
        case rest =>
          obtain ⟨F2, g9, A4, c4, A5, c5, rfl, rfl, hg9, hg9r, hs4, hs5, hR⟩ := hcut
          clear x0 x1 x2 x3 x4 x5 x6 x7 y0 y1 f0 f1' hs' hs1' HR hbw hb1
          have p0 := cell_of_row _ _ 0 _ _ _ hg9
          have p1 := cell_of_row _ _ 1 _ _ _ hg9
          simp only [List.getElem?_toArray, List.getElem?_cons_zero, List.getElem?_cons_succ] at p0 p1
          obtain ⟨A0, c0, hg, -⟩ := hR.net
          have y0 := cell_of_row _ _ 0 _ _ _ hg
          have y1 := cell_of_row _ _ 1 _ _ _ hg
          simp only [List.getElem?_toArray, List.getElem?_cons_zero, List.getElem?_cons_succ] at y0 y1
          have f0 : wc.frozen? ⟨w2.heap.size, 0, none⟩ = false := by simp [World.frozen?, hg]
          have f1' : wc.frozen? ⟨w2.heap.size, 1, none⟩ = false := by simp [World.frozen?, hg]
          have hgl := heap_lt hg
          have hbase2 := hR.base
          have nFg := hR.nFg
          have hRp := Lib.hid (hR.put hs4)
          have h5p := Lib.hid ((hs5.keep ((Agree.refl _ _).set (p := ⟨w2.heap.size, 0, none⟩) nFg (.int .i64 r.1.now))).keep ((Agree.refl _ _).set (p := ⟨w2.heap.size, 1, none⟩) nFg (.slice A4 r.1.way.length c4)))
          have hng : g9 ≠ w2.heap.size := by omega
          have hng' : w2.heap.size ≠ g9 := by omega
          clear hg9 hg hs4 hs5 hR nFg
          go_wp2_with (at_builtin; refine wpList_append_E (S := F2) rfl (.tmp 55) (.tmp 56) rfl pksT (base := w2.heap.size + 1) (v := .slice A7 s.2.2.length c7) (xs := s.2.2) (ys := r.2) (by rfl) (by rfl) rfl rfl hRp.out.own7 h5p.out (by unfold maxLen; omega) (by omega) (by simp [World.setCell]; omega) (fun g hg => hRp.out.n7 g hg) ?_; intro A8 c8 w6 hown6 hg6 hor6)
          go_roundw
          case rel =>
            refine ⟨j + 1, by omega, by omega, by go_num, F2, ?_⟩
            rw [hT'.out]
            have hz := hRp.out.app7 (ys := r.2) hown6 hg6 hor6
            simpa using hz
          case measure => simp [intOf]; omega
    · by_cases hlt : j < l.length
      · skip
        have h40 : j = 40 := by omega
        have hTe : l.take j = l.take 40 := by rw [h40]
        have hj1 : (j : Int) < (l.length : Int) := by omega
        have hj2 : ¬ (j : Int) < 40 := by omega
        clear h40
        clear hgo ok3 htk
        have hTk : run3 (l.take j) = run3 (l.take 40) := by rw [hTe]
        rw [hTk] at hR
        clear hTk hTe
        generalize run3 (l.take 40) = s at *
        obtain ⟨A6, c6, rfl, -⟩ := hR.own6.form
        obtain ⟨A7, c7, rfl, -⟩ := hR.own7.form
        obtain ⟨A0, c0, hg, hs⟩ := hR.net
        have y0 := cell_of_row _ _ 0 _ _ _ hg
        have y1 := cell_of_row _ _ 1 _ _ _ hg
        simp only [List.getElem?_toArray, List.getElem?_cons_zero, List.getElem?_cons_succ] at y0 y1
        obtain ⟨r0, r1, k0, k1, l0, l1⟩ := hR.res.cells
        have hne : w.heap.size ≠ w2.heap.size := by omega
        have hne' : w2.heap.size ≠ w.heap.size := by omega
        have hFr : ∀ b, F b → Fresh S w b := fun b h => (hR.hF b h).imp And.left (fun h => by omega)
        have nr := hR.nFr
        have l6 := hR.own6.lt
        have l7 := hR.own7.lt
        have o6 := Lib.hid hR.own6
        have o7 := Lib.hid hR.own7
        have hs' := Lib.hid hs
        have hbw := hR.bel
        have hFr' := Lib.hid hFr
        have nr' := Lib.hid nr
        clear hR hg hs hFr nr
        go_wp2_with fail
        refine bodyPost_ret (v := .tuple #[.agg #[.int .i64 s.1.now, .slice A0 s.1.way.length c0], .slice A6 s.2.1.length c6, .slice A7 s.2.2.length c7]) (by simp [results, Try.results14, go_sem, k0, k1]) rfl ⟨A0, c0, A6, c6, A7, c7, rfl, ?_, ?_, ?_, (hbw.setCell (by simp) _).setCell (by simp) _⟩
        · exact (hs'.out.keep (((Agree.refl _ _).set nr'.out _).set nr'.out _)).sub fun b hb _ => hFr'.out b hb
        · exact ((o6.out.set (fun e => by have := (l6 _ e).1; simp at this; omega) nr'.out _).set (fun e => by have := (l6 _ e).1; simp at this; omega) nr'.out _).toSl (fun b hb _ => hFr'.out b hb) (fun b hb _ _ => .inr (by omega))
        · exact ((o7.out.set (fun e => by have := (l7 _ e).1; simp at this; omega) nr'.out _).set (fun e => by have := (l7 _ e).1; simp at this; omega) nr'.out _).toSl (fun b hb _ => hFr'.out b hb) (fun b hb _ _ => .inr (by omega))
      · skip
        have hTe : l.take j = l.take 40 := by rw [List.take_of_length_le (by omega), List.take_of_length_le (by omega)]
        have hj1 : ¬ (j : Int) < (l.length : Int) := by omega
        clear hgo ok3 htk
        have hTk : run3 (l.take j) = run3 (l.take 40) := by rw [hTe]
        rw [hTk] at hR
        clear hTk hTe
        generalize run3 (l.take 40) = s at *
        obtain ⟨A6, c6, rfl, -⟩ := hR.own6.form
        obtain ⟨A7, c7, rfl, -⟩ := hR.own7.form
        obtain ⟨A0, c0, hg, hs⟩ := hR.net
        have y0 := cell_of_row _ _ 0 _ _ _ hg
        have y1 := cell_of_row _ _ 1 _ _ _ hg
        simp only [List.getElem?_toArray, List.getElem?_cons_zero, List.getElem?_cons_succ] at y0 y1
        obtain ⟨r0, r1, k0, k1, l0, l1⟩ := hR.res.cells
        have hne : w.heap.size ≠ w2.heap.size := by omega
        have hne' : w2.heap.size ≠ w.heap.size := by omega
        have hFr : ∀ b, F b → Fresh S w b := fun b h => (hR.hF b h).imp And.left (fun h => by omega)
        have nr := hR.nFr
        have l6 := hR.own6.lt
        have l7 := hR.own7.lt
        have o6 := Lib.hid hR.own6
        have o7 := Lib.hid hR.own7
        have hs' := Lib.hid hs
        have hbw := hR.bel
        have hFr' := Lib.hid hFr
        have nr' := Lib.hid nr
        clear hR hg hs hFr nr
        go_wp2_with fail
        refine bodyPost_ret (v := .tuple #[.agg #[.int .i64 s.1.now, .slice A0 s.1.way.length c0], .slice A6 s.2.1.length c6, .slice A7 s.2.2.length c7]) (by simp [results, Try.results14, go_sem, k0, k1]) rfl ⟨A0, c0, A6, c6, A7, c7, rfl, ?_, ?_, ?_, (hbw.setCell (by simp) _).setCell (by simp) _⟩
        · exact (hs'.out.keep (((Agree.refl _ _).set nr'.out _).set nr'.out _)).sub fun b hb _ => hFr'.out b hb
        · exact ((o6.out.set (fun e => by have := (l6 _ e).1; simp at this; omega) nr'.out _).set (fun e => by have := (l6 _ e).1; simp at this; omega) nr'.out _).toSl (fun b hb _ => hFr'.out b hb) (fun b hb _ _ => .inr (by omega))
        · exact ((o7.out.set (fun e => by have := (l7 _ e).1; simp at this; omega) nr'.out _).set (fun e => by have := (l7 _ e).1; simp at this; omega) nr'.out _).toSl (fun b hb _ => hFr'.out b hb) (fun b hb _ _ => .inr (by omega))
end Go.Proofs.Ytmaaniogcmlfbaa
