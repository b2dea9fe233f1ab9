/-
  The reference's Run, walked.
-/
import Derived.Test.YtmaaniogcmlfbaaRunN
namespace Go.Proofs.Ytmaaniogcmlfbaa
open Go.RowKit

set_option maxRecDepth 100000 in
set_option maxHeartbeats 4000000 in
theorem runR {S T : Nat → Prop} {A B : Option Addr} {c d : Nat} {n : Nt} {es : List Ev} (w : World) (h : Sl pkE S w A c n.way) (k : Sl evE T w B d es) (ok : NtOk n) (hes : es.length ≤ 1000) :
    Calls Try.prog 21 #[.agg #[.int .i64 n.now, .slice A n.way.length c], .slice B es.length d] w (ApRes S w (runF n es).1 (runF n es).2) := by
  go_enter Try.func21, Try.ntmps21
  go_wp2_with fail
  go_loopw [6, 7] (fun out i wr => ∃ k : Nat, k ≤ es.length ∧ i = .int .i64 k ∧ RunRel S w (w.heap.size + 2) w.heap.size (runF n (es.take k)).1 (runF n (es.take k)).2 out wr) (fun _ i _ => es.length - (intOf i).toNat)
  case atStart =>
    refine ⟨0, Nat.zero_le _, rfl, fun b => S b ∧ b < w.heap.size, A, c, some ⟨w.heap.size + 2, 0, none⟩, 0, fun b hb => .inl hb, by rintro k ⟨⟩ ⟨-, h⟩; exact absurd h (by simp <;> omega), rfl, Own.litAt _ _ _ _ (by simp) (Nat.le_refl _), ?_, ?_, (by repeat' (first | with_reducible exact Below.refl _ _ | with_reducible assumption | with_reducible refine Below.setCell ?_ ?_ _ | with_reducible refine Below.drew ?_ | with_reducible refine below_drewN ?_ _ | with_reducible refine Below.alloc ?_ ?_ _ | (rintro _ ⟨⟩; simp <;> omega) | omega | (simp <;> omega))), by simp, (HG.alloc ⟨_, _, heap_alloc_at (by simp)⟩ _)⟩
    · show _ = some (Obj.cells #[.int .i64 n.now, .slice A n.way.length c] _ _)
      rw [Below.heap_alloc _ _ _ (by simp; omega), Below.heap_alloc _ _ _ (by simp)]
      exact heap_alloc_at rfl
    · exact h.old.keep ((((Agree.refl _ _).alloc _).alloc _).alloc _)
  case round =>
    obtain ⟨j, hj, rfl, F, A0, c0, A1, c1, hF, hFo, rfl, hown, hg, hs, hb, hB, hR⟩ := hrel
    obtain ⟨okj, hlen, hby⟩ := runF_ok (es.take j) n ok
    have hlt' : ((es.take j).length) ≤ j := List.length_take_le _ _
    by_cases hlt : j < es.length
    · obtain ⟨b1, o1, rfl, _, hb1, x0, x1, x2⟩ := ev_at (k.keep (Below.agree hb)) (List.getElem?_eq_getElem hlt)
      have hb1w : b1 < w.heap.size := by obtain ⟨b2, o2, e, _, h2, _⟩ := ev_at k (List.getElem?_eq_getElem hlt); injection e with e; injection e with e; omega
      have hj0 : (0 : Int) ≤ (j : Int) := by omega
      have hj1 : (j : Int) < (es.length : Int) := by omega
      have y0 := cell_of_row _ _ 0 _ _ _ hg
      have y1 := cell_of_row _ _ 1 _ _ _ hg
      simp only [List.getElem?_toArray, List.getElem?_cons_zero, List.getElem?_cons_succ] at y0 y1
      have f0 : wr.frozen? ⟨w.heap.size, 0, none⟩ = false := by simp [World.frozen?, hg]
      have f1 : wr.frozen? ⟨w.heap.size, 1, none⟩ = false := by simp [World.frozen?, hg]
      have Hg := Lib.hid hg
      clear hg
      have hglt : w.heap.size < wr.heap.size := by omega
      have hne : b1 ≠ w.heap.size := by omega
      have hne' : w.heap.size ≠ b1 := by omega
      have hn5 : wr.heap.size ≠ w.heap.size := by omega
      have hn6 : w.heap.size ≠ wr.heap.size := by omega
      have H := Lib.hid (runF_take (n := n) (List.getElem?_eq_getElem hlt))
      generalize hr : runF n (es.take j) = rj at *
      have Hr := Lib.hid hr
      clear hr
      have hlo := hown.lt
      have hap := (okj.apply (es[j]).kd (es[j]).at_ (es[j]).by_).2.1
      have br : Below wr.heap.size wr wr := Below.refl _ _
      have rc := fun W (hW : Below wr.heap.size wr W) b o (hb : b < wr.heap.size) => hW.cell (p := ⟨b, o, none⟩) hb
      have ba : ∀ W o, Below wr.heap.size wr W → Below wr.heap.size wr (W.alloc o) := fun W o h => h.alloc h.size o
      have bc : ∀ W W', Below wr.heap.size wr W → Below W.heap.size W W' → Below wr.heap.size wr W' := fun W W' h k => h.trans (k.mono h.size)
      generalize hq : applyF rj.1 (es[j]).kd (es[j]).at_ (es[j]).by_ = q at *
      have Hq := Lib.hid hq
      clear hq
      go_wp2_with fail
      go_region_held3 (fun X => Below wr.heap.size wr X) (repeat' (first | with_reducible assumption | with_reducible refine Below.drew ?_ | with_reducible refine Below.alloc ?_ ?_ _ | with_reducible refine Below.setCell ?_ ?_ _ | (simp; done) | omega | (simp <;> omega)))
        (first | (go_at_call 17; refine (applyRE (S := fun b => F b ∧ b < wr.heap.size) (n := rj.1) _ (hs.old.keep (Below.agree (by assumption))) okj Hq.out).mono ?_; rintro e w4 ⟨A4, c4, A5, c5, rfl, hs4, hs5, hb4⟩; have hk4 := bc _ _ (by assumption) hb4; have hz4 := hk4.size; have hlg := Nat.lt_of_lt_of_le hglt hz4; have hlb := Nat.lt_of_lt_of_le hb1 hz4; obtain ⟨hc4, hf4⟩ := kcell hk4; obtain ⟨hd4, hdf4⟩ := bcell hb4; have hl4 := fun (b : Nat) h => Nat.lt_of_lt_of_le (n := b) h hb4.size))
      · skip
        have hnF : ¬ F w.heap.size := fun h => by rcases hF _ h with h1 | h1 <;> omega
        have hnF1 : ¬ (fun b => ((F b ∧ b < wr.heap.size) ∨ wr.heap.size + 0 ≤ b) ∧ b < w4.heap.size) w.heap.size := fun h => by (rcases h.1 with h1 | h1; exact hnF h1.1; omega)
        have hrow : ∀ k, (Value.slice A1 rj.2.length c1).ownBlock = some k → ¬ (fun b => ((F b ∧ b < wr.heap.size) ∨ wr.heap.size + 0 ≤ b) ∧ b < w4.heap.size) k := fun k hk h => by
          have h9 := (hlo k hk).2
          rcases h.1 with h1 | h1
          · exact hFo k hk h1.1
          · omega
        have hown4 : Own pkE (fun b => ((F b ∧ b < wr.heap.size) ∨ wr.heap.size + 0 ≤ b) ∧ b < w4.heap.size) w4 (w.heap.size + 2) 32 (.slice A1 rj.2.length c1) rj.2 := (Own.keep (hown.sub (T := fun b => F b ∧ b < wr.heap.size) fun b hb hl => ⟨hb, hl⟩) (Below.agree hk4) (fun g hg => hk4.block g (hlo g hg).2)).sub fun b hb _ => ⟨.inl hb, by omega⟩
        have hownW : Own pkE (fun b => ((F b ∧ b < wr.heap.size) ∨ wr.heap.size + 0 ≤ b) ∧ b < w4.heap.size) (((w4.setCell ⟨w.heap.size, 0, none⟩ (.int .i64 q.1.now)).setCell ⟨w.heap.size, 1, none⟩ (.slice A4 q.1.way.length c4)).alloc (.cells #[.int .i64 q.1.now, .slice A4 q.1.way.length c4] 26)) (w.heap.size + 2) 32 (.slice A1 rj.2.length c1) rj.2 := (((hown4.set (fun e => by have := (hlo _ e).1; simp at this; omega) hnF1 _).set (fun e => by have := (hlo _ e).1; simp at this; omega) hnF1 _).alloc _)
        have h5W : Sl pkE (fun b => ((F b ∧ b < wr.heap.size) ∨ wr.heap.size + 0 ≤ b) ∧ b < w4.heap.size) (((w4.setCell ⟨w.heap.size, 0, none⟩ (.int .i64 q.1.now)).setCell ⟨w.heap.size, 1, none⟩ (.slice A4 q.1.way.length c4)).alloc (.cells #[.int .i64 q.1.now, .slice A4 q.1.way.length c4] 26)) A5 c5 q.2 := (hs5.old.sub (T := (fun b => ((F b ∧ b < wr.heap.size) ∨ wr.heap.size + 0 ≤ b) ∧ b < w4.heap.size)) fun b hb hl => ⟨hb.1.imp id (fun h => by simpa using h), hb.2⟩).keep ((((Agree.refl _ _).set hnF1 _).set hnF1 _).alloc _)
        have h4W : Sl pkE (fun b => ((F b ∧ b < wr.heap.size) ∨ wr.heap.size + 0 ≤ b) ∧ b < w4.heap.size) (((w4.setCell ⟨w.heap.size, 0, none⟩ (.int .i64 q.1.now)).setCell ⟨w.heap.size, 1, none⟩ (.slice A4 q.1.way.length c4)).alloc (.cells #[.int .i64 q.1.now, .slice A4 q.1.way.length c4] 26)) A4 c4 q.1.way := (hs4.old.sub (T := (fun b => ((F b ∧ b < wr.heap.size) ∨ wr.heap.size + 0 ≤ b) ∧ b < w4.heap.size)) fun b hb hl => ⟨hb.1.imp id (fun h => by simpa using h), hb.2⟩).keep ((((Agree.refl _ _).set hnF1 _).set hnF1 _).alloc _)
        have hgW : (((w4.setCell ⟨w.heap.size, 0, none⟩ (.int .i64 q.1.now)).setCell ⟨w.heap.size, 1, none⟩ (.slice A4 q.1.way.length c4)).alloc (.cells #[.int .i64 q.1.now, .slice A4 q.1.way.length c4] 26)).heap[w.heap.size]? = some (.cells #[.int .i64 q.1.now, .slice A4 q.1.way.length c4] 26 (0, 0)) := (Below.heap_alloc _ _ _ (by simp [World.setCell]; omega)).trans (heap_set (i := 1) (heap_set (i := 0) ((hk4.block _ hglt).trans Hg.out)))
        have hRW : HG (((w4.setCell ⟨w.heap.size, 0, none⟩ (.int .i64 q.1.now)).setCell ⟨w.heap.size, 1, none⟩ (.slice A4 q.1.way.length c4)).alloc (.cells #[.int .i64 q.1.now, .slice A4 q.1.way.length c4] 26)) (w.heap.size + 1) := (((hR.under hk4 (by omega)).set (by simp) _).set (by simp) _).alloc _
        have hbW : Below w.heap.size w (((w4.setCell ⟨w.heap.size, 0, none⟩ (.int .i64 q.1.now)).setCell ⟨w.heap.size, 1, none⟩ (.slice A4 q.1.way.length c4)).alloc (.cells #[.int .i64 q.1.now, .slice A4 q.1.way.length c4] 26)) := (((hb.trans (hk4.mono hb.size)).setCell (by simp) _).setCell (by simp) _).alloc (by simp [World.setCell]; omega) _
        have hzW : w4.heap.size ≤ (((w4.setCell ⟨w.heap.size, 0, none⟩ (.int .i64 q.1.now)).setCell ⟨w.heap.size, 1, none⟩ (.slice A4 q.1.way.length c4)).alloc (.cells #[.int .i64 q.1.now, .slice A4 q.1.way.length c4] 26)).heap.size := by simp [World.setCell]
        have hownW' := Lib.hid hownW
        have h5W' := Lib.hid h5W
        have h4W' := Lib.hid h4W
        have hgW' := Lib.hid hgW
        have hbW' := Lib.hid hbW
        have hrow' := Lib.hid hrow
        have hnF1' := Lib.hid hnF1
        clear hownW h5W h4W hgW hbW hrow hown4 hnF hnF1 hs4 hs5 hs hown rc ba bc br
        go_wp2_with (at_builtin; refine wpList_append_E (S := (fun b => ((F b ∧ b < wr.heap.size) ∨ wr.heap.size + 0 ≤ b) ∧ b < w4.heap.size)) rfl (.tmp 27) (.tmp 28) rfl pksT (base := w.heap.size + 2) (v := .slice A1 rj.2.length c1) (by rfl) (by rfl) rfl rfl hownW'.out h5W'.out (by unfold maxLen; omega) (by omega) (by omega) (fun g hg => hrow'.out g hg) ?_; intro A6 c6 w6 hown6 hg6 hor6)
        go_roundw
        case rel =>
          refine ⟨j + 1, by omega, by go_num, (fun b => ((F b ∧ b < wr.heap.size) ∨ wr.heap.size + 0 ≤ b) ∧ b < w4.heap.size), A4, c4, A6, c6, ?_, ?_, ?_, ?_, ?_, ?_, ?_, ?_, ?_⟩
          · intro b hb
            rcases hb.1 with h1 | h1
            · exact hF b h1.1
            · exact .inr (by omega)
          · intro k hk h
            rcases hor6 k (by have e := hk; simp only [List.length_append] at e ⊢; exact e) with h1 | h1
            · exact hrow'.out k h1 h
            · have h3 := h.2; omega
          · rw [H.out]; simp
          · rw [H.out]; have h := hown6; simpa using h
          · rw [H.out]; exact ((hg6.block _ (by omega) (fun e => by have h9 := (hlo _ e.symm).1; omega)).trans hgW'.out)
          · rw [H.out]; exact h4W'.out.keep ((Agree.refl _ _).grown hg6 hrow'.out)
          · exact hbW'.out.grown hg6 (by have := hbW'.out.size; exact this) (fun k hk => by have := (hlo k hk).1; omega)
          · have h9 := hg6.size; omega
          · exact hRW.grown hg6 (fun e => by have h9 := (hlo _ e.symm).1; omega)
        case measure => simp [intOf]; omega
      · skip
        have hnF : ¬ F w.heap.size := fun h => by rcases hF _ h with h1 | h1 <;> omega
        have hnF1 : ¬ (fun b => ((F b ∧ b < wr.heap.size) ∨ wr.heap.size + 1 ≤ b) ∧ b < w4.heap.size) w.heap.size := fun h => by (rcases h.1 with h1 | h1; exact hnF h1.1; omega)
        have hnF2 : ¬ (fun b => ((F b ∧ b < wr.heap.size) ∨ wr.heap.size + 1 ≤ b) ∧ b < w4.heap.size) wr.heap.size := fun h => by (rcases h.1 with h1 | h1 <;> omega)
        have hrow : ∀ k, (Value.slice A1 rj.2.length c1).ownBlock = some k → ¬ (fun b => ((F b ∧ b < wr.heap.size) ∨ wr.heap.size + 1 ≤ b) ∧ b < w4.heap.size) k := fun k hk h => by
          have h9 := (hlo k hk).2
          rcases h.1 with h1 | h1
          · exact hFo k hk h1.1
          · omega
        have hown4 : Own pkE (fun b => ((F b ∧ b < wr.heap.size) ∨ wr.heap.size + 1 ≤ b) ∧ b < w4.heap.size) w4 (w.heap.size + 2) 32 (.slice A1 rj.2.length c1) rj.2 := (Own.keep (hown.sub (T := fun b => F b ∧ b < wr.heap.size) fun b hb hl => ⟨hb, hl⟩) (Below.agree hk4) (fun g hg => hk4.block g (hlo g hg).2)).sub fun b hb _ => ⟨.inl hb, by omega⟩
        have hownW : Own pkE (fun b => ((F b ∧ b < wr.heap.size) ∨ wr.heap.size + 1 ≤ b) ∧ b < w4.heap.size) ((((w4.setCell ⟨wr.heap.size, 0, none⟩ (.int .i64 q.1.now)).setCell ⟨wr.heap.size, 1, none⟩ (.slice A4 q.1.way.length c4)).setCell ⟨w.heap.size, 0, none⟩ (.int .i64 q.1.now)).setCell ⟨w.heap.size, 1, none⟩ (.slice A4 q.1.way.length c4)) (w.heap.size + 2) 32 (.slice A1 rj.2.length c1) rj.2 := ((((hown4.set (fun e => by have := (hlo _ e).2; simp at this) hnF2 _).set (fun e => by have := (hlo _ e).2; simp at this) hnF2 _).set (fun e => by have := (hlo _ e).1; simp at this; omega) hnF1 _).set (fun e => by have := (hlo _ e).1; simp at this; omega) hnF1 _)
        have h5W : Sl pkE (fun b => ((F b ∧ b < wr.heap.size) ∨ wr.heap.size + 1 ≤ b) ∧ b < w4.heap.size) ((((w4.setCell ⟨wr.heap.size, 0, none⟩ (.int .i64 q.1.now)).setCell ⟨wr.heap.size, 1, none⟩ (.slice A4 q.1.way.length c4)).setCell ⟨w.heap.size, 0, none⟩ (.int .i64 q.1.now)).setCell ⟨w.heap.size, 1, none⟩ (.slice A4 q.1.way.length c4)) A5 c5 q.2 := (hs5.old.sub (T := (fun b => ((F b ∧ b < wr.heap.size) ∨ wr.heap.size + 1 ≤ b) ∧ b < w4.heap.size)) fun b hb hl => ⟨hb.1.imp id (fun h => by simpa using h), hb.2⟩).keep (((((Agree.refl _ _).set hnF2 _).set hnF2 _).set hnF1 _).set hnF1 _)
        have h4W : Sl pkE (fun b => ((F b ∧ b < wr.heap.size) ∨ wr.heap.size + 1 ≤ b) ∧ b < w4.heap.size) ((((w4.setCell ⟨wr.heap.size, 0, none⟩ (.int .i64 q.1.now)).setCell ⟨wr.heap.size, 1, none⟩ (.slice A4 q.1.way.length c4)).setCell ⟨w.heap.size, 0, none⟩ (.int .i64 q.1.now)).setCell ⟨w.heap.size, 1, none⟩ (.slice A4 q.1.way.length c4)) A4 c4 q.1.way := (hs4.old.sub (T := (fun b => ((F b ∧ b < wr.heap.size) ∨ wr.heap.size + 1 ≤ b) ∧ b < w4.heap.size)) fun b hb hl => ⟨hb.1.imp id (fun h => by simpa using h), hb.2⟩).keep (((((Agree.refl _ _).set hnF2 _).set hnF2 _).set hnF1 _).set hnF1 _)
        have hgW : ((((w4.setCell ⟨wr.heap.size, 0, none⟩ (.int .i64 q.1.now)).setCell ⟨wr.heap.size, 1, none⟩ (.slice A4 q.1.way.length c4)).setCell ⟨w.heap.size, 0, none⟩ (.int .i64 q.1.now)).setCell ⟨w.heap.size, 1, none⟩ (.slice A4 q.1.way.length c4)).heap[w.heap.size]? = some (.cells #[.int .i64 q.1.now, .slice A4 q.1.way.length c4] 26 (0, 0)) := heap_set (i := 1) (heap_set (i := 0) ((Below.heap_setCell _ _ _ _ (by simp; omega)).trans ((Below.heap_setCell _ _ _ _ (by simp; omega)).trans ((hk4.block _ hglt).trans Hg.out))))
        have hRW : HG ((((w4.setCell ⟨wr.heap.size, 0, none⟩ (.int .i64 q.1.now)).setCell ⟨wr.heap.size, 1, none⟩ (.slice A4 q.1.way.length c4)).setCell ⟨w.heap.size, 0, none⟩ (.int .i64 q.1.now)).setCell ⟨w.heap.size, 1, none⟩ (.slice A4 q.1.way.length c4)) (w.heap.size + 1) := ((((hR.under hk4 (by omega)).set (by simp; omega) _).set (by simp; omega) _).set (by simp) _).set (by simp) _
        have hbW : Below w.heap.size w ((((w4.setCell ⟨wr.heap.size, 0, none⟩ (.int .i64 q.1.now)).setCell ⟨wr.heap.size, 1, none⟩ (.slice A4 q.1.way.length c4)).setCell ⟨w.heap.size, 0, none⟩ (.int .i64 q.1.now)).setCell ⟨w.heap.size, 1, none⟩ (.slice A4 q.1.way.length c4)) := ((((hb.trans (hk4.mono hb.size)).setCell (by simp; omega) _).setCell (by simp; omega) _).setCell (by simp) _).setCell (by simp) _
        have hzW : w4.heap.size ≤ ((((w4.setCell ⟨wr.heap.size, 0, none⟩ (.int .i64 q.1.now)).setCell ⟨wr.heap.size, 1, none⟩ (.slice A4 q.1.way.length c4)).setCell ⟨w.heap.size, 0, none⟩ (.int .i64 q.1.now)).setCell ⟨w.heap.size, 1, none⟩ (.slice A4 q.1.way.length c4)).heap.size := by simp [World.setCell]
        have hownW' := Lib.hid hownW
        have h5W' := Lib.hid h5W
        have h4W' := Lib.hid h4W
        have hgW' := Lib.hid hgW
        have hbW' := Lib.hid hbW
        have hrow' := Lib.hid hrow
        have hnF1' := Lib.hid hnF1
        clear hownW h5W h4W hgW hbW hrow hown4 hnF hnF1 hs4 hs5 hs hown rc ba bc br hnF2
        go_wp2_with (at_builtin; refine wpList_append_E (S := (fun b => ((F b ∧ b < wr.heap.size) ∨ wr.heap.size + 1 ≤ b) ∧ b < w4.heap.size)) rfl (.tmp 27) (.tmp 28) rfl pksT (base := w.heap.size + 2) (v := .slice A1 rj.2.length c1) (by rfl) (by rfl) rfl rfl hownW'.out h5W'.out (by unfold maxLen; omega) (by omega) (by omega) (fun g hg => hrow'.out g hg) ?_; intro A6 c6 w6 hown6 hg6 hor6)
        go_roundw
        case rel =>
          refine ⟨j + 1, by omega, by go_num, (fun b => ((F b ∧ b < wr.heap.size) ∨ wr.heap.size + 1 ≤ b) ∧ b < w4.heap.size), A4, c4, A6, c6, ?_, ?_, ?_, ?_, ?_, ?_, ?_, ?_, ?_⟩
          · intro b hb
            rcases hb.1 with h1 | h1
            · exact hF b h1.1
            · exact .inr (by omega)
          · intro k hk h
            rcases hor6 k (by have e := hk; simp only [List.length_append] at e ⊢; exact e) with h1 | h1
            · exact hrow'.out k h1 h
            · have h3 := h.2; omega
          · rw [H.out]; simp
          · rw [H.out]; have h := hown6; simpa using h
          · rw [H.out]; exact ((hg6.block _ (by omega) (fun e => by have h9 := (hlo _ e.symm).1; omega)).trans hgW'.out)
          · rw [H.out]; exact h4W'.out.keep ((Agree.refl _ _).grown hg6 hrow'.out)
          · exact hbW'.out.grown hg6 (by have := hbW'.out.size; exact this) (fun k hk => by have := (hlo k hk).1; omega)
          · have h9 := hg6.size; omega
          · exact hRW.grown hg6 (fun e => by have h9 := (hlo _ e.symm).1; omega)
        case measure => simp [intOf]; omega
    · obtain rfl : j = es.length := by omega
      rw [List.take_length] at *
      have hj1 : ¬ (es.length : Int) < (es.length : Int) := by omega
      have y0 := cell_of_row _ _ 0 _ _ _ hg
      have y1 := cell_of_row _ _ 1 _ _ _ hg
      simp only [List.getElem?_toArray, List.getElem?_cons_zero, List.getElem?_cons_succ] at y0 y1
      obtain ⟨r0, r1, k0, k1, l0, l1⟩ := hR.cells
      have hne : w.heap.size + 1 ≠ w.heap.size := by omega
      have hne' : w.heap.size ≠ w.heap.size + 1 := by omega
      have hnR : ¬ F (w.heap.size + 1) := fun h => by rcases hF _ h with h1 | h1 <;> omega
      have hFr : ∀ b, F b → Fresh S w b := fun b h => (hF b h).imp And.left (fun h => by omega)
      have hnR' := Lib.hid hnR
      have hFr' := Lib.hid hFr
      clear hF hFo hg hnR hFr
      generalize runF n es = rj at *
      have Hown := Lib.hid hown
      have Hs := Lib.hid hs
      have hlo := hown.lt
      clear hown hs
      go_wp2_with fail
      refine bodyPost_ret (v := .tuple #[.agg #[.int .i64 rj.1.now, .slice A0 rj.1.way.length c0], .slice A1 rj.2.length c1]) (by simp [results, Try.results21, go_sem, k0, k1]) rfl ⟨A0, c0, A1, c1, rfl, ?_, ?_, (hb.setCell (by simp) _).setCell (by simp) _⟩
      · exact (Hs.out.keep (((Agree.refl _ _).set hnR'.out _).set hnR'.out _)).sub fun b hb _ => hFr'.out b hb
      · exact ((Hown.out.set (fun e => by have := (hlo _ e).1; simp at this) hnR'.out _).set (fun e => by have := (hlo _ e).1; simp at this) hnR'.out _).toSl (fun b hb _ => hFr'.out b hb) (fun b hb _ _ => .inr (by omega))
end Go.Proofs.Ytmaaniogcmlfbaa
