/-
  network.Run, walked.
-/
import Derived.Test.YtmaaniogcmlfbaaNetL
namespace Go.Proofs.Ytmaaniogcmlfbaa
open Go.RowKit

/-- At a round's head: box g holds the network n, 'out' is the call's own and reads as ds. -/
def RunRel (S : Nat → Prop) (w : World) (B g : Nat) (n : Nt) (ds : List Pk) (out : Value) (wr : World) : Prop :=
  ∃ (F : Nat → Prop) (A : Option Addr) (c : Nat) (A1 : Option Addr) (c1 : Nat), (∀ b, F b → (S b ∧ b < w.heap.size) ∨ B ≤ b) ∧ (∀ k, out.ownBlock = some k → ¬ F k) ∧ out = .slice A1 ds.length c1 ∧ Own pkE F wr B 32 out ds ∧
    wr.heap[g]? = some (.cells #[.int .i64 n.now, .slice A n.way.length c] 26 (0, 0)) ∧ Sl pkE F wr A c n.way ∧ Below w.heap.size w wr ∧ B ≤ wr.heap.size ∧ HG wr (g + 1)

set_option maxRecDepth 100000 in
set_option maxHeartbeats 800000 in
theorem runN {S T : Nat → Prop} {A B : Option Addr} {c d : Nat} {n : Nt} {es : List Ev} (w : World) (h : Sl pkE S w A c n.way) (k : Sl evE T w B d es) (ok : NtOk n) (hes : es.length ≤ 1000) :
    Calls Try.prog 20 #[.agg #[.int .i64 n.now, .slice A n.way.length c], .slice B es.length d] w (ApRes S w (runF n es).1 (runF n es).2) := by
  go_enter Try.func20, Try.ntmps20
  go_wp2_with fail
  go_loopw [6, 13] (fun out i wr => ∃ k : Nat, k ≤ es.length ∧ i = .int .i64 k ∧ RunRel S w (w.heap.size + 2) w.heap.size (runF n (es.take k)).1 (runF n (es.take k)).2 out wr) (fun _ i _ => es.length - (intOf i).toNat)
  case atStart =>
    refine ⟨0, Nat.zero_le _, rfl, fun b => S b ∧ b < w.heap.size, A, c, none, 0, fun b hb => .inl hb, by rintro k ⟨⟩, rfl, Own.nil_ _ _ _ _ _, ?_, ?_, (by repeat' (first | with_reducible exact Below.refl _ _ | with_reducible assumption | with_reducible refine Below.setCell ?_ ?_ _ | with_reducible refine Below.drew ?_ | with_reducible refine below_drewN ?_ _ | with_reducible refine Below.alloc ?_ ?_ _ | (rintro _ ⟨⟩; simp <;> omega) | omega | (simp <;> omega))), by simp, ⟨_, _, heap_alloc_at (by simp)⟩⟩
    · show _ = some (Obj.cells #[.int .i64 n.now, .slice A n.way.length c] _ _)
      rw [Below.heap_alloc _ _ _ (by simp)]
      exact heap_alloc_at rfl
    · exact h.old.keep (((Agree.refl _ _).alloc _).alloc _)
  case round =>
    obtain ⟨j, hj, rfl, F, A0, c0, A1, c1, hF, hFo, rfl, hown, hg, hs, hb, hB, hR⟩ := hrel
    obtain ⟨okj, hlen, hby⟩ := runF_ok (es.take j) n ok
    have hlt' : ((es.take j).length) ≤ j := List.length_take_le _ _
    by_cases hlt : j < es.length
    · obtain ⟨b1, o1, rfl, _, hb1, x0, x1, x2⟩ := ev_at k (List.getElem?_eq_getElem hlt)
      have r := fun W (hW : Below w.heap.size w W) => (bcell hW).1
      have hj0 : (0 : Int) ≤ (j : Int) := by omega
      have hj1 : (j : Int) < (es.length : Int) := by omega
      have y0 := cell_of_row _ _ 0 _ _ _ hg
      have y1 := cell_of_row _ _ 1 _ _ _ hg
      simp only [List.getElem?_toArray, List.getElem?_cons_zero, List.getElem?_cons_succ] at y0 y1
      have f0 : wr.frozen? ⟨w.heap.size, 0, none⟩ = false := by simp [World.frozen?, hg]
      have f1 : wr.frozen? ⟨w.heap.size, 1, none⟩ = false := by simp [World.frozen?, hg]
      have Hg := Lib.hid hg
      clear hg
      have hz1 : w.heap.size < wr.heap.size := by omega
      have hb1' : b1 < wr.heap.size := by omega
      have hbn : b1 ≠ wr.heap.size := by omega
      have H := Lib.hid (runF_take (n := n) (List.getElem?_eq_getElem hlt))
      go_wp2_with fail
      refine (applyN (S := fun b => F b ∧ b < wr.heap.size) _ (hs.old.keep (by repeat' (first | with_reducible exact Agree.refl _ _ | with_reducible assumption | with_reducible refine Agree.set ?_ ?_ _ | with_reducible refine Agree.alloc ?_ _ | with_reducible refine Agree.drew ?_ | with_reducible refine Agree.drewN ?_ _ | omega | (simp <;> omega)))) okj _ _ _).mono ?_
      rintro e w2 ⟨A3, c3, A4, c4, rfl, hs3, hs4, hb2⟩
      have hz2 := hb2.size
      simp at hz2
      obtain ⟨hc2, hf2⟩ := bcellk (k := wr.heap.size) hb2 (by simp)
      have hz3 : w.heap.size < w2.heap.size := by omega
      have hn3 : w2.heap.size ≠ w.heap.size := by omega
      have hn4 : w.heap.size ≠ w2.heap.size := by omega
      have hne1 := (okj.apply (es[j]).kd (es[j]).at_ (es[j]).by_).2.1
      have hlo := hown.lt
      go_wp2_with fail
      generalize hr : runF n (es.take j) = rj at *
      have hownW : Own pkE (fun b => ((F b ∧ b < wr.heap.size) ∨ wr.heap.size + 1 ≤ b) ∧ b < w2.heap.size) (w2.alloc (.cells #[.int .i64 (applyF rj.1 (es[j]).kd (es[j]).at_ (es[j]).by_).1.now, .slice A3 (applyF rj.1 (es[j]).kd (es[j]).at_ (es[j]).by_).1.way.length c3] 26)) (w.heap.size + 2) 32 (.slice A1 rj.2.length c1) rj.2 :=
        ((((hown.sub (T := fun b => F b ∧ b < wr.heap.size) fun b hb hl => ⟨hb, hl⟩).alloc _).call hb2).alloc _).sub fun b hb _ => ⟨.inl hb, by omega⟩
      have h4W : Sl pkE (fun b => ((F b ∧ b < wr.heap.size) ∨ wr.heap.size + 1 ≤ b) ∧ b < w2.heap.size) (w2.alloc (.cells #[.int .i64 (applyF rj.1 (es[j]).kd (es[j]).at_ (es[j]).by_).1.now, .slice A3 (applyF rj.1 (es[j]).kd (es[j]).at_ (es[j]).by_).1.way.length c3] 26)) A4 c4 (applyF rj.1 (es[j]).kd (es[j]).at_ (es[j]).by_).2 :=
        (hs4.old.sub (T := (fun b => ((F b ∧ b < wr.heap.size) ∨ wr.heap.size + 1 ≤ b) ∧ b < w2.heap.size)) fun b hb hl => ⟨hb.1.imp id (fun h => by simpa using h), hl⟩).keep ((Agree.refl _ _).alloc _)
      have h3W : Sl pkE (fun b => ((F b ∧ b < wr.heap.size) ∨ wr.heap.size + 1 ≤ b) ∧ b < w2.heap.size) (w2.alloc (.cells #[.int .i64 (applyF rj.1 (es[j]).kd (es[j]).at_ (es[j]).by_).1.now, .slice A3 (applyF rj.1 (es[j]).kd (es[j]).at_ (es[j]).by_).1.way.length c3] 26)) A3 c3 (applyF rj.1 (es[j]).kd (es[j]).at_ (es[j]).by_).1.way :=
        (hs3.old.sub (T := (fun b => ((F b ∧ b < wr.heap.size) ∨ wr.heap.size + 1 ≤ b) ∧ b < w2.heap.size)) fun b hb hl => ⟨hb.1.imp id (fun h => by simpa using h), hl⟩).keep ((Agree.refl _ _).alloc _)
      have hgW : (w2.alloc (.cells #[.int .i64 (applyF rj.1 (es[j]).kd (es[j]).at_ (es[j]).by_).1.now, .slice A3 (applyF rj.1 (es[j]).kd (es[j]).at_ (es[j]).by_).1.way.length c3] 26)).heap[w.heap.size]? = some (.cells #[.int .i64 rj.1.now, .slice A0 rj.1.way.length c0] 26 (0, 0)) := by
        rw [Below.heap_alloc _ _ _ (by omega), hb2.block _ (by simp; omega), Below.heap_alloc _ _ _ hz1]
        exact Hg.out
      have hbW : Below w.heap.size w (w2.alloc (.cells #[.int .i64 (applyF rj.1 (es[j]).kd (es[j]).at_ (es[j]).by_).1.now, .slice A3 (applyF rj.1 (es[j]).kd (es[j]).at_ (es[j]).by_).1.way.length c3] 26)) := ((hb.alloc (by omega) _).trans (hb2.mono (by simp; omega))).alloc (by omega) _
      have HownW := Lib.hid hownW
      have H4 := Lib.hid h4W
      have H3 := Lib.hid h3W
      have HgW := Lib.hid hgW
      have HbW := Lib.hid hbW
      have Hr := Lib.hid hr
      clear hownW h4W h3W hgW hbW hr hs3 hs4 hs hown hb
      go_region_held3 (fun X => X.cell? ⟨w2.heap.size, 0, none⟩ = some (.int .i64 (applyF rj.1 (es[j]).kd (es[j]).at_ (es[j]).by_).1.now) ∧ X.cell? ⟨w2.heap.size, 1, none⟩ = some (.slice A3 (applyF rj.1 (es[j]).kd (es[j]).at_ (es[j]).by_).1.way.length c3)) (go_keep)
        (first | (refine step_append_E (S := (fun b => ((F b ∧ b < wr.heap.size) ∨ wr.heap.size + 1 ≤ b) ∧ b < w2.heap.size)) rfl (.tmp 24) (.tmp 25) rfl pksT (base := w.heap.size + 2) (v := .slice A1 rj.2.length c1) (by rfl) (by rfl) rfl rfl HownW.out.drew H4.out.drew (by unfold maxLen; omega) (by omega) (by simp; omega) (fun g hg hs => (by have := (hlo g hg).2; rcases hs.1 with h | h; exact hFo g hg h.1; omega)) ?_; intro A5 c5 w5 hown5 hg5 hor5; have q1 : ∀ o, w5.cell? ⟨w2.heap.size, o, none⟩ = ((w2.alloc (.cells #[.int .i64 (applyF rj.1 (es[j]).kd (es[j]).at_ (es[j]).by_).1.now, .slice A3 (applyF rj.1 (es[j]).kd (es[j]).at_ (es[j]).by_).1.way.length c3] 26))).cell? ⟨w2.heap.size, o, none⟩ := fun o => World.cell?_of_block (hg5.block _ (by simp) (fun e => by have h9 := (hlo _ e.symm).2; simp only at h9; omega)); have q2 : ∀ o, w5.cell? ⟨w.heap.size, o, none⟩ = ((w2.alloc (.cells #[.int .i64 (applyF rj.1 (es[j]).kd (es[j]).at_ (es[j]).by_).1.now, .slice A3 (applyF rj.1 (es[j]).kd (es[j]).at_ (es[j]).by_).1.way.length c3] 26))).cell? ⟨w.heap.size, o, none⟩ := fun o => World.cell?_of_block (hg5.block _ (by simp; omega) (fun e => by have h9 := (hlo _ e.symm).1; simp only at h9; omega)); have q3 : ∀ o, w5.frozen? ⟨w.heap.size, o, none⟩ = ((w2.alloc (.cells #[.int .i64 (applyF rj.1 (es[j]).kd (es[j]).at_ (es[j]).by_).1.now, .slice A3 (applyF rj.1 (es[j]).kd (es[j]).at_ (es[j]).by_).1.way.length c3] 26))).frozen? ⟨w.heap.size, o, none⟩ := fun o => World.frozen?_of_block (hg5.block _ (by simp; omega) (fun e => by have h9 := (hlo _ e.symm).1; simp only at h9; omega))))
      all_goals
        go_wp2_with fail
        go_roundw
        case rel =>
          have hnF : ¬ F w.heap.size := fun h => by rcases hF _ h with h1 | h1 <;> omega
          have hnF1 : ¬ (fun b => ((F b ∧ b < wr.heap.size) ∨ wr.heap.size + 1 ≤ b) ∧ b < w2.heap.size) w.heap.size := fun h => by rcases h.1 with h1 | h1; exact hnF h1.1; omega
          have hrow : ∀ k, (Value.slice A1 rj.2.length c1).ownBlock = some k → ¬ (fun b => ((F b ∧ b < wr.heap.size) ∨ wr.heap.size + 1 ≤ b) ∧ b < w2.heap.size) k := fun k hk h => by
            have h9 := (hlo k hk).2
            rcases h.1 with h1 | h1
            · exact hFo k hk h1.1
            · omega
          have hown5' : Own pkE (fun b => ((F b ∧ b < wr.heap.size) ∨ wr.heap.size + 1 ≤ b) ∧ b < w2.heap.size) w5 (w.heap.size + 2) 32 (.slice A5 (rj.2.length + (applyF rj.1 (es[j]).kd (es[j]).at_ (es[j]).by_).2.length) c5) (rj.2 ++ (applyF rj.1 (es[j]).kd (es[j]).at_ (es[j]).by_).2) := by have h := hown5; simpa using h
          have hlo5 := hown5'.lt
          refine ⟨j + 1, by omega, by go_num, (fun b => ((F b ∧ b < wr.heap.size) ∨ wr.heap.size + 1 ≤ b) ∧ b < w2.heap.size), A3, c3, A5, c5, ?_, ?_, ?_, ?_, ?_, ?_, ?_, ?_, ?_⟩
          · intro b hb
            rcases hb.1 with h1 | h1
            · exact hF b h1.1
            · exact .inr (by omega)
          · intro k hk h
            rcases hor5 k (by rw [List.length_append]; exact hk) with h1 | h1
            · exact hrow k h1 h
            · have h2 : w2.heap.size + 1 = k := by simpa using h1
              have h3 := h.2
              omega
          · rw [H.out]; simp
          · rw [H.out]
            exact ((hown5'.set (fun e => by have := (hlo5 _ e).1; simp at this; omega) hnF1 _).set (fun e => by have := (hlo5 _ e).1; simp at this; omega) hnF1 _)
          · rw [H.out]
            exact heap_set (i := 1) (heap_set (i := 0) ((hg5.block _ (by simp; omega) (fun e => by have h9 := (hlo _ e.symm).1; omega)).trans HgW.out))
          · rw [H.out]
            exact (H3.out.drew.keep ((Agree.refl _ _).grown hg5 hrow)).keep (((Agree.refl _ _).set hnF1 _).set hnF1 _)
          · exact (((HbW.out.drew.grown hg5 (by have := HbW.out.size; simpa using this) (fun k hk => by have := (hlo k hk).1; omega)).setCell (by simp) _).setCell (by simp) _)
          · have h9 := hg5.size
            simp at h9
            simp [World.setCell]
            omega
          · have hR2 : HG (w2.alloc (.cells #[.int .i64 (applyF rj.1 (es[j]).kd (es[j]).at_ (es[j]).by_).1.now, .slice A3 (applyF rj.1 (es[j]).kd (es[j]).at_ (es[j]).by_).1.way.length c3] 26)).drew (w.heap.size + 1) := (((hR.alloc _).below hb2).alloc _).drew
            exact ((hR2.grown hg5 (fun e => by have h9 := (hlo _ e.symm).1; omega)).set (by simp) _).set (by simp) _
        case measure => simp [intOf]; omega
    · obtain rfl : j = es.length := by omega
      rw [List.take_length] at *
      have hj1 : ¬ (es.length : Int) < (es.length : Int) := by omega
      have y0 := cell_of_row _ _ 0 _ _ _ hg
      have y1 := cell_of_row _ _ 1 _ _ _ hg
      simp only [List.getElem?_toArray, List.getElem?_cons_zero, List.getElem?_cons_succ] at y0 y1
      obtain ⟨r0, r1, k0, k1, l0, l1⟩ := hR.cells
      have hne : w.heap.size + 1 ≠ w.heap.size := by omega
      have hne' : w.heap.size ≠ w.heap.size + 1 := by omega
      have hnR : ¬ F (w.heap.size + 1) := fun h => by rcases hF _ h with h1 | h1 <;> omega
      have hFr : ∀ b, F b → Fresh S w b := fun b h => (hF b h).imp And.left (fun h => by omega)
      have hnR' := Lib.hid hnR
      have hFr' := Lib.hid hFr
      clear hF hFo hg hnR hFr
      generalize runF n es = rj at *
      have Hown := Lib.hid hown
      have Hs := Lib.hid hs
      have hlo := hown.lt
      clear hown hs
      go_wp2_with fail
      refine bodyPost_ret (v := .tuple #[.agg #[.int .i64 rj.1.now, .slice A0 rj.1.way.length c0], .slice A1 rj.2.length c1]) (by simp [results, Try.results20, go_sem, k0, k1]) rfl ⟨A0, c0, A1, c1, rfl, ?_, ?_, (hb.setCell (by simp) _).setCell (by simp) _⟩
      · exact (Hs.out.keep (((Agree.refl _ _).set hnR'.out _).set hnR'.out _)).sub fun b hb _ => hFr'.out b hb
      · exact ((Hown.out.set (fun e => by have := (hlo _ e).1; simp at this) hnR'.out _).set (fun e => by have := (hlo _ e).1; simp at this) hnR'.out _).toSl (fun b hb _ => hFr'.out b hb) (fun b hb _ _ => .inr (by omega))
end Go.Proofs.Ytmaaniogcmlfbaa
