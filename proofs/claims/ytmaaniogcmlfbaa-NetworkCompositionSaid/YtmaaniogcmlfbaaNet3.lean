/-
  Contracts of the network chapter (XNet3).
-/
import Derived.Test.YtmaaniogcmlfbaaNet2
namespace Go.Proofs.Ytmaaniogcmlfbaa
open Go.RowKit



set_option maxRecDepth 100000 in
set_option maxHeartbeats 400000 in
theorem with_room {S : Nat → Prop} {A B : Option Addr} {c d : Nat} {n : Nt} {p : Pk} (w : World) (h : Sl pkE S w A c n.way) (hp : Sl .u8 S w B d p.b) (hw : n.way.length < 512) (hl : p.b.length ≤ 4294967296) :
    Calls Try.prog 28 #[.agg #[.int .i64 n.now, .slice A n.way.length c], .agg #[.int .i64 p.fr, .int .i64 p.to_, .int .i64 p.at_, .slice B p.b.length d]] w fun e w' =>
      ∃ A' c', e = .returned (.agg #[.int .i64 n.now, .slice A' (n.way ++ [p]).length c']) ∧ Sl pkE (Fresh S w) w' A' c' (n.way ++ [p]) ∧ Below w.heap.size w w' := by
  have hw' : ¬ (512 : Int) ≤ (n.way.length : Int) := by omega
  have k0 : Keep (w.heap.size + 3) [(w.heap.size + 2, 2)] (((w.alloc (.cells #[.int .i64 n.now, .slice A n.way.length c] 26)).alloc (.cells #[.int .i64 p.fr, .int .i64 p.to_, .int .i64 p.at_, .slice B p.b.length d] 32)).alloc (.cells #[.int .i64 0, .slice none 0 0] 26)) (((w.alloc (.cells #[.int .i64 n.now, .slice A n.way.length c] 26)).alloc (.cells #[.int .i64 p.fr, .int .i64 p.to_, .int .i64 p.at_, .slice B p.b.length d] 32)).alloc (.cells #[.int .i64 0, .slice none 0 0] 26)) := Keep.start1 (by simp) rfl rfl
  go_enter Try.func28, Try.ntmps28
  go_wp2_with (at_builtin; refine wpList_append_E rfl (.tmp 11) (.tmp 13) rfl pksT (base := w.heap.size + 3) (v := .slice (some ⟨w.heap.size + 3, 0, none⟩) 0 0) rfl rfl rfl rfl (Own.litAt pkE _ _ _ (by simp) (by omega)) (h.old.keep ((Agree.refl _ _).alloc _ |>.alloc _ |>.alloc _ |>.alloc _)) (by unfold maxLen; simp; omega) (by simp; omega) (by simp <;> omega) (by rintro g ⟨⟩ hg; have h2 : w.heap.size + 3 < w.heap.size := hg.2; omega) ?_; intro A1 c1 w1 hown1 hg1 _)
  have hb0 : Below w.heap.size w w1 := (by repeat' (first | with_reducible exact Below.refl _ _ | with_reducible assumption | with_reducible refine Below.grown ?_ hg1 ?_ ?_ | with_reducible refine Below.setCell ?_ ?_ _ | with_reducible refine Below.drew ?_ | with_reducible refine below_drewN ?_ _ | with_reducible refine Below.alloc ?_ ?_ _ | (rintro _ ⟨⟩; simp <;> omega) | omega | (simp <;> omega)))
  have k1 : Keep (w.heap.size + 3) [(w.heap.size + 2, 2)] (((w.alloc (.cells #[.int .i64 n.now, .slice A n.way.length c] 26)).alloc (.cells #[.int .i64 p.fr, .int .i64 p.to_, .int .i64 p.at_, .slice B p.b.length d] 32)).alloc (.cells #[.int .i64 0, .slice none 0 0] 26)) w1 := (k0.alloc _).grown hg1 (by rintro _ ⟨⟩; simp)
  clear k0
  have hz1 := k1.le
  have r1 := Keep.cell (w.heap.size + 3) [(w.heap.size + 2, 2)] (((w.alloc (.cells #[.int .i64 n.now, .slice A n.way.length c] 26)).alloc (.cells #[.int .i64 p.fr, .int .i64 p.to_, .int .i64 p.at_, .slice B p.b.length d] 32)).alloc (.cells #[.int .i64 0, .slice none 0 0] 26))
  have r2 := Keep.frozen (w.heap.size + 3) [(w.heap.size + 2, 2)] (((w.alloc (.cells #[.int .i64 n.now, .slice A n.way.length c] 26)).alloc (.cells #[.int .i64 p.fr, .int .i64 p.to_, .int .i64 p.at_, .slice B p.b.length d] 32)).alloc (.cells #[.int .i64 0, .slice none 0 0] 26))
  have r3 := Keep.boxCell (w.heap.size + 3) [(w.heap.size + 2, 2)] (((w.alloc (.cells #[.int .i64 n.now, .slice A n.way.length c] 26)).alloc (.cells #[.int .i64 p.fr, .int .i64 p.to_, .int .i64 p.at_, .slice B p.b.length d] 32)).alloc (.cells #[.int .i64 0, .slice none 0 0] 26))
  have r4 := Keep.boxFrozen (w.heap.size + 3) [(w.heap.size + 2, 2)] (((w.alloc (.cells #[.int .i64 n.now, .slice A n.way.length c] 26)).alloc (.cells #[.int .i64 p.fr, .int .i64 p.to_, .int .i64 p.at_, .slice B p.b.length d] 32)).alloc (.cells #[.int .i64 0, .slice none 0 0] 26))
  go_region_held3 (fun W => Keep (w.heap.size + 3) [(w.heap.size + 2, 2)] (((w.alloc (.cells #[.int .i64 n.now, .slice A n.way.length c] 26)).alloc (.cells #[.int .i64 p.fr, .int .i64 p.to_, .int .i64 p.at_, .slice B p.b.length d] 32)).alloc (.cells #[.int .i64 0, .slice none 0 0] 26)) W) (first | exact Keep.grown (by assumption) hg3 (fun g hg => (by have := hown1.lt g hg; simp; omega)) | (repeat' (first | with_reducible assumption | with_reducible refine Keep.alloc ?_ _ | with_reducible refine Keep.drew ?_ | with_reducible refine Keep.call ?_ (by assumption) | with_reducible refine Keep.set ?_ ?_ _ | (simp; done) | omega | (simp <;> omega))))
    (first
      | (go_at_call 30; refine (copied_any (S := fun b => S b ∧ b < w.heap.size) _ _ _ _ (hp.old.keep (Below.agree hb0).drew) hl).mono ?_; rintro e w2 ⟨A2, c2, rfl, hown2, hb2⟩)
      | (refine step_append_E (S := fun b => (S b ∧ b < w.heap.size) ∨ w1.heap.size ≤ b) rfl (.tmp 17) (.tmp 20) rfl pksT (base := w.heap.size + 3) (ys := [p]) rfl rfl rfl rfl (((hown1.sub fun _ hb _ => .inl hb).drew.call hb2).alloc _) (Sl.lit (.single (pkE_shut (hown2.sl (fun _ hb _ => .inl hb) (fun _ hb _ => .inr hb)))) (by unfold maxLen; simp) (fun _ hb _ => hb) (.inr hb2.size)) (by unfold maxLen; simp; omega) (by simp; omega) (by have := hb2.size; simp at this ⊢; omega) (fun g hg hs => (by have := hown1.lt g hg; rcases hs with ⟨_, h⟩ | h <;> omega)) ?_; intro A3 c3 w3 hown3 hg3 _))
  go_wp2_with fail
  have k3 : Keep (w.heap.size + 3) [(w.heap.size + 2, 2)] (((w.alloc (.cells #[.int .i64 n.now, .slice A n.way.length c] 26)).alloc (.cells #[.int .i64 p.fr, .int .i64 p.to_, .int .i64 p.at_, .slice B p.b.length d] 32)).alloc (.cells #[.int .i64 0, .slice none 0 0] 26)) w3 := ((k1.drew.call hb2).alloc _).grown hg3 fun g hg => (by have := hown1.lt g hg; simp; omega)
  have hlt := hown1.lt
  have hz2 : w1.heap.size ≤ w2.heap.size := hb2.size
  refine bodyPost_ret (v := .agg #[.int .i64 n.now, .slice A3 (n.way ++ [p]).length c3]) (by simp [results, Try.results28, go_sem, r3, k3]) rfl ⟨A3, c3, rfl, ?_, ?_⟩
  · refine (hown3.only (g := w.heap.size + 2) (by repeat' (first | with_reducible exact Agree.refl _ _ | with_reducible assumption | with_reducible refine Agree.set ?_ ?_ _ | with_reducible refine Agree.alloc ?_ _ | with_reducible refine Agree.drew ?_ | with_reducible refine Agree.drewN ?_ _ | omega | (simp <;> omega))) (by omega) (by simp; omega)).sl (fun b hb _ => ?_) (fun b hb _ => .inr (by omega))
    rcases hb with hb | hb
    · exact .inl hb.1
    · exact .inr (by omega)
  · exact (by repeat' (first | with_reducible exact hb0 | with_reducible refine Below.setCell ?_ ?_ _ | with_reducible refine Below.grown ?_ hg3 ?_ ?_ | with_reducible refine Below.alloc ?_ ?_ _ | with_reducible refine Below.trans ?_ (Below.mono hb2 ?_) | with_reducible refine Below.drew ?_ | (intro g hg; have := hlt g hg; omega) | omega | (simp <;> omega)))
end Go.Proofs.Ytmaaniogcmlfbaa
