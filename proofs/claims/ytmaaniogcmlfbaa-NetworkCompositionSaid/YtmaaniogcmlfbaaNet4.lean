/-
  Contracts of the network chapter (XNet4).
-/
import Derived.Test.YtmaaniogcmlfbaaNet3
namespace Go.Proofs.Ytmaaniogcmlfbaa
open Go.RowKit

set_option maxRecDepth 100000 in
set_option maxHeartbeats 400000 in
theorem without_any {S : Nat → Prop} {A : Option Addr} {c i : Nat} {n : Nt} (w : World) (h : Sl pkE S w A c n.way) (hi : i < n.way.length) (hw : n.way.length ≤ 4294967296) :
    Calls Try.prog 29 #[.agg #[.int .i64 n.now, .slice A n.way.length c], .int .i64 i] w fun e w' =>
      ∃ A' c', e = .returned (.agg #[.int .i64 n.now, .slice A' (n.way.eraseIdx i).length c']) ∧ Sl pkE (Fresh S w) w' A' c' (n.way.eraseIdx i) ∧ Below w.heap.size w w' := by
  have h1 := h.le
  have h2 := h.capMax
  have hi0 : (0 : Int) ≤ (i : Int) + 1 := by omega
  have hin : (i : Int) + 1 ≤ (n.way.length : Int) := by omega
  have hw1 : IntKind.i64.wrap ((i : Int) + 1) = (i : Int) + 1 := IntWalk.i64_in _ (by omega)
  have k0 : Keep (w.heap.size + 2) [(w.heap.size + 1, 2)] ((w.alloc (.cells #[.int .i64 n.now, .slice A n.way.length c] 26)).alloc (.cells #[.int .i64 0, .slice none 0 0] 26)) ((w.alloc (.cells #[.int .i64 n.now, .slice A n.way.length c] 26)).alloc (.cells #[.int .i64 0, .slice none 0 0] 26)) := Keep.start1 (by simp) rfl rfl
  go_enter Try.func29, Try.ntmps29
  go_wp2_with (at_builtin; refine wpList_append_E rfl (.tmp 6) (.tmp 10) rfl pksT (base := w.heap.size + 2) (v := .slice (some ⟨w.heap.size + 2, 0, none⟩) 0 0) rfl rfl (List.length_take_of_le (Nat.le_of_lt hi)) (nz := i) (List.length_take_of_le (Nat.le_of_lt hi)) (Own.litAt pkE _ _ _ (by simp) (by omega)) ((h.take i).old.keep ((Agree.refl _ _).alloc _ |>.alloc _ |>.alloc _)) (by unfold maxLen; simp; omega) (by simp; omega) (by simp <;> omega) (by rintro g ⟨⟩ hg; have h2 : w.heap.size + 2 < w.heap.size := hg.2; omega) ?_; intro A1 c1 w1 hown1 hg1 _)
  have hb0 : Below w.heap.size w w1 := (by repeat' (first | with_reducible exact Below.refl _ _ | with_reducible assumption | with_reducible refine Below.grown ?_ hg1 ?_ ?_ | with_reducible refine Below.setCell ?_ ?_ _ | with_reducible refine Below.drew ?_ | with_reducible refine below_drewN ?_ _ | with_reducible refine Below.alloc ?_ ?_ _ | (rintro _ ⟨⟩; simp <;> omega) | omega | (simp <;> omega)))
  have k1 : Keep (w.heap.size + 2) [(w.heap.size + 1, 2)] ((w.alloc (.cells #[.int .i64 n.now, .slice A n.way.length c] 26)).alloc (.cells #[.int .i64 0, .slice none 0 0] 26)) w1 := (k0.alloc _).grown hg1 (by rintro _ ⟨⟩; simp)
  clear k0
  have hz1 := k1.le
  have r1 := Keep.cell (w.heap.size + 2) [(w.heap.size + 1, 2)] ((w.alloc (.cells #[.int .i64 n.now, .slice A n.way.length c] 26)).alloc (.cells #[.int .i64 0, .slice none 0 0] 26))
  have r2 := Keep.frozen (w.heap.size + 2) [(w.heap.size + 1, 2)] ((w.alloc (.cells #[.int .i64 n.now, .slice A n.way.length c] 26)).alloc (.cells #[.int .i64 0, .slice none 0 0] 26))
  have r3 := Keep.boxCell (w.heap.size + 2) [(w.heap.size + 1, 2)] ((w.alloc (.cells #[.int .i64 n.now, .slice A n.way.length c] 26)).alloc (.cells #[.int .i64 0, .slice none 0 0] 26))
  have r4 := Keep.boxFrozen (w.heap.size + 2) [(w.heap.size + 1, 2)] ((w.alloc (.cells #[.int .i64 n.now, .slice A n.way.length c] 26)).alloc (.cells #[.int .i64 0, .slice none 0 0] 26))
  go_region_held3 (fun W => Keep (w.heap.size + 2) [(w.heap.size + 1, 2)] ((w.alloc (.cells #[.int .i64 n.now, .slice A n.way.length c] 26)).alloc (.cells #[.int .i64 0, .slice none 0 0] 26)) W) (first | exact Keep.grown (by assumption) hg2 (fun g hg => (by have := hown1.lt g hg; simp; omega)) | (repeat' (first | with_reducible assumption | with_reducible refine Keep.alloc ?_ _ | with_reducible refine Keep.drew ?_ | with_reducible refine Keep.call ?_ (by assumption) | with_reducible refine Keep.set ?_ ?_ _ | (simp; done) | omega | (simp <;> omega))))
    (first
      | (refine step_append_E (S := fun b => S b ∧ b < w.heap.size) rfl (.tmp 14) (.tmp 19) rfl pksT (base := w.heap.size + 2) rfl rfl (List.length_drop) (nz := n.way.length - 1) (by simp; omega) hown1.drew ((h.drop (k := i + 1) (by omega)).old.keep (Below.agree hb0).drew) (by unfold maxLen; simp; omega) (by simp; omega) hz1 (fun g hg hs => (by have := hown1.lt g hg; have := hs.2; omega)) ?_; intro A2 c2 w2 hown2 hg2 _))
  go_wp2_with fail
  all_goals
    have k2 : Keep (w.heap.size + 2) [(w.heap.size + 1, 2)] ((w.alloc (.cells #[.int .i64 n.now, .slice A n.way.length c] 26)).alloc (.cells #[.int .i64 0, .slice none 0 0] 26)) w2 := k1.drew.grown hg2 fun g hg => (by have := hown1.lt g hg; simp; omega)
    have hlt := hown1.lt
    have e1 : [] ++ n.way.take i ++ n.way.drop (i + 1) = n.way.eraseIdx i := by rw [List.eraseIdx_eq_take_drop_succ]; rfl
    have e2 : n.way.length - 1 = (n.way.eraseIdx i).length := by rw [List.length_eraseIdx_of_lt hi]
    rw [e1, e2] at hown2
    refine bodyPost_ret (v := .agg #[.int .i64 n.now, .slice A2 (n.way.length - 1) c2]) (by simp [results, Try.results29, go_sem, r3, k2]) rfl ⟨A2, c2, by rw [e2], ?_, ?_⟩
    · refine (hown2.only (g := w.heap.size + 1) (by repeat' (first | with_reducible exact Agree.refl _ _ | with_reducible assumption | with_reducible refine Agree.set ?_ ?_ _ | with_reducible refine Agree.alloc ?_ _ | with_reducible refine Agree.drew ?_ | with_reducible refine Agree.drewN ?_ _ | omega | (simp <;> omega))) (by omega) (by simp)).sl (fun b hb _ => .inl hb.1) (fun b hb _ => .inr (by omega))
    · exact (by repeat' (first | with_reducible exact hb0 | with_reducible refine Below.setCell ?_ ?_ _ | with_reducible refine Below.grown ?_ hg2 ?_ ?_ | with_reducible refine Below.alloc ?_ ?_ _ | with_reducible refine Below.drew ?_ | (intro g hg; have := hlt g hg; omega) | omega | (simp <;> omega)))
end Go.Proofs.Ytmaaniogcmlfbaa
