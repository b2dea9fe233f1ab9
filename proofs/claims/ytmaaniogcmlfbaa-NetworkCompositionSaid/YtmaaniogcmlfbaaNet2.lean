/-
  Contracts of the network chapter (XNet2).
-/
import Derived.Test.YtmaaniogcmlfbaaNet1
import Derived.Handy
namespace Go.Proofs.Ytmaaniogcmlfbaa
open Go.RowKit

set_option maxHeartbeats 400000 in
theorem copied_any {S : Nat → Prop} {A : Option Addr} {c : Nat} {l : List UInt8} (x y z : Int) (w : World) (h : Sl .u8 S w A c l) (hl : l.length ≤ 4294967296) :
    Calls Try.prog 30 #[.agg #[.int .i64 x, .int .i64 y, .int .i64 z, .slice A l.length c]] w fun e w' =>
      ∃ A' c', e = .returned (.agg #[.int .i64 x, .int .i64 y, .int .i64 z, .slice A' l.length c']) ∧ Own .u8 S w' w.heap.size 5 (.slice A' l.length c') l ∧ Below w.heap.size w w' := by
  go_enter Try.func30, Try.ntmps30
  go_wp2_with fail
  go_region_held3 (fun W => W.cell? ⟨w.heap.size, 0, none⟩ = some (.int .i64 x) ∧ W.cell? ⟨w.heap.size, 1, none⟩ = some (.int .i64 y) ∧ W.cell? ⟨w.heap.size, 2, none⟩ = some (.int .i64 z) ∧ W.cell? ⟨w.heap.size, 3, none⟩ = some (.slice A l.length c)) (go_keep)
    (first | (refine step_append_E rfl (.tmp 9) (.tmp 11) rfl bytesT (base := w.heap.size + 2) (v := .slice (some ⟨w.heap.size + 2, 0, none⟩) 0 0) rfl rfl rfl rfl (Own.litAt Enc.u8 _ _ _ (by simp) (by omega)).drew (h.old.keep ((Agree.refl _ _).alloc _ |>.alloc _ |>.alloc _ |>.drew)) (by unfold maxLen; simp; omega) (by simp; omega) (by simp <;> omega) (by rintro g ⟨⟩ hg; have h2 : w.heap.size + 2 < w.heap.size := hg.2; omega) ?_; intro A1 c1 w1 hown1 hg1 _; obtain ⟨hc1, hf1⟩ := gcell hg1 (by simp)))
  go_wp2_with fail
  refine bodyPost_ret (v := .agg #[.int .i64 x, .int .i64 y, .int .i64 z, .slice A1 l.length c1]) (by simp [results, Try.results30, go_sem, hc1]) rfl ⟨A1, c1, rfl, ?_, ?_⟩
  · exact ((hown1.only (g := w.heap.size + 1) (by repeat' (first | with_reducible exact Agree.refl _ _ | with_reducible assumption | with_reducible refine Agree.set ?_ ?_ _ | with_reducible refine Agree.alloc ?_ _ | with_reducible refine Agree.drew ?_ | with_reducible refine Agree.drewN ?_ _ | omega | (simp <;> omega))) (by omega) (by intro h1; have := h1.2; omega)).sub fun _ hb _ => hb.1).lower (by omega)
  · exact (by repeat' (first | with_reducible exact Below.refl _ _ | with_reducible assumption | with_reducible refine Below.grown ?_ hg1 ?_ ?_ | with_reducible refine Below.setCell ?_ ?_ _ | with_reducible refine Below.drew ?_ | with_reducible refine below_drewN ?_ _ | with_reducible refine Below.alloc ?_ ?_ _ | (rintro _ ⟨⟩; simp <;> omega) | omega | (simp <;> omega)))
end Go.Proofs.Ytmaaniogcmlfbaa
