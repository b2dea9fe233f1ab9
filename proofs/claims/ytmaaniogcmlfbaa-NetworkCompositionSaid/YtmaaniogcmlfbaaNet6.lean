/-
  Contracts of the network chapter (XNet6).
-/
import Derived.Test.YtmaaniogcmlfbaaNet4
import Derived.Test.YtmaaniogcmlfbaaKeep
import Derived.Deep.LoopGhost
namespace Go.Proofs.Ytmaaniogcmlfbaa
open Go.RowKit

/-- Where the state of an event lies: block g holds the tick and the packets. -/
def St (w : World) (g : Nat) (S : Nat → Prop) (n : Nt) : Prop :=
  ∃ A c, w.heap[g]? = some (.cells #[.int .i64 n.now, .slice A n.way.length c] 53 (0, 0)) ∧ Sl pkE S w A c n.way ∧ ¬ S g
/-- What a call on the state in block g may do: write that block, and make new ones. -/
def Only (g : Nat) (w w' : World) : Prop := w.grownBy w' (some g)

set_option maxRecDepth 100000 in
set_option maxHeartbeats 400000 in
theorem add_full {g : Nat} {n : Nt} {A : Option Addr} {c : Nat} (v0 v1 v2 v3 : Value) (w : World) (hg : w.heap[g]? = some (.cells #[.int .i64 n.now, .slice A n.way.length c] 53 (0, 0)))
    (hn : 512 ≤ n.way.length) :
    Calls Try.prog 23 #[.pointer (some ⟨g, 0, none⟩), .agg #[v0, v1, v2, v3]] w fun e w' => e = .returned (.tuple #[]) ∧ Below w.heap.size w w' := by
  have hc := cell_of_row w g 1 _ _ _ hg
  have hlt := heap_lt hg
  have hn' : ¬ (n.way.length : Int) < 512 := by omega
  simp at hc
  go_enter Try.func23, Try.ntmps23
  go_wp2_with fail
  go_end0
  exact ⟨rfl, (by repeat' (first | with_reducible exact Below.refl _ _ | with_reducible assumption | with_reducible refine Below.setCell ?_ ?_ _ | with_reducible refine Below.drew ?_ | with_reducible refine below_drewN ?_ _ | with_reducible refine Below.alloc ?_ ?_ _ | (rintro _ ⟨⟩; simp <;> omega) | omega | (simp <;> omega)))⟩

set_option maxRecDepth 100000 in
set_option maxHeartbeats 400000 in
theorem add_room {S : Nat → Prop} {g : Nat} {n : Nt} {p : Pk} {A B : Option Addr} {c d : Nat} (w : World) (hg : w.heap[g]? = some (.cells #[.int .i64 n.now, .slice A n.way.length c] 53 (0, 0)))
    (h : Sl pkE S w A c n.way) (hS : ¬ S g) (hp : Sl .u8 S w B d p.b) (hn : n.way.length < 512) (hl : p.b.length ≤ 4294967296) :
    Calls Try.prog 23 #[.pointer (some ⟨g, 0, none⟩), .agg #[.int .i64 p.fr, .int .i64 p.to_, .int .i64 p.at_, .slice B p.b.length d]] w fun e w' => e = .returned (.tuple #[]) ∧
      ∃ A' c', w'.heap[g]? = some (.cells #[.int .i64 n.now, .slice A' (n.way ++ [p]).length c'] 53 (0, 0)) ∧ Sl pkE (Fresh S w) w' A' c' (n.way ++ [p]) ∧ w.grownBy w' (some g) := by
  have hc := cell_of_row w g 1 _ _ _ hg
  have hlt := heap_lt hg
  have hn' : (n.way.length : Int) < 512 := by omega
  simp at hc
  go_enter Try.func23, Try.ntmps23
  go_wp2_with (go_at_call 32; refine (cloneB (S := fun b => S b ∧ b < w.heap.size) _ (hp.old.keep ((Agree.refl _ _).alloc _)) hl).mono ?_; rintro e w1 ⟨A1, c1, rfl, hown1, hb1⟩; obtain ⟨hc1, hf1⟩ := bcellk (k := w.heap.size + 1) hb1 (by simp); have hz1 : w.heap.size < w1.heap.size := by have := hb1.size; simp at this; omega)
  generalize hW2 : w1.setCell ⟨w.heap.size, 3, none⟩ (.slice A1 p.b.length c1) = W2
  have hlt1 : g < w.heap.size + 1 := by omega
  have hne : w.heap.size ≠ g := by omega
  have x0 : W2.cell? ⟨w.heap.size, 0, none⟩ = some (.int .i64 p.fr) := by rw [← hW2]; simp [go_sem, hc1]
  have x1 : W2.cell? ⟨w.heap.size, 1, none⟩ = some (.int .i64 p.to_) := by rw [← hW2]; simp [go_sem, hc1]
  have x2 : W2.cell? ⟨w.heap.size, 2, none⟩ = some (.int .i64 p.at_) := by rw [← hW2]; simp [go_sem, hc1]
  have x3 : W2.cell? ⟨w.heap.size, 3, none⟩ = some (.slice A1 p.b.length c1) := by rw [← hW2]; simp [go_sem, hc1]
  have xg : W2.cell? ⟨g, 1, none⟩ = some (.slice A n.way.length c) := by rw [← hW2]; simp [go_sem, hc1, hlt1, hc, hlt]
  have hbW : Below w.heap.size w W2 := by rw [← hW2]; exact (by repeat' (first | with_reducible exact Below.refl _ _ | with_reducible assumption | with_reducible refine Below.trans ?_ (Below.mono hb1 ?_) | with_reducible refine Below.setCell ?_ ?_ _ | with_reducible refine Below.drew ?_ | with_reducible refine below_drewN ?_ _ | with_reducible refine Below.alloc ?_ ?_ _ | (rintro _ ⟨⟩; simp <;> omega) | omega | (simp <;> omega)))
  have hz2 : w.heap.size + 1 ≤ W2.heap.size := by rw [← hW2]; simp [World.setCell]; omega
  have hgW : g < W2.heap.size := by omega
  have hbg : W2.heap[g]? = some (.cells #[.int .i64 n.now, .slice A n.way.length c] 53 (0, 0)) := (hbW.block g hlt).trans hg
  have fg : W2.frozen? ⟨g, 1, none⟩ = false := by simp [World.frozen?, hbg]
  have hway : Sl pkE S W2 A c n.way := h.keep (Below.agree hbW)
  have hb2 : Sl .u8 (fun b => w.heap.size < b) W2 A1 c1 p.b := by
    exact ((hown1.u8any (T := fun b => w.heap.size < b)).only (g := w.heap.size) (w' := W2) (by rw [← hW2]; exact (by repeat' (first | with_reducible exact Agree.refl _ _ | with_reducible assumption | with_reducible refine Agree.set ?_ ?_ _ | with_reducible refine Agree.alloc ?_ _ | with_reducible refine Agree.drew ?_ | with_reducible refine Agree.drewN ?_ _ | omega | (simp <;> omega)))) (by simp) (Nat.lt_irrefl _)).sl (fun _ hb _ => hb) (fun b hb _ => by simp at hb; omega)
  have Hbg := Lib.hid hbg
  have HbW := Lib.hid hbW
  clear hbg hbW
  clear hc1 hf1 hz1 hc
  have HW := Lib.hid hW2
  have H1 := Lib.hid (hway.clip.sub (T := fun b => S b ∨ w.heap.size < b) fun _ hb _ => .inl hb)
  have H2 := Lib.hid hb2
  have fin : ∀ A3 c3 w3 B3, Own pkE (fun b => S b ∨ w.heap.size < b) w3 B3 32 (.slice A3 (n.way.length + 1) c3) (n.way ++ [p]) → Below W2.heap.size W2 w3 → W2.heap.size ≤ B3 →
      ∃ A' c', (w3.setCell ⟨g, 1, none⟩ (.slice A3 (n.way.length + 1) c3)).heap[g]? = some (.cells #[.int .i64 n.now, .slice A' (n.way ++ [p]).length c'] 53 (0, 0)) ∧
        Sl pkE (Fresh S w) (w3.setCell ⟨g, 1, none⟩ (.slice A3 (n.way.length + 1) c3)) A' c' (n.way ++ [p]) ∧ w.grownBy (w3.setCell ⟨g, 1, none⟩ (.slice A3 (n.way.length + 1) c3)) (some g) := by
    intro A3 c3 w3 B3 hown3' hb4 hB3
    have hown3 : Own pkE (fun b => S b ∨ w.heap.size < b) w3 B3 32 (.slice A3 (n.way ++ [p]).length c3) (n.way ++ [p]) := by rw [List.length_append]; exact hown3'
    refine ⟨A3, c3, by rw [List.length_append]; exact heap_set (i := 1) ((hb4.block g hgW).trans Hbg.out), ?_, grown_set ((HbW.out.trans (hb4.mono HbW.out.size)).toGrown' _) _ _⟩
    refine ((((hown3.sl (T := fun b => (S b ∧ b ≠ g) ∨ w.heap.size ≤ b) (fun b hb _ => ?_) (fun b hb _ => .inr (by omega))).only (g := g) (by repeat' (first | with_reducible exact Agree.refl _ _ | with_reducible assumption | with_reducible refine Agree.set ?_ ?_ _ | with_reducible refine Agree.alloc ?_ _ | with_reducible refine Agree.drew ?_ | with_reducible refine Agree.drewN ?_ _ | omega | (simp <;> omega))) (by rintro (h1 | h1); exact h1.2 rfl; omega)).sub fun b hb _ => ?_))
    · rcases hb with hb | hb
      · exact .inl ⟨hb, fun e => hS (e ▸ hb)⟩
      · exact .inr (by omega)
    · rcases hb with hb | hb
      · exact .inl hb.1
      · exact .inr hb
  have Fin := Lib.hid fin
  clear fin
  have hle := hway.le
  have hz3 : w.heap.size < W2.heap.size := by omega
  clear hW2
  go_region_law (first
    | (go_simp; go_at_call 33; refine (clipP _ hle).mono ?_; rintro e w3 ⟨rfl, rfl⟩)
    | (refine step_append_full rfl (.tmp 21) (.tmp 23) rfl pksT (S := fun b => S b ∨ w.heap.size < b) (ys := [p]) rfl rfl rfl rfl (nz := n.way.length + 1) (by simp) (H1.out.keep (by first | exact (Agree.refl _ _).drew.alloc _ | exact ((Agree.refl _ _).alloc _).drew)) (Sl.lit (.single (pkE_shut H2.out.drew)) (by unfold maxLen; simp) (fun _ hb _ => .inr hb) (.inr hz3)) (by simp) (by unfold maxLen; simp; omega) (by simp; omega) ?_; intro A3 c3 w3 hown3 hb3; obtain ⟨hc3, hf3⟩ := bcellk (k := w.heap.size + 1) hb3 (by simp; omega)))
  all_goals
    go_end0
    exact ⟨rfl, Fin.out _ _ _ _ hown3 (((Below.refl _ _).drew.alloc (Nat.le_refl _) _).trans (hb3.mono (by simp))) (by simp [go_sem])⟩
end Go.Proofs.Ytmaaniogcmlfbaa
