/-
  Contracts of the network chapter (XNet7).
-/
import Derived.Test.YtmaaniogcmlfbaaNet6
namespace Go.Proofs.Ytmaaniogcmlfbaa
open Go.RowKit

theorem gcellk {W w1 : World} {k : Nat} {row : Option Nat} (hg : W.grownBy w1 row) (hk : k ≤ W.heap.size) (hr : ∀ g, row = some g → k ≤ g) :
    (∀ b o, b < k → w1.cell? ⟨b, o, none⟩ = W.cell? ⟨b, o, none⟩) ∧ (∀ b o, b < k → w1.frozen? ⟨b, o, none⟩ = W.frozen? ⟨b, o, none⟩) :=
  ⟨fun b o h => World.cell?_of_block (hg.block b (by omega) (fun e => by have := hr b e.symm; omega)), fun b o h => World.frozen?_of_block (hg.block b (by omega) (fun e => by have := hr b e.symm; omega))⟩

theorem deleteE {S : Nat → Prop} {base n c : Nat} {A : Option Addr} {ps : List Pk} (w : World) (i : Nat) (h : Own pkE S w base 32 (.slice A n c) ps) (hS : ∀ g, (Value.slice A n c).ownBlock = some g → ¬ S g) (hn : ps.length = n) (hi : i < n) (hm : n ≤ 4294967296) :
    Calls Try.prog 34 #[.slice A n c, .int .i64 i, .int .i64 (i + 1)] w fun e w' =>
      e = .returned (.slice A (n - 1) c) ∧ Own pkE S w' base 32 (.slice A (n - 1) c) (ps.eraseIdx i) ∧ w.grownBy w' (Value.slice A n c).ownBlock := by
  subst hn
  obtain ⟨cs, hown, hel⟩ := h
  rcases hown.2 with ⟨_, hn⟩ | ⟨g, cap, cur, hv, hb, hg, _⟩
  · omega
  · injection hv with h1 h2 h3
    subst h1; subst h3
    refine (deleteP w i hown hel.one hi hm).mono fun e w' ⟨he, ho, hgr⟩ => ⟨he, ⟨cs.take (i * 4) ++ cs.drop ((i + 1) * 4), ?_, ?_⟩, hgr⟩
    · rw [List.length_eraseIdx_of_lt hi]; exact ho
    · rw [List.eraseIdx_eq_take_drop_succ]
      have hag := (Agree.refl S w).grown hgr (by rintro k ⟨⟩; exact hS g rfl)
      exact ((hel.take i).append (hel.drop (i + 1))).keep hag

set_option maxRecDepth 100000 in
set_option maxHeartbeats 400000 in
theorem remove_any {S : Nat → Prop} {g i : Nat} {n : Nt} {A : Option Addr} {c : Nat} (kd by_ : Int) (w : World) (hg : w.heap[g]? = some (.cells #[.int .i64 n.now, .slice A n.way.length c] 53 (0, 0)))
    (h : Sl pkE S w A c n.way) (hS : ¬ S g) (hi : i < n.way.length) (hl : n.way.length ≤ 4294967296) :
    Calls Try.prog 25 #[.pointer (some ⟨g, 0, none⟩), .agg #[.int .i64 kd, .int .i64 i, .int .i64 by_]] w fun e w' => e = .returned (.slice none 0 0) ∧
      ∃ A' c', w'.heap[g]? = some (.cells #[.int .i64 n.now, .slice A' (n.way.eraseIdx i).length c'] 53 (0, 0)) ∧ Sl pkE (Fresh S w) w' A' c' (n.way.eraseIdx i) ∧ w.grownBy w' (some g) := by
  have hc0 := cell_of_row w g 1 _ _ _ hg
  have hlt := heap_lt hg
  have fg : w.frozen? ⟨g, 1, none⟩ = false := by simp [World.frozen?, hg]
  simp at hc0
  have hlt1 : g < w.heap.size + 1 := by omega
  have hw1 : IntKind.i64.wrap ((i : Int) + 1) = (i : Int) + 1 := IntWalk.i64_in _ (by omega)
  have fin : ∀ A2 c2 w1 w2, Own pkE (fun b => S b ∧ b < w.heap.size) w2 (w.heap.size + 1) 32 (.slice A2 (n.way.length - 1) c2) (n.way.eraseIdx i) → Below w.heap.size w w1 → Below w.heap.size w1 w2 →
      ∃ A' c', (w2.setCell ⟨g, 1, none⟩ (.slice A2 (n.way.length - 1) c2)).heap[g]? = some (.cells #[.int .i64 n.now, .slice A' (n.way.eraseIdx i).length c'] 53 (0, 0)) ∧
        Sl pkE (Fresh S w) (w2.setCell ⟨g, 1, none⟩ (.slice A2 (n.way.length - 1) c2)) A' c' (n.way.eraseIdx i) ∧ w.grownBy (w2.setCell ⟨g, 1, none⟩ (.slice A2 (n.way.length - 1) c2)) (some g) := by
    intro A2 c2 w1 w2 hown2 hb1 hb2
    have e1 : n.way.length - 1 = (n.way.eraseIdx i).length := by rw [List.length_eraseIdx_of_lt hi]
    have hb := hb1.trans hb2
    refine ⟨A2, c2, by rw [← e1]; exact heap_set (i := 1) ((hb.block g hlt).trans hg), ?_, grown_set (hb.toGrown' _) _ _⟩
    rw [e1] at hown2 ⊢
    exact (hown2.keep (w' := w2.setCell ⟨g, 1, none⟩ (.slice A2 (n.way.eraseIdx i).length c2)) ((Agree.refl _ _).set (by rintro ⟨h1, _⟩; exact hS h1) _) (fun k hk => Below.heap_setCell _ _ _ _ (by have := (hown2.lt k hk).1; simp; omega))).sl (fun b hb _ => .inl hb.1) (fun b hb _ => .inr (by omega))
  have Fin := Lib.hid fin
  clear fin
  have Hg := Lib.hid hg
  clear hg
  go_enter Try.func25, Try.ntmps25
  go_wp2_with fail
  go_region_law (first
    | (go_simp; go_at_call 35; refine (cloneP (S := fun b => S b ∧ b < w.heap.size) _ (h.old.keep (((Agree.refl _ _).alloc _).drew)) hl).mono ?_; rintro e w1 ⟨A1, c1, rfl, hown1, hb1⟩; obtain ⟨hc1, hf1⟩ := bcellk (k := w.heap.size + 1) hb1 (by simp))
    | (go_simp; go_at_call 34; refine (deleteE _ i hown1 (fun k hk hs => (by have h1 := (hown1.lt k hk).1; have h2 := hs.2; simp at h1; omega)) rfl hi hl).mono ?_; rintro e w2 ⟨rfl, hown2, hg2⟩; obtain ⟨hc2, hf2⟩ := gcellk (k := w.heap.size + 1) hg2 (by have := hb1.size; simp at this; omega) (fun k hk => (by have h1 := (hown1.lt k hk).1; simp at h1; omega))))
  all_goals
    go_wp2_with fail
    go_ret
    exact ⟨rfl, Fin.out _ _ w1 _ (hown2.lower (by simp)) (((Below.refl _ _).alloc (Nat.le_refl _) _).drew.trans (hb1.mono (by simp))) ((Below.refl _ _).grown hg2 (by have := hb1.size; simp at this; omega) (fun k hk => by have h1 := (hown1.lt k hk).1; simp at h1; omega))⟩
end Go.Proofs.Ytmaaniogcmlfbaa
