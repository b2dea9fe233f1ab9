/-
  Contracts of the network chapter (XNet8).
-/
import Derived.Test.YtmaaniogcmlfbaaNet7
namespace Go.Proofs.Ytmaaniogcmlfbaa
open Go.RowKit


set_option maxRecDepth 100000 in
set_option maxHeartbeats 400000 in
theorem deliver_no {S : Nat → Prop} {g i : Nat} {n : Nt} {p : Pk} {A : Option Addr} {c : Nat} (kd by_ : Int) (w : World) (hg : w.heap[g]? = some (.cells #[.int .i64 n.now, .slice A n.way.length c] 53 (0, 0)))
    (h : Sl pkE S w A c n.way) (hi : n.way[i]? = some p) (hp : ¬ p.at_ ≤ n.now) :
    Calls Try.prog 24 #[.pointer (some ⟨g, 0, none⟩), .agg #[.int .i64 kd, .int .i64 i, .int .i64 by_]] w fun e w' => e = .returned (.slice none 0 0) ∧ Below w.heap.size w w' := by
  have hc0 := cell_of_row w g 0 _ _ _ hg
  have hc1 := cell_of_row w g 1 _ _ _ hg
  have hlt := heap_lt hg
  simp at hc0 hc1
  have hil := (List.getElem?_eq_some_iff.1 hi).1
  obtain ⟨b1, o1, B1, d1, rfl, _, hb1, x0, x1, x2, x3, hs1⟩ := pk_at h hi
  clear hg hi h hs1
  have hj0 : (0 : Int) ≤ (i : Int) := by omega
  have hj1 : (i : Int) < (n.way.length : Int) := by omega
  have hlt1 : g < w.heap.size + 1 := by omega
  have hp' : n.now < p.at_ := by omega
  go_enter Try.func24, Try.ntmps24
  go_wp2_with fail
  go_region_held3 (fun W => W.cell? ⟨g, 1, none⟩ = some (.slice (some ⟨b1, o1, none⟩) n.way.length c) ∧ W.cell? ⟨w.heap.size, 1, none⟩ = some (.int .i64 i) ∧ W.cell? ⟨b1, o1 + i * 4, none⟩ = some (.int .i64 p.fr) ∧ W.cell? ⟨b1, o1 + i * 4 + 1, none⟩ = some (.int .i64 p.to_) ∧ W.cell? ⟨b1, o1 + i * 4 + 2, none⟩ = some (.int .i64 p.at_) ∧ W.cell? ⟨b1, o1 + i * 4 + 3, none⟩ = some (.slice B1 p.b.length d1)) (first | go_keep | (simp [*, go_sem])) (fail)
  go_wp2_with fail
  go_quiet (fail)
  go_wp2_with fail
  go_ret
  exact ⟨rfl, (by repeat' (first | with_reducible exact Below.refl _ _ | with_reducible assumption | with_reducible refine Below.setCell ?_ ?_ _ | with_reducible refine Below.drew ?_ | with_reducible refine below_drewN ?_ _ | with_reducible refine Below.alloc ?_ ?_ _ | (rintro _ ⟨⟩; simp <;> omega) | omega | (simp <;> omega)))⟩

theorem grown_alloc {w w' : World} {row : Option Nat} (h : w.grownBy w' row) (o : Obj) : w.grownBy (w'.alloc o) row :=
  ⟨h.os, h.tape, h.output, Nat.le_trans h.size (by simp), fun k hk hne => (Below.heap_alloc _ _ _ (Nat.lt_of_lt_of_le hk h.size)).trans (h.block k hk hne)⟩
theorem ocell {W w1 : World} {g : Nat} (hg : W.grownBy w1 (some g)) :
    (∀ b o, b < W.heap.size → b ≠ g → w1.cell? ⟨b, o, none⟩ = W.cell? ⟨b, o, none⟩) :=
  fun b o h hne => World.cell?_of_block (hg.block b h (fun e => hne (by injection e)))

set_option maxRecDepth 100000 in
set_option maxHeartbeats 800000 in
theorem deliver_yes {S : Nat → Prop} {g i : Nat} {n : Nt} {p : Pk} {A : Option Addr} {c : Nat} (kd by_ : Int) (w : World) (hg : w.heap[g]? = some (.cells #[.int .i64 n.now, .slice A n.way.length c] 53 (0, 0)))
    (h : Sl pkE S w A c n.way) (hS : ¬ S g) (hi : n.way[i]? = some p) (hl : n.way.length ≤ 4294967296) (hp : p.at_ ≤ n.now) :
    Calls Try.prog 24 #[.pointer (some ⟨g, 0, none⟩), .agg #[.int .i64 kd, .int .i64 i, .int .i64 by_]] w fun e w' =>
      ∃ A' c' A2, e = .returned (.slice A2 1 1) ∧ w'.heap[g]? = some (.cells #[.int .i64 n.now, .slice A' (n.way.eraseIdx i).length c'] 53 (0, 0)) ∧ Sl pkE (Fresh S w) w' A' c' (n.way.eraseIdx i) ∧
        Sl pkE (Fresh S w) w' A2 1 [p] ∧ w.grownBy w' (some g) := by
  have hc0 := cell_of_row w g 0 _ _ _ hg
  have hc1 := cell_of_row w g 1 _ _ _ hg
  have hlt := heap_lt hg
  simp at hc0 hc1
  have hil := (List.getElem?_eq_some_iff.1 hi).1
  obtain ⟨b1, o1, B1, d1, rfl, hSb, hb1, x0, x1, x2, x3, hs1⟩ := pk_at h hi
  have Hg := Lib.hid hg; have H := Lib.hid h; have Hs1 := Lib.hid hs1
  clear hg hi h hs1
  have hj0 : (0 : Int) ≤ (i : Int) := by omega
  have hj1 : (i : Int) < (n.way.length : Int) := by omega
  have hlt1 : g < w.heap.size + 1 := by omega
  have hp' : ¬ n.now < p.at_ := by omega
  have hne1 : w.heap.size + 1 ≠ g := by omega
  have hbW : ∀ k, Below w.heap.size w (((w.alloc (.cells #[.int .i64 kd, .int .i64 i, .int .i64 by_] 29)).alloc (.cells #[.int .i64 p.fr, .int .i64 p.to_, .int .i64 p.at_, .slice B1 p.b.length d1] 32)).drewN k) := fun k => below_drewN (by repeat' (first | with_reducible exact Below.refl _ _ | with_reducible assumption | with_reducible refine Below.setCell ?_ ?_ _ | with_reducible refine Below.drew ?_ | with_reducible refine below_drewN ?_ _ | with_reducible refine Below.alloc ?_ ?_ _ | (rintro _ ⟨⟩; simp <;> omega) | omega | (simp <;> omega))) k
  have HbW := Lib.hid hbW
  clear hbW
  go_enter Try.func24, Try.ntmps24
  go_wp2_with fail
  go_region_held3 (fun W => W.cell? ⟨g, 1, none⟩ = some (.slice (some ⟨b1, o1, none⟩) n.way.length c) ∧ W.cell? ⟨w.heap.size, 1, none⟩ = some (.int .i64 i) ∧ W.cell? ⟨b1, o1 + i * 4, none⟩ = some (.int .i64 p.fr) ∧ W.cell? ⟨b1, o1 + i * 4 + 1, none⟩ = some (.int .i64 p.to_) ∧ W.cell? ⟨b1, o1 + i * 4 + 2, none⟩ = some (.int .i64 p.at_) ∧ W.cell? ⟨b1, o1 + i * 4 + 3, none⟩ = some (.slice B1 p.b.length d1)) (first | go_keep | (simp [*, go_sem])) (fail)
  go_wp2_with fail
  go_quiet (fail)
  go_wp2_with (go_at_call 25; refine (remove_any (S := fun b => S b ∧ b < w.heap.size) _ _ _ (((HbW.out _).block g hlt).trans Hg.out) (H.out.old.keep (Below.agree (HbW.out _))) (fun h => hS h.1) hil hl).mono ?_; rintro e w3 ⟨rfl, A3, c3, hg3, hs3, hgr3⟩; have hc3 := ocell hgr3)
  go_ret
  have ha : Agree S w w3 := (Below.agree (HbW.out _)).grown hgr3 (by rintro _ ⟨⟩; exact hS)
  refine ⟨A3, c3, _, rfl, (Below.heap_alloc _ _ _ (heap_lt hg3)).trans hg3, (hs3.sub fun b hb _ => ?_).keep ((Agree.refl _ _).alloc _),
    Sl.lit (.single (pkE_shut (Hs1.out.keep ha))) (by unfold maxLen; simp) (fun _ hb _ => .inl hb) (.inr ?_), (grown_alloc (((HbW.out _).toGrown' _).trans hgr3) _)⟩
  · rcases hb with hb | hb
    · exact .inl hb.1
    · exact .inr (Nat.le_trans (HbW.out _).size hb)
  · exact Nat.le_trans (HbW.out _).size hgr3.size
end Go.Proofs.Ytmaaniogcmlfbaa
