/-
  Contracts of the network chapter (XNet9).
-/
import Derived.Test.YtmaaniogcmlfbaaNet8
namespace Go.Proofs.Ytmaaniogcmlfbaa
open Go.RowKit

set_option maxRecDepth 100000 in
set_option maxHeartbeats 800000 in
theorem double_room {S : Nat → Prop} {g i : Nat} {n : Nt} {p : Pk} {A : Option Addr} {c : Nat} (kd by_ : Int) (w : World) (hg : w.heap[g]? = some (.cells #[.int .i64 n.now, .slice A n.way.length c] 53 (0, 0)))
    (h : Sl pkE S w A c n.way) (hS : ¬ S g) (hi : n.way[i]? = some p) (hn : n.way.length < 512) (hl : p.b.length ≤ 4294967296) :
    Calls Try.prog 26 #[.pointer (some ⟨g, 0, none⟩), .agg #[.int .i64 kd, .int .i64 i, .int .i64 by_]] w fun e w' => e = .returned (.slice none 0 0) ∧
      ∃ A' c', w'.heap[g]? = some (.cells #[.int .i64 n.now, .slice A' (n.way ++ [p]).length c'] 53 (0, 0)) ∧ Sl pkE (Fresh S w) w' A' c' (n.way ++ [p]) ∧ w.grownBy w' (some g) := by
  have hc1 := cell_of_row w g 1 _ _ _ hg
  have hlt := heap_lt hg
  simp at hc1
  have hil := (List.getElem?_eq_some_iff.1 hi).1
  obtain ⟨b1, o1, B1, d1, rfl, hSb, hb1, x0, x1, x2, x3, hs1⟩ := pk_at h hi
  have hbW : Below w.heap.size w (w.alloc (.cells #[.int .i64 kd, .int .i64 i, .int .i64 by_] 29)).drew := (by repeat' (first | with_reducible exact Below.refl _ _ | with_reducible assumption | with_reducible refine Below.setCell ?_ ?_ _ | with_reducible refine Below.drew ?_ | with_reducible refine below_drewN ?_ _ | with_reducible refine Below.alloc ?_ ?_ _ | (rintro _ ⟨⟩; simp <;> omega) | omega | (simp <;> omega)))
  have fin := (add_room (S := fun b => S b ∧ b < w.heap.size) _ ((hbW.block g hlt).trans hg) (h.old.keep (Below.agree hbW)) (fun h => hS h.1) (hs1.old.keep (Below.agree hbW)) hn hl)
  have Fin := Lib.hid fin
  have HbW := Lib.hid hbW
  clear fin hbW hg hi h hs1
  have hj0 : (0 : Int) ≤ (i : Int) := by omega
  have hj1 : (i : Int) < (n.way.length : Int) := by omega
  go_enter Try.func26, Try.ntmps26
  go_wp2_with fail
  go_region_law (first
    | (go_simp; go_at_call 23; refine Fin.out.mono ?_; rintro e w3 ⟨rfl, A3, c3, hg3, hs3, hgr3⟩))
  all_goals
    go_wp2_with fail
    go_ret
    refine ⟨rfl, A3, c3, hg3, hs3.sub fun b hb _ => ?_, (HbW.out.toGrown' _).trans hgr3⟩
    rcases hb with hb | hb
    · exact .inl hb.1
    · exact .inr (Nat.le_trans HbW.out.size hb)

set_option maxRecDepth 100000 in
set_option maxHeartbeats 800000 in
theorem double_full {S : Nat → Prop} {g i : Nat} {n : Nt} {p : Pk} {A : Option Addr} {c : Nat} (kd by_ : Int) (w : World) (hg : w.heap[g]? = some (.cells #[.int .i64 n.now, .slice A n.way.length c] 53 (0, 0)))
    (h : Sl pkE S w A c n.way) (hi : n.way[i]? = some p) (hn : 512 ≤ n.way.length) :
    Calls Try.prog 26 #[.pointer (some ⟨g, 0, none⟩), .agg #[.int .i64 kd, .int .i64 i, .int .i64 by_]] w fun e w' => e = .returned (.slice none 0 0) ∧ Below w.heap.size w w' := by
  have hc1 := cell_of_row w g 1 _ _ _ hg
  have hlt := heap_lt hg
  simp at hc1
  have hil := (List.getElem?_eq_some_iff.1 hi).1
  obtain ⟨b1, o1, B1, d1, rfl, hSb, hb1, x0, x1, x2, x3, hs1⟩ := pk_at h hi
  have hbW : Below w.heap.size w (w.alloc (.cells #[.int .i64 kd, .int .i64 i, .int .i64 by_] 29)).drew := (by repeat' (first | with_reducible exact Below.refl _ _ | with_reducible assumption | with_reducible refine Below.setCell ?_ ?_ _ | with_reducible refine Below.drew ?_ | with_reducible refine below_drewN ?_ _ | with_reducible refine Below.alloc ?_ ?_ _ | (rintro _ ⟨⟩; simp <;> omega) | omega | (simp <;> omega)))
  have fin := (add_full (.int .i64 p.fr) (.int .i64 p.to_) (.int .i64 p.at_) (.slice B1 p.b.length d1) _ ((hbW.block g hlt).trans hg) hn)
  have Fin := Lib.hid fin
  have HbW := Lib.hid hbW
  clear fin hbW hg hi h hs1
  have hj0 : (0 : Int) ≤ (i : Int) := by omega
  have hj1 : (i : Int) < (n.way.length : Int) := by omega
  go_enter Try.func26, Try.ntmps26
  go_wp2_with fail
  go_region_law (first
    | (go_simp; go_at_call 23; refine Fin.out.mono ?_; rintro e w3 ⟨rfl, hb3⟩))
  all_goals
    go_wp2_with fail
    go_ret
    exact ⟨rfl, HbW.out.trans (hb3.mono HbW.out.size)⟩
end Go.Proofs.Ytmaaniogcmlfbaa
