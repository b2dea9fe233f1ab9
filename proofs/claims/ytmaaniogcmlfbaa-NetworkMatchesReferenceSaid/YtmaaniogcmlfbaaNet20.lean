/-
  Contracts of the network chapter (XNet20).
-/
import Derived.Test.YtmaaniogcmlfbaaNet18
namespace Go.Proofs.Ytmaaniogcmlfbaa
open Go.RowKit

section

set_option maxRecDepth 100000 in
set_option maxHeartbeats 800000 in
theorem applyN_lose {S : Nat → Prop} {A : Option Addr} {c i : Nat} {n : Nt} {p : Pk} (w : World) (h : Sl pkE S w A c n.way) (hi : n.way[i]? = some p) (by_ : Int) (hl : n.way.length ≤ 4294967296) :
    Calls Try.prog 13 #[.agg #[.int .i64 n.now, .slice A n.way.length c], .agg #[.int .i64 2, .int .i64 i, .int .i64 by_]] w (ApRes S w (withoutF n i) []) := by
  have hil := (List.getElem?_eq_some_iff.1 hi).1
  have hj0 : (0 : Int) ≤ (i : Int) := by omega
  have hj1 : (i : Int) < (n.way.length : Int) := by omega
  have hjn : decide ((i : Int) < 0) = false := by simp
  have hjn2 : decide (n.way.length ≤ i) = false := by simpa using hil
  have hg : ((((((w.alloc (.cells #[.int .i64 n.now, .slice A n.way.length c] 26)).alloc (.cells #[.int .i64 2, .int .i64 i, .int .i64 by_] 29)).alloc (.cells #[.int .i64 0, .slice none 0 0] 26)).alloc (.cells #[.nilFunc, .func (.func 24) #[] #[], .func (.func 25) #[] #[], .func (.func 26) #[] #[], .func (.func 27) #[] #[]] 57)).alloc (.cells #[.int .i64 n.now, .slice A n.way.length c] 53)).drew).heap[w.heap.size + 1 + 1 + 1 + 1]? = some (.cells #[.int .i64 n.now, .slice A n.way.length c] 53 (0, 0)) := heap_alloc_at (by simp)
  have hbW : Below w.heap.size w ((((((w.alloc (.cells #[.int .i64 n.now, .slice A n.way.length c] 26)).alloc (.cells #[.int .i64 2, .int .i64 i, .int .i64 by_] 29)).alloc (.cells #[.int .i64 0, .slice none 0 0] 26)).alloc (.cells #[.nilFunc, .func (.func 24) #[] #[], .func (.func 25) #[] #[], .func (.func 26) #[] #[], .func (.func 27) #[] #[]] 57)).alloc (.cells #[.int .i64 n.now, .slice A n.way.length c] 53)).drew) := (by repeat' (first | with_reducible exact Below.refl _ _ | with_reducible assumption | with_reducible refine Below.setCell ?_ ?_ _ | with_reducible refine Below.drew ?_ | with_reducible refine below_drewN ?_ _ | with_reducible refine Below.alloc ?_ ?_ _ | (rintro _ ⟨⟩; simp <;> omega) | omega | (simp <;> omega)))
  have fin := remove_any (S := fun b => S b ∧ b < w.heap.size) 2 by_ _ hg (h.old.keep (Below.agree hbW)) (by rintro ⟨_, h⟩; omega) hil hl
  have Fin := Lib.hid fin
  have HbW := Lib.hid hbW
  have H := Lib.hid h
  clear hg hbW fin h hi
  go_enter Try.func13, Try.ntmps13
  go_wp2_with fail
  go_region_law (first
    | (go_simp; go_at_call 25; refine Fin.out.mono ?_; rintro e w3 ⟨rfl, A3, c3, hg3, hs3, hgr3⟩))
  all_goals
    have r1 := ocell hgr3
    have r2 := ofrozen hgr3
    have x0 := cell_of_row _ _ 0 _ _ _ hg3
    have x1 := cell_of_row _ _ 1 _ _ _ hg3
    simp only [List.getElem?_toArray, List.getElem?_cons_zero, List.getElem?_cons_succ] at x0 x1
    clear hg3
    go_wp2_with fail
    have hz3 : w.heap.size + 5 ≤ w3.heap.size := by have := hgr3.size; simp at this; omega
    have hbE : Below w.heap.size w w3 := HbW.out.trans ((Below.refl w.heap.size _).grown hgr3 HbW.out.size (by rintro _ ⟨⟩; omega))
    refine bodyPost_ret (v := .tuple #[.agg #[.int .i64 n.now, .slice A3 (n.way.eraseIdx i).length c3], .slice none 0 0]) (by simp [results, Try.results13, go_sem, r1]) rfl ⟨A3, c3, none, 0, rfl, ?_, Sl.nil_ _ _ _ _ (Nat.zero_le _), (by repeat' (first | with_reducible exact Below.refl _ _ | with_reducible assumption | with_reducible refine Below.trans ?_ (Below.mono hbE ?_) | with_reducible refine Below.setCell ?_ ?_ _ | with_reducible refine Below.drew ?_ | with_reducible refine below_drewN ?_ _ | with_reducible refine Below.alloc ?_ ?_ _ | (rintro _ ⟨⟩; simp <;> omega) | omega | (simp <;> omega)))⟩
    · exact ((hs3.sub (T := fun b => (S b ∧ b < w.heap.size) ∨ w.heap.size + 5 ≤ b) fun b hb _ => hb.imp id (fun h => by simp at h; omega)).only (g := w.heap.size + 2) (by repeat' (first | with_reducible exact Agree.refl _ _ | with_reducible assumption | with_reducible refine Agree.set ?_ ?_ _ | with_reducible refine Agree.alloc ?_ _ | with_reducible refine Agree.drew ?_ | with_reducible refine Agree.drewN ?_ _ | omega | (simp <;> omega))) (by rintro (⟨_, h⟩ | h) <;> omega)).sub fun b hb _ => hb.imp And.left (fun h => by omega)

set_option maxRecDepth 100000 in
set_option maxHeartbeats 800000 in
theorem applyN_double {S : Nat → Prop} {A : Option Addr} {c i : Nat} {n : Nt} {p : Pk} (w : World) (h : Sl pkE S w A c n.way) (hi : n.way[i]? = some p) (by_ : Int) (hn : n.way.length < 512) (hlb : p.b.length ≤ 4294967296) :
    Calls Try.prog 13 #[.agg #[.int .i64 n.now, .slice A n.way.length c], .agg #[.int .i64 3, .int .i64 i, .int .i64 by_]] w (ApRes S w ⟨n.now, n.way ++ [p]⟩ []) := by
  have hil := (List.getElem?_eq_some_iff.1 hi).1
  have hj0 : (0 : Int) ≤ (i : Int) := by omega
  have hj1 : (i : Int) < (n.way.length : Int) := by omega
  have hjn : decide ((i : Int) < 0) = false := by simp
  have hjn2 : decide (n.way.length ≤ i) = false := by simpa using hil
  have hg : ((((((w.alloc (.cells #[.int .i64 n.now, .slice A n.way.length c] 26)).alloc (.cells #[.int .i64 3, .int .i64 i, .int .i64 by_] 29)).alloc (.cells #[.int .i64 0, .slice none 0 0] 26)).alloc (.cells #[.nilFunc, .func (.func 24) #[] #[], .func (.func 25) #[] #[], .func (.func 26) #[] #[], .func (.func 27) #[] #[]] 57)).alloc (.cells #[.int .i64 n.now, .slice A n.way.length c] 53)).drew).heap[w.heap.size + 1 + 1 + 1 + 1]? = some (.cells #[.int .i64 n.now, .slice A n.way.length c] 53 (0, 0)) := heap_alloc_at (by simp)
  have hbW : Below w.heap.size w ((((((w.alloc (.cells #[.int .i64 n.now, .slice A n.way.length c] 26)).alloc (.cells #[.int .i64 3, .int .i64 i, .int .i64 by_] 29)).alloc (.cells #[.int .i64 0, .slice none 0 0] 26)).alloc (.cells #[.nilFunc, .func (.func 24) #[] #[], .func (.func 25) #[] #[], .func (.func 26) #[] #[], .func (.func 27) #[] #[]] 57)).alloc (.cells #[.int .i64 n.now, .slice A n.way.length c] 53)).drew) := (by repeat' (first | with_reducible exact Below.refl _ _ | with_reducible assumption | with_reducible refine Below.setCell ?_ ?_ _ | with_reducible refine Below.drew ?_ | with_reducible refine below_drewN ?_ _ | with_reducible refine Below.alloc ?_ ?_ _ | (rintro _ ⟨⟩; simp <;> omega) | omega | (simp <;> omega)))
  have fin := double_room (S := fun b => S b ∧ b < w.heap.size) 3 by_ _ hg (h.old.keep (Below.agree hbW)) (by rintro ⟨_, h⟩; omega) hi hn hlb
  have Fin := Lib.hid fin
  have HbW := Lib.hid hbW
  have H := Lib.hid h
  clear hg hbW fin h hi
  go_enter Try.func13, Try.ntmps13
  go_wp2_with fail
  go_region_law (first
    | (go_simp; go_at_call 26; refine Fin.out.mono ?_; rintro e w3 ⟨rfl, A3, c3, hg3, hs3, hgr3⟩))
  all_goals
    have r1 := ocell hgr3
    have r2 := ofrozen hgr3
    have x0 := cell_of_row _ _ 0 _ _ _ hg3
    have x1 := cell_of_row _ _ 1 _ _ _ hg3
    simp only [List.getElem?_toArray, List.getElem?_cons_zero, List.getElem?_cons_succ] at x0 x1
    clear hg3
    go_wp2_with fail
    have hz3 : w.heap.size + 5 ≤ w3.heap.size := by have := hgr3.size; simp at this; omega
    have hbE : Below w.heap.size w w3 := HbW.out.trans ((Below.refl w.heap.size _).grown hgr3 HbW.out.size (by rintro _ ⟨⟩; omega))
    refine bodyPost_ret (v := .tuple #[.agg #[.int .i64 n.now, .slice A3 (n.way ++ [p]).length c3], .slice none 0 0]) (by simp [results, Try.results13, go_sem, r1]) rfl ⟨A3, c3, none, 0, rfl, ?_, Sl.nil_ _ _ _ _ (Nat.zero_le _), (by repeat' (first | with_reducible exact Below.refl _ _ | with_reducible assumption | with_reducible refine Below.trans ?_ (Below.mono hbE ?_) | with_reducible refine Below.setCell ?_ ?_ _ | with_reducible refine Below.drew ?_ | with_reducible refine below_drewN ?_ _ | with_reducible refine Below.alloc ?_ ?_ _ | (rintro _ ⟨⟩; simp <;> omega) | omega | (simp <;> omega)))⟩
    · exact ((hs3.sub (T := fun b => (S b ∧ b < w.heap.size) ∨ w.heap.size + 5 ≤ b) fun b hb _ => hb.imp id (fun h => by simp at h; omega)).only (g := w.heap.size + 2) (by repeat' (first | with_reducible exact Agree.refl _ _ | with_reducible assumption | with_reducible refine Agree.set ?_ ?_ _ | with_reducible refine Agree.alloc ?_ _ | with_reducible refine Agree.drew ?_ | with_reducible refine Agree.drewN ?_ _ | omega | (simp <;> omega))) (by rintro (⟨_, h⟩ | h) <;> omega)).sub fun b hb _ => hb.imp And.left (fun h => by omega)

end
end Go.Proofs.Ytmaaniogcmlfbaa
