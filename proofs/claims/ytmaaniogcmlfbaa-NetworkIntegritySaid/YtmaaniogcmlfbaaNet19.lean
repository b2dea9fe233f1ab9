/-
  Contracts of the network chapter (XNet19).
-/
import Derived.Test.YtmaaniogcmlfbaaNet18
namespace Go.Proofs.Ytmaaniogcmlfbaa
open Go.RowKit

section

set_option maxRecDepth 100000 in
set_option maxHeartbeats 800000 in
theorem applyN_late {S : Nat → Prop} {A : Option Addr} {c i : Nat} {n : Nt} {p : Pk} (w : World) (h : Sl pkE S w A c n.way) (hi : n.way[i]? = some p) (by_ : Int) (hp : ¬ p.at_ ≤ n.now) :
    Calls Try.prog 13 #[.agg #[.int .i64 n.now, .slice A n.way.length c], .agg #[.int .i64 1, .int .i64 i, .int .i64 by_]] w (ApRes S w n []) := by
  have hil := (List.getElem?_eq_some_iff.1 hi).1
  have hj0 : (0 : Int) ≤ (i : Int) := by omega
  have hj1 : (i : Int) < (n.way.length : Int) := by omega
  have hjn : decide ((i : Int) < 0) = false := by simp
  have hjn2 : decide (n.way.length ≤ i) = false := by simpa using hil
  have hg : ((((((w.alloc (.cells #[.int .i64 n.now, .slice A n.way.length c] 26)).alloc (.cells #[.int .i64 1, .int .i64 i, .int .i64 by_] 29)).alloc (.cells #[.int .i64 0, .slice none 0 0] 26)).alloc (.cells #[.nilFunc, .func (.func 24) #[] #[], .func (.func 25) #[] #[], .func (.func 26) #[] #[], .func (.func 27) #[] #[]] 57)).alloc (.cells #[.int .i64 n.now, .slice A n.way.length c] 53)).drew).heap[w.heap.size + 1 + 1 + 1 + 1]? = some (.cells #[.int .i64 n.now, .slice A n.way.length c] 53 (0, 0)) := heap_alloc_at (by simp)
  have hbW : Below w.heap.size w ((((((w.alloc (.cells #[.int .i64 n.now, .slice A n.way.length c] 26)).alloc (.cells #[.int .i64 1, .int .i64 i, .int .i64 by_] 29)).alloc (.cells #[.int .i64 0, .slice none 0 0] 26)).alloc (.cells #[.nilFunc, .func (.func 24) #[] #[], .func (.func 25) #[] #[], .func (.func 26) #[] #[], .func (.func 27) #[] #[]] 57)).alloc (.cells #[.int .i64 n.now, .slice A n.way.length c] 53)).drew) := (by repeat' (first | with_reducible exact Below.refl _ _ | with_reducible assumption | with_reducible refine Below.setCell ?_ ?_ _ | with_reducible refine Below.drew ?_ | with_reducible refine below_drewN ?_ _ | with_reducible refine Below.alloc ?_ ?_ _ | (rintro _ ⟨⟩; simp <;> omega) | omega | (simp <;> omega)))
  have fin := deliver_no (S := fun b => S b ∧ b < w.heap.size) 1 by_ _ hg (h.old.keep (Below.agree hbW)) hi hp
  have Fin := Lib.hid fin
  have HbW := Lib.hid hbW
  have H := Lib.hid h
  clear hg hbW fin h hi
  go_enter Try.func13, Try.ntmps13
  go_wp2_with fail
  go_region_law (first
    | (go_simp; go_at_call 24; refine Fin.out.mono ?_; rintro e w3 ⟨rfl, hb3⟩))
  all_goals
    obtain ⟨r1, r2⟩ := bcellk (k := w.heap.size + 5) hb3 (by simp)
    go_wp2_with fail
    exact bodyPost_ret (v := .tuple #[.agg #[.int .i64 n.now, .slice A n.way.length c], .slice none 0 0]) (by simp [results, Try.results13, go_sem, r1]) rfl (ApRes.same H.out rfl (by repeat' (first | with_reducible exact Below.refl _ _ | with_reducible assumption | with_reducible refine Below.trans ?_ (Below.mono hb3 ?_) | with_reducible refine Below.setCell ?_ ?_ _ | with_reducible refine Below.drew ?_ | with_reducible refine below_drewN ?_ _ | with_reducible refine Below.alloc ?_ ?_ _ | (rintro _ ⟨⟩; simp <;> omega) | omega | (simp <;> omega))))

set_option maxRecDepth 100000 in
set_option maxHeartbeats 800000 in
theorem applyN_full {S : Nat → Prop} {A : Option Addr} {c i : Nat} {n : Nt} {p : Pk} (w : World) (h : Sl pkE S w A c n.way) (hi : n.way[i]? = some p) (by_ : Int) (hn : 512 ≤ n.way.length) :
    Calls Try.prog 13 #[.agg #[.int .i64 n.now, .slice A n.way.length c], .agg #[.int .i64 3, .int .i64 i, .int .i64 by_]] w (ApRes S w n []) := by
  have hil := (List.getElem?_eq_some_iff.1 hi).1
  have hj0 : (0 : Int) ≤ (i : Int) := by omega
  have hj1 : (i : Int) < (n.way.length : Int) := by omega
  have hjn : decide ((i : Int) < 0) = false := by simp
  have hjn2 : decide (n.way.length ≤ i) = false := by simpa using hil
  have hg : ((((((w.alloc (.cells #[.int .i64 n.now, .slice A n.way.length c] 26)).alloc (.cells #[.int .i64 3, .int .i64 i, .int .i64 by_] 29)).alloc (.cells #[.int .i64 0, .slice none 0 0] 26)).alloc (.cells #[.nilFunc, .func (.func 24) #[] #[], .func (.func 25) #[] #[], .func (.func 26) #[] #[], .func (.func 27) #[] #[]] 57)).alloc (.cells #[.int .i64 n.now, .slice A n.way.length c] 53)).drew).heap[w.heap.size + 1 + 1 + 1 + 1]? = some (.cells #[.int .i64 n.now, .slice A n.way.length c] 53 (0, 0)) := heap_alloc_at (by simp)
  have hbW : Below w.heap.size w ((((((w.alloc (.cells #[.int .i64 n.now, .slice A n.way.length c] 26)).alloc (.cells #[.int .i64 3, .int .i64 i, .int .i64 by_] 29)).alloc (.cells #[.int .i64 0, .slice none 0 0] 26)).alloc (.cells #[.nilFunc, .func (.func 24) #[] #[], .func (.func 25) #[] #[], .func (.func 26) #[] #[], .func (.func 27) #[] #[]] 57)).alloc (.cells #[.int .i64 n.now, .slice A n.way.length c] 53)).drew) := (by repeat' (first | with_reducible exact Below.refl _ _ | with_reducible assumption | with_reducible refine Below.setCell ?_ ?_ _ | with_reducible refine Below.drew ?_ | with_reducible refine below_drewN ?_ _ | with_reducible refine Below.alloc ?_ ?_ _ | (rintro _ ⟨⟩; simp <;> omega) | omega | (simp <;> omega)))
  have fin := double_full (S := fun b => S b ∧ b < w.heap.size) 3 by_ _ hg (h.old.keep (Below.agree hbW)) hi hn
  have Fin := Lib.hid fin
  have HbW := Lib.hid hbW
  have H := Lib.hid h
  clear hg hbW fin h hi
  go_enter Try.func13, Try.ntmps13
  go_wp2_with fail
  go_region_law (first
    | (go_simp; go_at_call 26; refine Fin.out.mono ?_; rintro e w3 ⟨rfl, hb3⟩))
  all_goals
    obtain ⟨r1, r2⟩ := bcellk (k := w.heap.size + 5) hb3 (by simp)
    go_wp2_with fail
    exact bodyPost_ret (v := .tuple #[.agg #[.int .i64 n.now, .slice A n.way.length c], .slice none 0 0]) (by simp [results, Try.results13, go_sem, r1]) rfl (ApRes.same H.out rfl (by repeat' (first | with_reducible exact Below.refl _ _ | with_reducible assumption | with_reducible refine Below.trans ?_ (Below.mono hb3 ?_) | with_reducible refine Below.setCell ?_ ?_ _ | with_reducible refine Below.drew ?_ | with_reducible refine below_drewN ?_ _ | with_reducible refine Below.alloc ?_ ?_ _ | (rintro _ ⟨⟩; simp <;> omega) | omega | (simp <;> omega))))

set_option maxRecDepth 100000 in
set_option maxHeartbeats 800000 in
theorem applyN_still {S : Nat → Prop} {A : Option Addr} {c i : Nat} {n : Nt} {p : Pk} (w : World) (h : Sl pkE S w A c n.way) (hi : n.way[i]? = some p) (by_ : Int) (hlb : p.b.length ≤ 4294967296) (hno : p.b.length = 0 ∨ by_ < 0) :
    Calls Try.prog 13 #[.agg #[.int .i64 n.now, .slice A n.way.length c], .agg #[.int .i64 4, .int .i64 i, .int .i64 by_]] w (ApRes S w n []) := by
  have hil := (List.getElem?_eq_some_iff.1 hi).1
  have hj0 : (0 : Int) ≤ (i : Int) := by omega
  have hj1 : (i : Int) < (n.way.length : Int) := by omega
  have hjn : decide ((i : Int) < 0) = false := by simp
  have hjn2 : decide (n.way.length ≤ i) = false := by simpa using hil
  have hg : ((((((w.alloc (.cells #[.int .i64 n.now, .slice A n.way.length c] 26)).alloc (.cells #[.int .i64 4, .int .i64 i, .int .i64 by_] 29)).alloc (.cells #[.int .i64 0, .slice none 0 0] 26)).alloc (.cells #[.nilFunc, .func (.func 24) #[] #[], .func (.func 25) #[] #[], .func (.func 26) #[] #[], .func (.func 27) #[] #[]] 57)).alloc (.cells #[.int .i64 n.now, .slice A n.way.length c] 53)).drew).heap[w.heap.size + 1 + 1 + 1 + 1]? = some (.cells #[.int .i64 n.now, .slice A n.way.length c] 53 (0, 0)) := heap_alloc_at (by simp)
  have hbW : Below w.heap.size w ((((((w.alloc (.cells #[.int .i64 n.now, .slice A n.way.length c] 26)).alloc (.cells #[.int .i64 4, .int .i64 i, .int .i64 by_] 29)).alloc (.cells #[.int .i64 0, .slice none 0 0] 26)).alloc (.cells #[.nilFunc, .func (.func 24) #[] #[], .func (.func 25) #[] #[], .func (.func 26) #[] #[], .func (.func 27) #[] #[]] 57)).alloc (.cells #[.int .i64 n.now, .slice A n.way.length c] 53)).drew) := (by repeat' (first | with_reducible exact Below.refl _ _ | with_reducible assumption | with_reducible refine Below.setCell ?_ ?_ _ | with_reducible refine Below.drew ?_ | with_reducible refine below_drewN ?_ _ | with_reducible refine Below.alloc ?_ ?_ _ | (rintro _ ⟨⟩; simp <;> omega) | omega | (simp <;> omega)))
  have fin := alter_no (S := fun b => S b ∧ b < w.heap.size) 4 by_ _ hg (h.old.keep (Below.agree hbW)) hi hlb hno
  have Fin := Lib.hid fin
  have HbW := Lib.hid hbW
  have H := Lib.hid h
  clear hg hbW fin h hi
  go_enter Try.func13, Try.ntmps13
  go_wp2_with fail
  go_region_law (first
    | (go_simp; go_at_call 27; refine Fin.out.mono ?_; rintro e w3 ⟨rfl, hb3⟩))
  all_goals
    obtain ⟨r1, r2⟩ := bcellk (k := w.heap.size + 5) hb3 (by simp)
    go_wp2_with fail
    exact bodyPost_ret (v := .tuple #[.agg #[.int .i64 n.now, .slice A n.way.length c], .slice none 0 0]) (by simp [results, Try.results13, go_sem, r1]) rfl (ApRes.same H.out rfl (by repeat' (first | with_reducible exact Below.refl _ _ | with_reducible assumption | with_reducible refine Below.trans ?_ (Below.mono hb3 ?_) | with_reducible refine Below.setCell ?_ ?_ _ | with_reducible refine Below.drew ?_ | with_reducible refine below_drewN ?_ _ | with_reducible refine Below.alloc ?_ ?_ _ | (rintro _ ⟨⟩; simp <;> omega) | omega | (simp <;> omega))))

end
end Go.Proofs.Ytmaaniogcmlfbaa
