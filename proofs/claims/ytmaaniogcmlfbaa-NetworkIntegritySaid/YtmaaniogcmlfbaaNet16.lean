/-
  Contracts of the network chapter (XNet16).
-/
import Derived.Test.YtmaaniogcmlfbaaNet15
namespace Go.Proofs.Ytmaaniogcmlfbaa
open Go.RowKit

section

set_option maxRecDepth 100000 in
set_option maxHeartbeats 800000 in
theorem applyR_other {S : Nat → Prop} {A : Option Addr} {c i : Nat} {n : Nt} {p : Pk} (w : World) (h : Sl pkE S w A c n.way) (hi : n.way[i]? = some p) (kd : Int) (by_ : Int) (hk : kd ≠ 1 ∧ kd ≠ 2 ∧ kd ≠ 3 ∧ kd ≠ 4 ∧ kd ≠ 5) :
    Calls Try.prog 17 #[.agg #[.int .i64 n.now, .slice A n.way.length c], .agg #[.int .i64 kd, .int .i64 i, .int .i64 by_]] w (ApRes S w n []) := by
  have hil := (List.getElem?_eq_some_iff.1 hi).1
  have h' := h
  have hi' := hi
  obtain ⟨b1, o1, B1, d1, rfl, hSb, hb1, x0, x1, x2, x3, hs1⟩ := pk_at h hi
  have hj0 : (0 : Int) ≤ (i : Int) := by omega
  have hj1 : (i : Int) < (n.way.length : Int) := by omega
  have hb1a : b1 < w.heap.size + 1 := by omega
  have hb1b : b1 < w.heap.size + 1 + 1 := by omega
  have hb1c : b1 < w.heap.size + 1 + 1 + 1 := by omega
  have hjn : decide ((i : Int) < 0) = false := by simp
  have hk1 : (kd == 1) = false := by rw [beq_eq_false_iff_ne]; exact hk.1
  have hk2 : (kd == 2) = false := by rw [beq_eq_false_iff_ne]; exact hk.2.1
  have hk3 : (kd == 3) = false := by rw [beq_eq_false_iff_ne]; exact hk.2.2.1
  have hk4 : (kd == 4) = false := by rw [beq_eq_false_iff_ne]; exact hk.2.2.2.1
  have hk5 : (kd == 5) = false := by rw [beq_eq_false_iff_ne]; exact hk.2.2.2.2
  clear hk
  have hbW : Below w.heap.size w ((((w.alloc (.cells #[.int .i64 n.now, .slice (some ⟨b1, o1, none⟩) n.way.length c] 26)).alloc (.cells #[.int .i64 kd, .int .i64 i, .int .i64 by_] 29)).alloc (.cells #[.int .i64 0, .slice none 0 0] 26)).alloc (.cells #[.int .i64 p.fr, .int .i64 p.to_, .int .i64 p.at_, .slice B1 p.b.length d1] 32)) := (by repeat' (first | with_reducible exact Below.refl _ _ | with_reducible assumption | with_reducible refine Below.setCell ?_ ?_ _ | with_reducible refine Below.drew ?_ | with_reducible refine below_drewN ?_ _ | with_reducible refine Below.alloc ?_ ?_ _ | (rintro _ ⟨⟩; simp <;> omega) | omega | (simp <;> omega)))
  have HbW := Lib.hid hbW
  have H := Lib.hid h'
  have Hi := Lib.hid hi'
  have Hs := Lib.hid hs1
  clear hbW h' hi' h hi hs1
  go_enter Try.func17, Try.ntmps17
  go_wp2_with fail
  exact bodyPost_ret (v := .tuple #[.agg #[.int .i64 n.now, .slice (some ⟨b1, o1, none⟩) n.way.length c], .slice none 0 0]) (by simp [results, Try.results17, go_sem]) rfl (ApRes.same H.out rfl (by repeat' (first | with_reducible exact Below.refl _ _ | with_reducible assumption | with_reducible refine Below.setCell ?_ ?_ _ | with_reducible refine Below.drew ?_ | with_reducible refine below_drewN ?_ _ | with_reducible refine Below.alloc ?_ ?_ _ | (rintro _ ⟨⟩; simp <;> omega) | omega | (simp <;> omega))))

set_option maxRecDepth 100000 in
set_option maxHeartbeats 800000 in
theorem applyR_late {S : Nat → Prop} {A : Option Addr} {c i : Nat} {n : Nt} {p : Pk} (w : World) (h : Sl pkE S w A c n.way) (hi : n.way[i]? = some p) (by_ : Int) (hp : ¬ p.at_ ≤ n.now) :
    Calls Try.prog 17 #[.agg #[.int .i64 n.now, .slice A n.way.length c], .agg #[.int .i64 1, .int .i64 i, .int .i64 by_]] w (ApRes S w n []) := by
  have hil := (List.getElem?_eq_some_iff.1 hi).1
  have h' := h
  have hi' := hi
  obtain ⟨b1, o1, B1, d1, rfl, hSb, hb1, x0, x1, x2, x3, hs1⟩ := pk_at h hi
  have hj0 : (0 : Int) ≤ (i : Int) := by omega
  have hj1 : (i : Int) < (n.way.length : Int) := by omega
  have hb1a : b1 < w.heap.size + 1 := by omega
  have hb1b : b1 < w.heap.size + 1 + 1 := by omega
  have hb1c : b1 < w.heap.size + 1 + 1 + 1 := by omega
  have hjn : decide ((i : Int) < 0) = false := by simp
  have hbW : Below w.heap.size w ((((w.alloc (.cells #[.int .i64 n.now, .slice (some ⟨b1, o1, none⟩) n.way.length c] 26)).alloc (.cells #[.int .i64 1, .int .i64 i, .int .i64 by_] 29)).alloc (.cells #[.int .i64 0, .slice none 0 0] 26)).alloc (.cells #[.int .i64 p.fr, .int .i64 p.to_, .int .i64 p.at_, .slice B1 p.b.length d1] 32)) := (by repeat' (first | with_reducible exact Below.refl _ _ | with_reducible assumption | with_reducible refine Below.setCell ?_ ?_ _ | with_reducible refine Below.drew ?_ | with_reducible refine below_drewN ?_ _ | with_reducible refine Below.alloc ?_ ?_ _ | (rintro _ ⟨⟩; simp <;> omega) | omega | (simp <;> omega)))
  have HbW := Lib.hid hbW
  have H := Lib.hid h'
  have Hi := Lib.hid hi'
  have Hs := Lib.hid hs1
  clear hbW h' hi' h hi hs1
  go_enter Try.func17, Try.ntmps17
  go_wp2_with fail
  exact bodyPost_ret (v := .tuple #[.agg #[.int .i64 n.now, .slice (some ⟨b1, o1, none⟩) n.way.length c], .slice none 0 0]) (by simp [results, Try.results17, go_sem]) rfl (ApRes.same H.out rfl (by repeat' (first | with_reducible exact Below.refl _ _ | with_reducible assumption | with_reducible refine Below.setCell ?_ ?_ _ | with_reducible refine Below.drew ?_ | with_reducible refine below_drewN ?_ _ | with_reducible refine Below.alloc ?_ ?_ _ | (rintro _ ⟨⟩; simp <;> omega) | omega | (simp <;> omega))))

set_option maxRecDepth 100000 in
set_option maxHeartbeats 800000 in
theorem applyR_lose {S : Nat → Prop} {A : Option Addr} {c i : Nat} {n : Nt} {p : Pk} (w : World) (h : Sl pkE S w A c n.way) (hi : n.way[i]? = some p) (by_ : Int) (hl : n.way.length ≤ 4294967296) :
    Calls Try.prog 17 #[.agg #[.int .i64 n.now, .slice A n.way.length c], .agg #[.int .i64 2, .int .i64 i, .int .i64 by_]] w (ApRes S w (withoutF n i) []) := by
  have hil := (List.getElem?_eq_some_iff.1 hi).1
  have h' := h
  have hi' := hi
  obtain ⟨b1, o1, B1, d1, rfl, hSb, hb1, x0, x1, x2, x3, hs1⟩ := pk_at h hi
  have hj0 : (0 : Int) ≤ (i : Int) := by omega
  have hj1 : (i : Int) < (n.way.length : Int) := by omega
  have hb1a : b1 < w.heap.size + 1 := by omega
  have hb1b : b1 < w.heap.size + 1 + 1 := by omega
  have hb1c : b1 < w.heap.size + 1 + 1 + 1 := by omega
  have hjn : decide ((i : Int) < 0) = false := by simp
  have hbW : Below w.heap.size w ((((w.alloc (.cells #[.int .i64 n.now, .slice (some ⟨b1, o1, none⟩) n.way.length c] 26)).alloc (.cells #[.int .i64 2, .int .i64 i, .int .i64 by_] 29)).alloc (.cells #[.int .i64 0, .slice none 0 0] 26)).alloc (.cells #[.int .i64 p.fr, .int .i64 p.to_, .int .i64 p.at_, .slice B1 p.b.length d1] 32)) := (by repeat' (first | with_reducible exact Below.refl _ _ | with_reducible assumption | with_reducible refine Below.setCell ?_ ?_ _ | with_reducible refine Below.drew ?_ | with_reducible refine below_drewN ?_ _ | with_reducible refine Below.alloc ?_ ?_ _ | (rintro _ ⟨⟩; simp <;> omega) | omega | (simp <;> omega)))
  have HbW := Lib.hid hbW
  have H := Lib.hid h'
  have Hi := Lib.hid hi'
  have Hs := Lib.hid hs1
  clear hbW h' hi' h hi hs1
  go_enter Try.func17, Try.ntmps17
  go_wp2_with (go_at_call 29; refine (without_any (S := fun b => S b ∧ b < w.heap.size) _ (H.out.old.keep (Below.agree HbW.out)) hil hl).mono ?_; rintro e w3 ⟨A3, c3, rfl, hs3, hb3⟩; obtain ⟨r1, r2⟩ := bcellk (k := w.heap.size + 4) hb3 (by simp))
  refine bodyPost_ret (v := .tuple #[.agg #[.int .i64 n.now, .slice A3 (n.way.eraseIdx i).length c3], .slice none 0 0]) (by simp [results, Try.results17, go_sem, r1]) rfl ⟨A3, c3, none, 0, rfl, ?_, Sl.nil_ _ _ _ _ (Nat.zero_le _), (by repeat' (first | with_reducible exact Below.refl _ _ | with_reducible assumption | with_reducible refine Below.trans ?_ (Below.mono hb3 ?_) | with_reducible refine Below.setCell ?_ ?_ _ | with_reducible refine Below.drew ?_ | with_reducible refine below_drewN ?_ _ | with_reducible refine Below.alloc ?_ ?_ _ | (rintro _ ⟨⟩; simp <;> omega) | omega | (simp <;> omega)))⟩
  refine ((hs3.sub (T := fun b => (S b ∧ b < w.heap.size) ∨ w.heap.size + 4 ≤ b) fun b hb _ => hb.imp id (fun h => by simp at h; omega)).only (g := w.heap.size + 2) (by repeat' (first | with_reducible exact Agree.refl _ _ | with_reducible assumption | with_reducible refine Agree.set ?_ ?_ _ | with_reducible refine Agree.alloc ?_ _ | with_reducible refine Agree.drew ?_ | with_reducible refine Agree.drewN ?_ _ | omega | (simp <;> omega))) (by rintro (⟨_, h⟩ | h) <;> omega)).sub fun b hb _ => hb.imp And.left (fun h => by omega)

set_option maxRecDepth 100000 in
set_option maxHeartbeats 800000 in
theorem applyR_double {S : Nat → Prop} {A : Option Addr} {c i : Nat} {n : Nt} {p : Pk} (w : World) (h : Sl pkE S w A c n.way) (hi : n.way[i]? = some p) (by_ : Int) (hl : p.b.length ≤ 4294967296) :
    Calls Try.prog 17 #[.agg #[.int .i64 n.now, .slice A n.way.length c], .agg #[.int .i64 3, .int .i64 i, .int .i64 by_]] w (ApRes S w (withF n p) []) := by
  have hil := (List.getElem?_eq_some_iff.1 hi).1
  have h' := h
  have hi' := hi
  obtain ⟨b1, o1, B1, d1, rfl, hSb, hb1, x0, x1, x2, x3, hs1⟩ := pk_at h hi
  have hj0 : (0 : Int) ≤ (i : Int) := by omega
  have hj1 : (i : Int) < (n.way.length : Int) := by omega
  have hb1a : b1 < w.heap.size + 1 := by omega
  have hb1b : b1 < w.heap.size + 1 + 1 := by omega
  have hb1c : b1 < w.heap.size + 1 + 1 + 1 := by omega
  have hjn : decide ((i : Int) < 0) = false := by simp
  have hbW : Below w.heap.size w ((((w.alloc (.cells #[.int .i64 n.now, .slice (some ⟨b1, o1, none⟩) n.way.length c] 26)).alloc (.cells #[.int .i64 3, .int .i64 i, .int .i64 by_] 29)).alloc (.cells #[.int .i64 0, .slice none 0 0] 26)).alloc (.cells #[.int .i64 p.fr, .int .i64 p.to_, .int .i64 p.at_, .slice B1 p.b.length d1] 32)) := (by repeat' (first | with_reducible exact Below.refl _ _ | with_reducible assumption | with_reducible refine Below.setCell ?_ ?_ _ | with_reducible refine Below.drew ?_ | with_reducible refine below_drewN ?_ _ | with_reducible refine Below.alloc ?_ ?_ _ | (rintro _ ⟨⟩; simp <;> omega) | omega | (simp <;> omega)))
  have HbW := Lib.hid hbW
  have H := Lib.hid h'
  have Hi := Lib.hid hi'
  have Hs := Lib.hid hs1
  clear hbW h' hi' h hi hs1
  go_enter Try.func17, Try.ntmps17
  go_wp2_with (go_at_call 28; refine (with_any (S := fun b => S b ∧ b < w.heap.size) _ (H.out.old.keep (Below.agree HbW.out)) (Hs.out.old.keep (Below.agree HbW.out)) hl).mono ?_; rintro e w3 ⟨A3, c3, rfl, hs3, hb3⟩; obtain ⟨r1, r2⟩ := bcellk (k := w.heap.size + 4) hb3 (by simp))
  have e1 : (withF n p).now = n.now := by unfold withF; split <;> rfl
  refine bodyPost_ret (v := .tuple #[.agg #[.int .i64 n.now, .slice A3 (withF n p).way.length c3], .slice none 0 0]) (by simp [results, Try.results17, go_sem, r1]) rfl ⟨A3, c3, none, 0, by rw [e1]; rfl, ?_, Sl.nil_ _ _ _ _ (Nat.zero_le _), (by repeat' (first | with_reducible exact Below.refl _ _ | with_reducible assumption | with_reducible refine Below.trans ?_ (Below.mono hb3 ?_) | with_reducible refine Below.setCell ?_ ?_ _ | with_reducible refine Below.drew ?_ | with_reducible refine below_drewN ?_ _ | with_reducible refine Below.alloc ?_ ?_ _ | (rintro _ ⟨⟩; simp <;> omega) | omega | (simp <;> omega)))⟩
  refine ((hs3.sub (T := fun b => (S b ∧ b < w.heap.size) ∨ w.heap.size + 4 ≤ b) fun b hb _ => hb.imp id (fun h => by simp at h; omega)).only (g := w.heap.size + 2) (by repeat' (first | with_reducible exact Agree.refl _ _ | with_reducible assumption | with_reducible refine Agree.set ?_ ?_ _ | with_reducible refine Agree.alloc ?_ _ | with_reducible refine Agree.drew ?_ | with_reducible refine Agree.drewN ?_ _ | omega | (simp <;> omega))) (by rintro (⟨_, h⟩ | h) <;> omega)).sub fun b hb _ => hb.imp And.left (fun h => by omega)

set_option maxRecDepth 100000 in
set_option maxHeartbeats 800000 in
theorem applyR_still {S : Nat → Prop} {A : Option Addr} {c i : Nat} {n : Nt} {p : Pk} (w : World) (h : Sl pkE S w A c n.way) (hi : n.way[i]? = some p) (by_ : Int) (hno : p.b.length = 0 ∨ by_ < 0) :
    Calls Try.prog 17 #[.agg #[.int .i64 n.now, .slice A n.way.length c], .agg #[.int .i64 4, .int .i64 i, .int .i64 by_]] w (ApRes S w n []) := by
  have hil := (List.getElem?_eq_some_iff.1 hi).1
  have h' := h
  have hi' := hi
  obtain ⟨b1, o1, B1, d1, rfl, hSb, hb1, x0, x1, x2, x3, hs1⟩ := pk_at h hi
  have hj0 : (0 : Int) ≤ (i : Int) := by omega
  have hj1 : (i : Int) < (n.way.length : Int) := by omega
  have hb1a : b1 < w.heap.size + 1 := by omega
  have hb1b : b1 < w.heap.size + 1 + 1 := by omega
  have hb1c : b1 < w.heap.size + 1 + 1 + 1 := by omega
  have hjn : decide ((i : Int) < 0) = false := by simp
  have hbW : Below w.heap.size w ((((w.alloc (.cells #[.int .i64 n.now, .slice (some ⟨b1, o1, none⟩) n.way.length c] 26)).alloc (.cells #[.int .i64 4, .int .i64 i, .int .i64 by_] 29)).alloc (.cells #[.int .i64 0, .slice none 0 0] 26)).alloc (.cells #[.int .i64 p.fr, .int .i64 p.to_, .int .i64 p.at_, .slice B1 p.b.length d1] 32)) := (by repeat' (first | with_reducible exact Below.refl _ _ | with_reducible assumption | with_reducible refine Below.setCell ?_ ?_ _ | with_reducible refine Below.drew ?_ | with_reducible refine below_drewN ?_ _ | with_reducible refine Below.alloc ?_ ?_ _ | (rintro _ ⟨⟩; simp <;> omega) | omega | (simp <;> omega)))
  have HbW := Lib.hid hbW
  have H := Lib.hid h'
  have Hi := Lib.hid hi'
  have Hs := Lib.hid hs1
  clear hbW h' hi' h hi hs1
  go_enter Try.func17, Try.ntmps17
  go_wp2_with (go_at_call 31; refine (altered_no (S := fun b => S b ∧ b < w.heap.size) _ _ (H.out.old.keep (Below.agree HbW.out)) Hi.out hno).mono ?_; rintro e w3 ⟨rfl, hb3⟩; obtain ⟨r1, r2⟩ := bcellk (k := w.heap.size + 4) hb3 (by simp))
  exact bodyPost_ret (v := .tuple #[.agg #[.int .i64 n.now, .slice (some ⟨b1, o1, none⟩) n.way.length c], .slice none 0 0]) (by simp [results, Try.results17, go_sem, r1]) rfl (ApRes.same H.out rfl (by repeat' (first | with_reducible exact Below.refl _ _ | with_reducible assumption | with_reducible refine Below.trans ?_ (Below.mono hb3 ?_) | with_reducible refine Below.setCell ?_ ?_ _ | with_reducible refine Below.drew ?_ | with_reducible refine below_drewN ?_ _ | with_reducible refine Below.alloc ?_ ?_ _ | (rintro _ ⟨⟩; simp <;> omega) | omega | (simp <;> omega))))

set_option maxRecDepth 100000 in
set_option maxHeartbeats 800000 in
theorem applyR_alter {S : Nat → Prop} {A : Option Addr} {c i : Nat} {n : Nt} {p : Pk} (w : World) (h : Sl pkE S w A c n.way) (hi : n.way[i]? = some p) (by_ : Int) (hl : n.way.length ≤ 4294967296) (hlb : p.b.length ≤ 4294967296) (hpos : 0 < p.b.length) (hby : 0 ≤ by_) :
    Calls Try.prog 17 #[.agg #[.int .i64 n.now, .slice A n.way.length c], .agg #[.int .i64 4, .int .i64 i, .int .i64 by_]] w (ApRes S w (alterF n i p by_) []) := by
  have hil := (List.getElem?_eq_some_iff.1 hi).1
  have h' := h
  have hi' := hi
  obtain ⟨b1, o1, B1, d1, rfl, hSb, hb1, x0, x1, x2, x3, hs1⟩ := pk_at h hi
  have hj0 : (0 : Int) ≤ (i : Int) := by omega
  have hj1 : (i : Int) < (n.way.length : Int) := by omega
  have hb1a : b1 < w.heap.size + 1 := by omega
  have hb1b : b1 < w.heap.size + 1 + 1 := by omega
  have hb1c : b1 < w.heap.size + 1 + 1 + 1 := by omega
  have hjn : decide ((i : Int) < 0) = false := by simp
  have hbW : Below w.heap.size w ((((w.alloc (.cells #[.int .i64 n.now, .slice (some ⟨b1, o1, none⟩) n.way.length c] 26)).alloc (.cells #[.int .i64 4, .int .i64 i, .int .i64 by_] 29)).alloc (.cells #[.int .i64 0, .slice none 0 0] 26)).alloc (.cells #[.int .i64 p.fr, .int .i64 p.to_, .int .i64 p.at_, .slice B1 p.b.length d1] 32)) := (by repeat' (first | with_reducible exact Below.refl _ _ | with_reducible assumption | with_reducible refine Below.setCell ?_ ?_ _ | with_reducible refine Below.drew ?_ | with_reducible refine below_drewN ?_ _ | with_reducible refine Below.alloc ?_ ?_ _ | (rintro _ ⟨⟩; simp <;> omega) | omega | (simp <;> omega)))
  have HbW := Lib.hid hbW
  have H := Lib.hid h'
  have Hi := Lib.hid hi'
  have Hs := Lib.hid hs1
  clear hbW h' hi' h hi hs1
  go_enter Try.func17, Try.ntmps17
  go_wp2_with (go_at_call 31; refine (altered_do (S := fun b => S b ∧ b < w.heap.size) _ _ (H.out.old.keep (Below.agree HbW.out)) Hi.out hlb hl hpos hby).mono ?_; rintro e w3 ⟨A3, c3, rfl, hs3, hb3⟩; obtain ⟨r1, r2⟩ := bcellk (k := w.heap.size + 4) hb3 (by simp))
  refine bodyPost_ret (v := .tuple #[.agg #[.int .i64 n.now, .slice A3 (alterF n i p by_).way.length c3], .slice none 0 0]) (by simp [results, Try.results17, go_sem, r1]) rfl ⟨A3, c3, none, 0, rfl, ?_, Sl.nil_ _ _ _ _ (Nat.zero_le _), (by repeat' (first | with_reducible exact Below.refl _ _ | with_reducible assumption | with_reducible refine Below.trans ?_ (Below.mono hb3 ?_) | with_reducible refine Below.setCell ?_ ?_ _ | with_reducible refine Below.drew ?_ | with_reducible refine below_drewN ?_ _ | with_reducible refine Below.alloc ?_ ?_ _ | (rintro _ ⟨⟩; simp <;> omega) | omega | (simp <;> omega)))⟩
  refine ((hs3.sub (T := fun b => (S b ∧ b < w.heap.size) ∨ w.heap.size + 4 ≤ b) fun b hb _ => hb.imp id (fun h => by simp at h; omega)).only (g := w.heap.size + 2) (by repeat' (first | with_reducible exact Agree.refl _ _ | with_reducible assumption | with_reducible refine Agree.set ?_ ?_ _ | with_reducible refine Agree.alloc ?_ _ | with_reducible refine Agree.drew ?_ | with_reducible refine Agree.drewN ?_ _ | omega | (simp <;> omega))) (by rintro (⟨_, h⟩ | h) <;> omega)).sub fun b hb _ => hb.imp And.left (fun h => by omega)

end
end Go.Proofs.Ytmaaniogcmlfbaa
