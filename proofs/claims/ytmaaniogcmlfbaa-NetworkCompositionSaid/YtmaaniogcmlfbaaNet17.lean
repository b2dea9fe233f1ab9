/-
  Contracts of the network chapter (XNet17).
-/
import Derived.Test.YtmaaniogcmlfbaaNet15
import Derived.Test.YtmaaniogcmlfbaaKeep
namespace Go.Proofs.Ytmaaniogcmlfbaa
open Go.RowKit

set_option maxRecDepth 100000 in
set_option maxHeartbeats 800000 in
theorem applyR_deliver {S : Nat → Prop} {A : Option Addr} {c i : Nat} {n : Nt} {p : Pk} (w : World) (h : Sl pkE S w A c n.way) (hi : n.way[i]? = some p) (by_ : Int) (hl : n.way.length ≤ 4294967296) (hlb : p.b.length ≤ 4294967296) (hp : p.at_ ≤ n.now) :
    Calls Try.prog 17 #[.agg #[.int .i64 n.now, .slice A n.way.length c], .agg #[.int .i64 1, .int .i64 i, .int .i64 by_]] w (ApRes S w (withoutF n i) [p]) := by
  have hil := (List.getElem?_eq_some_iff.1 hi).1
  have h' := h
  obtain ⟨b1, o1, B1, d1, rfl, hSb, hb1, x0, x1, x2, x3, hs1⟩ := pk_at h hi
  have hj0 : (0 : Int) ≤ (i : Int) := by omega
  have hj1 : (i : Int) < (n.way.length : Int) := by omega
  have hb1a : b1 < w.heap.size + 1 := by omega
  have hb1b : b1 < w.heap.size + 1 + 1 := by omega
  have hb1c : b1 < w.heap.size + 1 + 1 + 1 := by omega
  have hjn : decide ((i : Int) < 0) = false := by simp
  have hbW : Below w.heap.size w ((((w.alloc (.cells #[.int .i64 n.now, .slice (some ⟨b1, o1, none⟩) n.way.length c] 26)).alloc (.cells #[.int .i64 1, .int .i64 i, .int .i64 by_] 29)).alloc (.cells #[.int .i64 0, .slice none 0 0] 26)).alloc (.cells #[.int .i64 p.fr, .int .i64 p.to_, .int .i64 p.at_, .slice B1 p.b.length d1] 32)) := (by repeat' (first | with_reducible exact Below.refl _ _ | with_reducible assumption | with_reducible refine Below.setCell ?_ ?_ _ | with_reducible refine Below.drew ?_ | with_reducible refine below_drewN ?_ _ | with_reducible refine Below.alloc ?_ ?_ _ | (rintro _ ⟨⟩; simp <;> omega) | omega | (simp <;> omega)))
  have kb : KB (w.heap.size + 4) [(w.heap.size + 2, 2)] ((((w.alloc (.cells #[.int .i64 n.now, .slice (some ⟨b1, o1, none⟩) n.way.length c] 26)).alloc (.cells #[.int .i64 1, .int .i64 i, .int .i64 by_] 29)).alloc (.cells #[.int .i64 0, .slice none 0 0] 26)).alloc (.cells #[.int .i64 p.fr, .int .i64 p.to_, .int .i64 p.at_, .slice B1 p.b.length d1] 32)) w ((((w.alloc (.cells #[.int .i64 n.now, .slice (some ⟨b1, o1, none⟩) n.way.length c] 26)).alloc (.cells #[.int .i64 1, .int .i64 i, .int .i64 by_] 29)).alloc (.cells #[.int .i64 0, .slice none 0 0] 26)).alloc (.cells #[.int .i64 p.fr, .int .i64 p.to_, .int .i64 p.at_, .slice B1 p.b.length d1] 32)) := ⟨((Keep.start1 (g := w.heap.size + 2) (k := 2) (W := ((w.alloc (.cells #[.int .i64 n.now, .slice (some ⟨b1, o1, none⟩) n.way.length c] 26)).alloc (.cells #[.int .i64 1, .int .i64 i, .int .i64 by_] 29))) (by simp) rfl rfl).alloc _).rebase (by simp), hbW, by omega, by simp⟩
  have Kb := Lib.hid kb
  have H := Lib.hid h'
  have Hs := Lib.hid hs1
  clear hbW kb h' h hi hs1
  obtain ⟨r1, r2, r3, r4, -⟩ := KB.rules (w.heap.size + 4) [(w.heap.size + 2, 2)] ((((w.alloc (.cells #[.int .i64 n.now, .slice (some ⟨b1, o1, none⟩) n.way.length c] 26)).alloc (.cells #[.int .i64 1, .int .i64 i, .int .i64 by_] 29)).alloc (.cells #[.int .i64 0, .slice none 0 0] 26)).alloc (.cells #[.int .i64 p.fr, .int .i64 p.to_, .int .i64 p.at_, .slice B1 p.b.length d1] 32)) w
  go_enter Try.func17, Try.ntmps17
  go_wp2_with fail
  have kb := Kb.out
  go_region_held3 (fun X => KB (w.heap.size + 4) [(w.heap.size + 2, 2)] ((((w.alloc (.cells #[.int .i64 n.now, .slice (some ⟨b1, o1, none⟩) n.way.length c] 26)).alloc (.cells #[.int .i64 1, .int .i64 i, .int .i64 by_] 29)).alloc (.cells #[.int .i64 0, .slice none 0 0] 26)).alloc (.cells #[.int .i64 p.fr, .int .i64 p.to_, .int .i64 p.at_, .slice B1 p.b.length d1] 32)) w X) (first | with_reducible assumption | (with_reducible refine KB.drew ?_; with_reducible assumption) | (with_reducible refine KB.alloc ?_ _; with_reducible assumption) | (refine KB.call ?_ (by assumption); with_reducible assumption) | (refine KB.set (KB.set (by assumption) (by simp) _) (by simp) _))
    (first
      | (go_at_call 29; refine (without_any (S := fun b => S b ∧ b < w.heap.size) _ (H.out.old.keep (Below.agree (KB.below (by assumption)))) hil hl).mono ?_; rintro e w3 ⟨A3, c3, rfl, hs3, hb3⟩)
      | (go_at_call 30; refine (copied_any (S := fun b => S b ∧ b < w.heap.size) _ _ _ _ (Hs.out.old.keep (Below.agree (KB.below (by assumption)))) hlb).mono ?_; rintro e w4 ⟨A4, c4, rfl, hown4, hb4⟩))
  all_goals
    go_wp2_with fail
    have kb3 := KB.call (KB.drew kb) hb3
    have kb4 := KB.call kb3 hb4
    have kb5 := KB.alloc kb4 (.cells #[.int .i64 p.fr, .int .i64 p.to_, .int .i64 p.at_, .slice A4 p.b.length c4] 32)
    have hz3 := kb3.keep.le
    have hz4 := kb4.keep.le
    have hz42 : w.heap.size + 2 < w4.heap.size := by omega
    have hrep : pkE.rep (fun b => (S b ∧ b < w.heap.size) ∨ w.heap.size + 4 ≤ b) w4 [.int .i64 p.fr, .int .i64 p.to_, .int .i64 p.at_, .slice A4 p.b.length c4] p := pkE_shut (hown4.sl (T := fun b => (S b ∧ b < w.heap.size) ∨ w.heap.size + 4 ≤ b) (fun _ hb _ => .inl hb) (fun b hb _ => .inr (Nat.le_trans hz3 hb)))
    have hrep2 := fun u v => pkE.keep hrep (((Agree.refl (fun b => (S b ∧ b < w.heap.size) ∨ w.heap.size + 4 ≤ b) w4).set (p := ⟨w.heap.size + 1 + 1, 0, none⟩) (by rintro (⟨_, h⟩ | h) <;> simp at h <;> omega) u).set (p := ⟨w.heap.size + 1 + 1, 1, none⟩) (by rintro (⟨_, h⟩ | h) <;> simp at h <;> omega) v)
    refine bodyPost_ret (v := .tuple #[.agg #[.int .i64 n.now, .slice A3 (n.way.eraseIdx i).length c3], .slice (some ⟨w4.heap.size, 0, none⟩) 1 1]) (by simp [results, Try.results17, go_sem, r3, kb4, hz42]) rfl ⟨A3, c3, some ⟨w4.heap.size, 0, none⟩, 1, rfl, ?_, ?_, ?_⟩
    · refine (((hs3.sub (T := fun b => (S b ∧ b < w.heap.size) ∨ w.heap.size + 4 ≤ b) fun b hb _ => hb.imp id (fun h => by simp at h; omega)).keep (Below.agree hb4)).only (g := w.heap.size + 2) (by repeat' (first | with_reducible exact Agree.refl _ _ | with_reducible assumption | with_reducible refine Agree.set ?_ ?_ _ | with_reducible refine Agree.alloc ?_ _ | with_reducible refine Agree.drew ?_ | with_reducible refine Agree.drewN ?_ _ | omega | (simp <;> omega))) (by rintro (⟨_, h⟩ | h) <;> omega)).sub fun b hb _ => hb.imp And.left (fun h => by omega)
    · first
        | refine ((Sl.litAt (T := fun b => (S b ∧ b < w.heap.size) ∨ w.heap.size + 4 ≤ b) rfl (.single hrep) (by unfold maxLen; simp) (fun _ hb _ => hb) (.inr hz4)).only (g := w.heap.size + 2) (by repeat' (first | with_reducible exact Agree.refl _ _ | with_reducible assumption | with_reducible refine Agree.set ?_ ?_ _ | with_reducible refine Agree.alloc ?_ _ | with_reducible refine Agree.drew ?_ | with_reducible refine Agree.drewN ?_ _ | omega | (simp <;> omega))) (by rintro (⟨_, h⟩ | h) <;> omega)).sub fun b hb _ => hb.imp And.left (fun h => by omega)
        | refine (Sl.litAt (T := fun b => (S b ∧ b < w.heap.size) ∨ w.heap.size + 4 ≤ b) (by simp [World.setCell]) (.single (hrep2 _ _)) (by unfold maxLen; simp) (fun _ hb _ => hb) (.inr hz4)).sub fun b hb _ => hb.imp And.left (fun h => by omega)
    · first
        | exact (KB.set (KB.set kb5 (by simp) _) (by simp) _).below
        | exact ((KB.set (KB.set kb4 (by simp) _) (by simp) _).alloc _).below
end Go.Proofs.Ytmaaniogcmlfbaa
