/-
  Contracts of the network chapter (XNet11).
-/
import Derived.Test.YtmaaniogcmlfbaaNet10
namespace Go.Proofs.Ytmaaniogcmlfbaa
open Go.RowKit

set_option maxRecDepth 100000 in
set_option maxHeartbeats 800000 in
theorem alter_do {S : Nat → Prop} {g i : Nat} {n : Nt} {p : Pk} {A : Option Addr} {c : Nat} (kd by_ : Int) (w : World) (hg : w.heap[g]? = some (.cells #[.int .i64 n.now, .slice A n.way.length c] 53 (0, 0)))
    (h : Sl pkE S w A c n.way) (hS : ¬ S g) (hi : n.way[i]? = some p) (hl : p.b.length ≤ 4294967296) (hlw : n.way.length ≤ 4294967296) (hpos : 0 < p.b.length) (hby : 0 ≤ by_) :
    Calls Try.prog 27 #[.pointer (some ⟨g, 0, none⟩), .agg #[.int .i64 kd, .int .i64 i, .int .i64 by_]] w fun e w' => e = .returned (.slice none 0 0) ∧
      ∃ A' c', w'.heap[g]? = some (.cells #[.int .i64 n.now, .slice A' (alterF n i p by_).way.length c'] 53 (0, 0)) ∧ Sl pkE (Fresh S w) w' A' c' (alterF n i p by_).way ∧ w.grownBy w' (some g) := by
  have hc1 := cell_of_row w g 1 _ _ _ hg
  have hlt := heap_lt hg
  simp at hc1
  have hil := (List.getElem?_eq_some_iff.1 hi).1
  obtain ⟨b1, o1, B1, d1, rfl, hSb, hb1, x0, x1, x2, x3, hs1⟩ := pk_at h hi
  have hbW : Below w.heap.size w (w.alloc (.cells #[.int .i64 kd, .int .i64 i, .int .i64 by_] 29)).drew := (by repeat' (first | with_reducible exact Below.refl _ _ | with_reducible assumption | with_reducible refine Below.setCell ?_ ?_ _ | with_reducible refine Below.drew ?_ | with_reducible refine below_drewN ?_ _ | with_reducible refine Below.alloc ?_ ?_ _ | (rintro _ ⟨⟩; simp <;> omega) | omega | (simp <;> omega)))
  have fin := cloneB (S := fun b => S b ∧ b < w.heap.size) _ (hs1.old.keep (Below.agree hbW)) hl
  have Fin := Lib.hid fin
  have HbW := Lib.hid hbW
  have H := Lib.hid h
  have Hg := Lib.hid hg
  have fg : w.frozen? ⟨g, 1, none⟩ = false := by simp [World.frozen?, hg]
  have Hi := Lib.hid hi
  clear fin hbW hg hi h hs1
  have hj0 : (0 : Int) ≤ (i : Int) := by omega
  have hj1 : (i : Int) < (n.way.length : Int) := by omega
  have h0' : ((p.b.length : Int) == 0) = false := by rw [beq_eq_false_iff_ne]; omega
  have hby' : ¬ by_ < 0 := by omega
  have hr1 : (0 : Int) ≤ by_ % (p.b.length : Int) := Int.emod_nonneg _ (by omega)
  have hr2 : by_ % (p.b.length : Int) < (p.b.length : Int) := Int.emod_lt_of_pos _ (by omega)
  go_enter Try.func27, Try.ntmps27
  go_wp2_with fail
  go_region_law (first
    | (go_simp; go_at_call 32; refine Fin.out.mono ?_; rintro e w3 ⟨A3, c3, rfl, hown3, hb3⟩; obtain ⟨hc3, hf3⟩ := bcellk (k := w.heap.size + 1) hb3 (by simp)))
  all_goals
    obtain ⟨g3, rfl, hg3, hg3lt, _⟩ := hown3.block hpos
    simp at hg3
    have hlt1 : g < w.heap.size + 1 := by omega
    have hne3 : g3 ≠ g := by omega
    have hne3' : g ≠ g3 := by omega
    obtain ⟨k, hk⟩ : ∃ k : Nat, by_ % (p.b.length : Int) = k := ⟨(by_ % (p.b.length : Int)).toNat, by omega⟩
    have hkl : k < p.b.length := by omega
    have hcell := u8_cell hown3 hkl
    have hfr := hown3.frozen k
    have Hown3 := Lib.hid hown3
    have H3 := Lib.hid hb3
    have Hk := Lib.hid hk
    clear hown3 hb3
    have hb34 : Below (w.heap.size + 1) (w.alloc (.cells #[.int .i64 kd, .int .i64 i, .int .i64 by_] 29)).drew (w3.setCell ⟨g3, k, none⟩ (.int .u8 ((altU p.b[k] by_ p.b.length).toNat : Int))) := (H3.out.mono (by simp)).setCell (by simp; omega) _
    obtain ⟨hc4, hf4⟩ := kcell hb34
    have own4 : Own .u8 (fun _ => False) (w3.setCell ⟨g3, k, none⟩ (.int .u8 ((altU p.b[k] by_ p.b.length).toNat : Int))) w.heap.size 5 (.slice (some ⟨g3, 0, none⟩) p.b.length c3) (altB by_ p.b) := by
      have h1 := (u8_store (k := k) Hown3.out (altU p.b[k] by_ p.b.length)).u8any (T := fun _ => False)
      have h2 : altB by_ p.b = p.b.set k (altU p.b[k] by_ p.b.length) := by
        unfold altB
        rw [Hk.out, Int.toNat_natCast, List.getD_eq_getElem?_getD, List.getElem?_eq_getElem hkl]
        rfl
      rw [h2]
      exact h1.lower (by simp)
    have HbW4 := Lib.hid (HbW.out.trans (hb34.mono (by simp)))
    have Own4 := Lib.hid own4
    have hz4 : g3 < (w3.setCell ⟨g3, k, none⟩ (.int .u8 ((altU p.b[k] by_ p.b.length).toNat : Int))).heap.size := by simpa [World.setCell] using hg3lt
    have hz4' : w.heap.size + 1 ≤ (w3.setCell ⟨g3, k, none⟩ (.int .u8 ((altU p.b[k] by_ p.b.length).toNat : Int))).heap.size := by omega
    clear hb34 own4
    go_wp2_with fail
    go_region
    rw [← altU_val]
    generalize hW4 : w3.setCell ⟨g3, k, none⟩ (.int .u8 ((altU p.b[k] by_ p.b.length).toNat : Int)) = W4 at *
    have HW4 := Lib.hid hW4
    clear hW4 hcell hfr hc3 hf3
    have hlw0 : 0 < n.way.length := by omega
    go_wp2_with (go_at_call 35; refine (cloneP (S := fun b => S b ∧ b < w.heap.size) _ ((H.out.old.keep (Below.agree HbW4.out)).drew) hlw).mono ?_; rintro e w5 ⟨A5, c5, rfl, hown5, hb5⟩; obtain ⟨g5, rfl, hg5, hg5lt, _⟩ := hown5.block hlw0; obtain ⟨hc5, hf5⟩ := bcellk (k := w.heap.size + 1) hb5 hz4')
    obtain ⟨cs5, hr5, hx5⟩ := hown5.at_ Hi.out
    obtain ⟨A6, c6, rfl, _⟩ := pkE_open hr5
    have x53 : w5.cell? ⟨g5, i * 4 + 3, none⟩ = some (.slice A6 p.b.length c6) := hx5 3 _ rfl
    have f53 := hown5.frozen (i * 4 + 3)
    have Hown5 := Lib.hid hown5
    have Hb5 := Lib.hid hb5
    clear hown5 hb5 hx5 hr5
    have hge5 : W4.heap.size ≤ g5 := hg5
    have hne5 : g5 ≠ g := by omega
    have hne5' : g ≠ g5 := by omega
    go_region
    all_goals
      go_wp2_with fail
      go_ret
      refine ⟨rfl, ?_⟩
      exact alter_close Hg.out hS Hi.out HbW4.out Own4.out (by omega) hz4 (((Below.refl W4.heap.size W4).drew).trans Hb5.out) Hown5.out (Nat.le_refl _)
end Go.Proofs.Ytmaaniogcmlfbaa
