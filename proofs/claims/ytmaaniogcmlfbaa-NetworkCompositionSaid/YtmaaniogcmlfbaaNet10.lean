/-
  Contracts of the network chapter (XNet10).
-/
import Derived.Test.YtmaaniogcmlfbaaNet8
import Derived.Test.YtmaaniogcmlfbaaStore
namespace Go.Proofs.Ytmaaniogcmlfbaa
open Go.RowKit

set_option maxRecDepth 100000 in
set_option maxHeartbeats 800000 in
theorem alter_no {S : Nat → Prop} {g i : Nat} {n : Nt} {p : Pk} {A : Option Addr} {c : Nat} (kd by_ : Int) (w : World) (hg : w.heap[g]? = some (.cells #[.int .i64 n.now, .slice A n.way.length c] 53 (0, 0)))
    (h : Sl pkE S w A c n.way) (hi : n.way[i]? = some p) (hl : p.b.length ≤ 4294967296) (hno : p.b.length = 0 ∨ by_ < 0) :
    Calls Try.prog 27 #[.pointer (some ⟨g, 0, none⟩), .agg #[.int .i64 kd, .int .i64 i, .int .i64 by_]] w fun e w' => e = .returned (.slice none 0 0) ∧ Below w.heap.size w w' := by
  have hc1 := cell_of_row w g 1 _ _ _ hg
  have hlt := heap_lt hg
  simp at hc1
  have hil := (List.getElem?_eq_some_iff.1 hi).1
  obtain ⟨b1, o1, B1, d1, rfl, hSb, hb1, x0, x1, x2, x3, hs1⟩ := pk_at h hi
  have hbW : Below w.heap.size w (w.alloc (.cells #[.int .i64 kd, .int .i64 i, .int .i64 by_] 29)).drew := (by repeat' (first | with_reducible exact Below.refl _ _ | with_reducible assumption | with_reducible refine Below.setCell ?_ ?_ _ | with_reducible refine Below.drew ?_ | with_reducible refine below_drewN ?_ _ | with_reducible refine Below.alloc ?_ ?_ _ | (rintro _ ⟨⟩; simp <;> omega) | omega | (simp <;> omega)))
  have fin := cloneB (S := fun b => S b ∧ b < w.heap.size) _ (hs1.old.keep (Below.agree hbW)) hl
  have Fin := Lib.hid fin
  have HbW := Lib.hid hbW
  clear fin hbW hg hi h hs1
  have hj0 : (0 : Int) ≤ (i : Int) := by omega
  have hj1 : (i : Int) < (n.way.length : Int) := by omega
  by_cases h0 : p.b.length = 0
  · have h0' : ((p.b.length : Int) == 0) = true := by rw [h0]; rfl
    clear h0 hno
    go_enter Try.func27, Try.ntmps27
    go_wp2_with fail
    go_region_law (first
      | (go_simp; go_at_call 32; refine Fin.out.mono ?_; rintro e w3 ⟨A3, c3, rfl, hown3, hb3⟩; obtain ⟨hc3, hf3⟩ := bcellk (k := w.heap.size + 1) hb3 (by simp)))
    all_goals
      go_wp2_with fail
      go_ret
      exact ⟨rfl, HbW.out.trans (hb3.mono HbW.out.size)⟩
  · have hby : by_ < 0 := by omega
    have h0' : ((p.b.length : Int) == 0) = false := by rw [beq_eq_false_iff_ne]; omega
    clear h0 hno
    go_enter Try.func27, Try.ntmps27
    go_wp2_with fail
    go_region_law (first
      | (go_simp; go_at_call 32; refine Fin.out.mono ?_; rintro e w3 ⟨A3, c3, rfl, hown3, hb3⟩; obtain ⟨hc3, hf3⟩ := bcellk (k := w.heap.size + 1) hb3 (by simp)))
    all_goals
      go_wp2_with fail
      go_ret
      exact ⟨rfl, HbW.out.trans (hb3.mono HbW.out.size)⟩

theorem altU_val (u : UInt8) (by_ m : Int) : ((altU u by_ m).toNat : Int) = bits BinOp.xor IntKind.u8 (u.toNat : Int) (wrap64 (1 + (wrap64 (by_.tdiv m)).tmod 255) % 256) := by
  have h : ∀ x : Int, 0 ≤ IntKind.u8.wrap x ∧ IntKind.u8.wrap x < 256 := fun x => by rw [IntKind.wrap_u8]; omega
  obtain ⟨h1, h2⟩ : 0 ≤ bits BinOp.xor IntKind.u8 (u.toNat : Int) (xv by_ m) ∧ bits BinOp.xor IntKind.u8 (u.toNat : Int) (xv by_ m) < 256 := by unfold bits; exact h _
  show ((UInt8.ofNat (bits BinOp.xor IntKind.u8 (u.toNat : Int) (xv by_ m)).toNat).toNat : Int) = bits BinOp.xor IntKind.u8 (u.toNat : Int) (xv by_ m)
  rw [UInt8.toNat_ofNat']
  omega

theorem pk_setB {S : Nat → Prop} {w : World} {B : Option Addr} {d : Nat} {p : Pk} {b' : List UInt8} (hs : Sl .u8 S w B d b') : ∀ {way : List Pk} {cs : List Value} {i : Nat}, Elems pkE S w cs way → way[i]? = some p →
    Elems pkE S w (cs.set (i * 4 + 3) (.slice B b'.length d)) (way.set i { p with b := b' })
  | q :: way, cs, 0, ⟨c, d', e, h1, h2⟩, hi => by
    simp only [List.getElem?_cons_zero, Option.some.injEq] at hi
    subst hi; subst e
    obtain ⟨A, c', rfl, _⟩ := pkE_open h1
    exact ⟨[_, _, _, _], d', rfl, pkE_shut (p := { q with b := b' }) hs, h2⟩
  | q :: way, cs, i + 1, ⟨c, d', e, h1, h2⟩, hi => by
    subst e
    obtain ⟨A, c', rfl, _⟩ := pkE_open h1
    refine ⟨[_, _, _, _], d'.set (i * 4 + 3) (.slice B b'.length d), ?_, h1, pk_setB hs h2 (by simpa using hi)⟩
    rw [show (i + 1) * 4 + 3 = (i * 4 + 3) + 4 from by omega]
    rfl

theorem kcell {k : Nat} {W w1 : World} (hb : Below k W w1) :
    (∀ b o, b < k → w1.cell? ⟨b, o, none⟩ = W.cell? ⟨b, o, none⟩) ∧ (∀ b o, b < k → w1.frozen? ⟨b, o, none⟩ = W.frozen? ⟨b, o, none⟩) :=
  ⟨fun b o h => hb.cell (p := ⟨b, o, none⟩) h, fun b o h => hb.frozen (p := ⟨b, o, none⟩) h⟩

theorem alter_close {S : Nat → Prop} {g g3 g5 c3 c5 B5 i : Nat} {n : Nt} {p : Pk} {A : Option Addr} {c : Nat} {by_ : Int} {w W4 w5 : World} (hg : w.heap[g]? = some (.cells #[.int .i64 n.now, .slice A n.way.length c] 53 (0, 0)))
    (hS : ¬ S g) (hi : n.way[i]? = some p) (hb4 : Below w.heap.size w W4) (own4 : Own .u8 (fun _ => False) W4 w.heap.size 5 (.slice (some ⟨g3, 0, none⟩) p.b.length c3) (altB by_ p.b))
    (hg3 : w.heap.size ≤ g3) (hg3' : g3 < W4.heap.size) (hb5 : Below W4.heap.size W4 w5) (hown5 : Own pkE (fun b => S b ∧ b < w.heap.size) w5 B5 32 (.slice (some ⟨g5, 0, none⟩) n.way.length c5) n.way) (hB5 : W4.heap.size ≤ B5) :
    ∃ A' c', (((w5.setCell ⟨g, 1, none⟩ (.slice (some ⟨g5, 0, none⟩) n.way.length c5)).setCell ⟨g5, i * 4 + 3, none⟩ (.slice (some ⟨g3, 0, none⟩) p.b.length c3)).drew).heap[g]? = some (.cells #[.int .i64 n.now, .slice A' (alterF n i p by_).way.length c'] 53 (0, 0)) ∧
      Sl pkE (Fresh S w) (((w5.setCell ⟨g, 1, none⟩ (.slice (some ⟨g5, 0, none⟩) n.way.length c5)).setCell ⟨g5, i * 4 + 3, none⟩ (.slice (some ⟨g3, 0, none⟩) p.b.length c3)).drew) A' c' (alterF n i p by_).way ∧
      w.grownBy (((w5.setCell ⟨g, 1, none⟩ (.slice (some ⟨g5, 0, none⟩) n.way.length c5)).setCell ⟨g5, i * 4 + 3, none⟩ (.slice (some ⟨g3, 0, none⟩) p.b.length c3)).drew) (some g) := by
  have hlt := heap_lt hg
  have hz4 := hb4.size
  have hg5 := hown5.lt g5 rfl
  have hlen : (alterF n i p by_).way.length = n.way.length := by simp [alterF]
  have hb45 := hb4.trans (hb5.mono hz4)
  have hab : (altB by_ p.b).length = p.b.length := by simp [altB]
  refine ⟨some ⟨g5, 0, none⟩, c5, ?_, ?_, ?_⟩
  · rw [hlen]
    exact (Below.heap_setCell _ _ _ _ (by simp; omega)).trans (heap_set (i := 1) ((hb45.block g hlt).trans hg))
  · have own4' : Sl .u8 (fun b => b = g3) w5 (some ⟨g3, 0, none⟩) c3 (altB by_ p.b) := by
      refine Sl.keep (Own.sl (by rw [hab]; exact own4) (fun _ h _ => False.elim h) (fun b _ hb => by simp [Value.ownBlock] at hb; exact hb.symm)) (Below.agree hb5)
    have h1 : Own pkE (fun b => (S b ∧ b < w.heap.size) ∨ b = g3) (w5.setCell ⟨g, 1, none⟩ (.slice (some ⟨g5, 0, none⟩) n.way.length c5)) B5 32 (.slice (some ⟨g5, 0, none⟩) n.way.length c5) n.way :=
      (hown5.sub fun _ h _ => .inl h).set (by simp [Value.ownBlock]; omega) (by rintro (h | h); exact hS h.1; simp at h; omega) _
    have h2 := h1.stored (j := i * 4 + 3) (u := .slice (some ⟨g3, 0, none⟩) p.b.length c3) (ys := (alterF n i p by_).way) (by rintro (h | h); omega; omega) hlen (fun cs hel => by
      have h3 := pk_setB (B := some ⟨g3, 0, none⟩) (d := c3) (b' := altB by_ p.b) ((own4'.sub fun b h _ => .inr h).keep ((Agree.refl _ _).set (by rintro (h | h); exact hS h.1; simp at h; omega) _)) hel hi
      rw [hab] at h3
      exact h3) rfl
    refine ((Own.toSl h2 (T := Fresh S w) (fun b hb _ => ?_) (fun b hb _ _ => .inr (by omega)))).drew
    rcases hb with hb | hb
    · exact .inl hb.1
    · exact .inr (by omega)
  · exact ⟨hb45.os, hb45.tape, hb45.output, by simpa [World.setCell, World.drew] using hb45.size, fun k hk hne => (Below.heap_setCell _ _ _ _ (by simp; omega)).trans ((Below.heap_setCell _ _ _ _ (by intro e; subst e; exact hne rfl)).trans (hb45.block k hk))⟩

end Go.Proofs.Ytmaaniogcmlfbaa
