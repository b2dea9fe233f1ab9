/-
  Texts of this claim, merged: Rd13, Rd15, Rd16. Conditions: as each theorem says.
-/
import Derived.Deep.DeepCutAuto
import Derived.Test.YtpdblgchfkcgpaaV1
import Derived.Test.YtpdblgchfkcgpaaV2
import Derived.Test.YtpdblgchfkcgpaaV3
import Derived.Test.YtpdblgchfkcgpaaV4
import Derived.Test.YtpdblgchfkcgpaaV5
set_option linter.unusedSimpArgs false
set_option linter.unusedVariables false
namespace Go.Proofs.Ytpdblgchfkcgpaa
open Go.RowKit

def bitsK (s : Str) (log : Int) : Nat → List (List Int)
  | 0 => []
  | j + 1 => bitsK s log j ++ bitsOfF s log j
theorem bitsK_all (s : Str) (log : Int) : bitsK s log 4 = bitsF s log := by simp [bitsK, bitsF]
def bitsT (s : Str) (log : Int) (j k : Nat) : List (List Int) := bitsK s log j ++ (List.range k).map (bitColF s log j)
theorem bitsT_zero (s : Str) (log : Int) (j : Nat) : bitsT s log j 0 = bitsK s log j := by simp [bitsT]
theorem bitsT_succ (s : Str) (log : Int) (j k : Nat) : bitsT s log j (k + 1) = bitsT s log j k ++ [bitColF s log j k] := by simp [bitsT, List.range_succ]
theorem bitsT_width (s : Str) (log : Int) (j : Nat) : bitsT s log j (widthF j) = bitsK s log (j + 1) := rfl
theorem bitsK_len (s : Str) (log : Int) (j : Nat) (h : j ≤ 4) : (bitsK s log j).length ≤ 24 := by
  rcases (by omega : j = 0 ∨ j = 1 ∨ j = 2 ∨ j = 3 ∨ j = 4) with rfl | rfl | rfl | rfl | rfl <;> simp [bitsK, bitsOfF, widthF]

set_option maxRecDepth 100000 in
set_option maxHeartbeats 4000000 in
theorem bitsP_ok {s : Str} {A B : Option Addr} {c d : Nat} {log : Int} {S : Nat → Prop} (w : World) (he : checkF s.l.length log = 0) (h : Sl rdE S w A c s.l) (ok : OkStr s) :
    Calls Try.prog 19 #[.agg #[.slice A s.l.length c, .slice B s.g.length d], .int .i64 log] w (ColRes w (bitsF s log, 0)) := by
  have hr0 : 0 ≤ log ∧ log ≤ 16 ∧ s.l.length ≤ 2 ^ log.toNat := by
    unfold checkF at he
    split at he
    · simp at he
    · split at he
      · simp at he
      · omega
  obtain ⟨h0, h1, hn⟩ := hr0
  obtain ⟨N, hN, hw, hN1, hN2⟩ := pow_log log h0 h1
  rw [hN] at hn
  have HN := Lib.hid hN
  have Hw := Lib.hid hw
  have He := Lib.hid he
  have H := Lib.hid h
  have Hval := Lib.hid ok.valid
  clear hN hw he h ok
  have ix0 := ix_0
  have ix1 := ix_1
  have ix2 := ix_2
  have ix3 := ix_3
  go_enter Try.func19, Try.ntmps19
  go_wp2_with (first
    | (go_at_call 25; refine (rdCheckP s A B c d log _).mono ?_; rw [He.out]; rintro e w1 ⟨rfl, hb1⟩)
    | (go_at_call 26; refine (fieldsP _).mono ?_; rintro e w2 ⟨rfl, hb2⟩))
  have hbW : Below (w.heap.size + 1) (w.alloc (.cells #[.slice A s.l.length c, .slice B s.g.length d] 28)) w2 := by
    have h1 : Below (w.heap.size + 1) (w.alloc (.cells #[.slice A s.l.length c, .slice B s.g.length d] 28)) w1 := by simpa using hb1
    exact h1.trans (hb2.mono (by have := h1.size; simpa using this))
  have hzW : w.heap.size + 1 ≤ w2.heap.size := by have := hbW.size; simpa using this
  have HbW := Lib.hid hbW
  clear hb1 hb2 hbW
  go_loopw [7, 18] (fun v i wr => ∃ (j n : Nat) (F : Nat → Prop) (xs : List (List Int)) (A1 : Option Addr) (c1 : Nat), j ≤ 4 ∧ i = .int .i64 j ∧ v = .slice A1 n c1 ∧ xs = bitsK s log j ∧ ColsF F (w.alloc (.cells #[.slice A s.l.length c, .slice B s.g.length d] 28)) (w.heap.size + 1) xs v wr) (fun _ i _ => 4 - (intOf i).toNat)
  case atStart =>
    refine ⟨0, 0, fun _ => False, [], none, 0, by omega, rfl, rfl, rfl, ColsF.nil (by have := HbW.out; simpa using this) (by simp) hzW⟩
  case round =>
    obtain ⟨j, n0, F, xs, A1, c1, hj, rfl, rfl, hxs, hC⟩ := hrel
    have hbl : Below (w.heap.size + 1) (w.alloc (.cells #[.slice A s.l.length c, .slice B s.g.length d] 28)) wr := by have := hC.bel; simpa using this
    have hlw : w.heap.size < wr.heap.size := by have := hbl.size; simp at this; omega
    have hne : w.heap.size ≠ wr.heap.size := by omega
    have HC := Lib.hid hC
    have Hxs := Lib.hid hxs
    clear hbl hC hxs
    rcases (by omega : j = 0 ∨ j = 1 ∨ j = 2 ∨ j = 3 ∨ j = 4) with rfl | rfl | rfl | rfl | rfl
    · rw [show Value.int IntKind.i64 ((0 : Nat) : Int) = Value.int IntKind.i64 0 from rfl]
      go_wp2_with fail
      obtain ⟨wo, hwo⟩ : ∃ wo : World, wo = wr := ⟨_, rfl⟩
      subst hwo
      go_loopw [7, 23] (fun v i wr => ∃ (k n : Nat) (F : Nat → Prop) (xs : List (List Int)) (A1 : Option Addr) (c1 : Nat), k ≤ 4 ∧ i = .int .i64 k ∧ v = .slice A1 n c1 ∧ xs = bitsT s log 0 k ∧ ColsF F (w.alloc (.cells #[.slice A s.l.length c, .slice B s.g.length d] 28)) (w.heap.size + 1) xs v wr ∧ wr.heap[wo.heap.size]? = some (.cells #[.func (.func 48) #[] #[], .int .i64 4] 64 (0, 0)) ∧ (∀ g, v.ownBlock = some g → g ≠ wo.heap.size)) (fun _ i _ => 4 - (intOf i).toNat)
      case atStart =>
        refine ⟨0, n0, F, xs, A1, c1, by omega, rfl, rfl, by rw [Hxs.out, bitsT_zero], ⟨HC.out.own.alloc _, fun b hb => by have := HC.out.lt b hb; simp; omega, HC.out.nF, HC.out.ge, HC.out.bel.alloc HC.out.bel.size _, HC.out.base, by have := HC.out.size; simp; omega⟩, heap_alloc_at rfl, fun g hg => by have := (HC.out.own.lt g hg).2; omega⟩
      case round =>
        obtain ⟨k, n1, F2, ys, A2, c2, hk, rfl, rfl, hys, hC2, hbf, hnf⟩ := hrel
        have hbl : Below (w.heap.size + 1) (w.alloc (.cells #[.slice A s.l.length c, .slice B s.g.length d] 28)) wr := by have := hC2.bel; simpa using this
        have hlr : w.heap.size < wr.heap.size := by have := hbl.size; simp at this; omega
        have hlf := heap_lt hbf
        have hyl : ys.length = n1 := (Own.len hC2.own).symm
        have hy24 : n1 ≤ 32 := by rw [← hyl, hys]; have := bitsK_len s log 0 (by omega); simp [bitsT]; omega
        have x0 : wr.cell? ⟨w.heap.size, 0, none⟩ = some (.slice A s.l.length c) := (hbl.cell (p := ⟨w.heap.size, 0, none⟩) (by simp)).trans (cell_of_row _ _ 0 _ _ _ (heap_alloc_at rfl))
        have x1 : wr.cell? ⟨w.heap.size, 1, none⟩ = some (.slice B s.g.length d) := (hbl.cell (p := ⟨w.heap.size, 1, none⟩) (by simp)).trans (cell_of_row _ _ 1 _ _ _ (heap_alloc_at rfl))
        have f0 := cell_of_row _ _ 0 _ _ _ hbf
        have hner : w.heap.size ≠ wr.heap.size := by omega
        have hsl : Sl rdE S wr A c s.l := H.out.keep (Below.agree (((Below.refl _ _).alloc (Nat.le_refl _) _).trans (hbl.mono (by omega))))
        have Hsl := Lib.hid hsl
        have HC2 := Lib.hid hC2
        have Hys := Lib.hid hys
        have Hyl := Lib.hid hyl
        have Hbf := Lib.hid hbf
        have hk0 : (0 : Int) ≤ (k : Int) := by omega
        clear hbl hsl hC2 hys hyl hbf
        by_cases hlt : k < 4
        · have hk1 : (k : Int) < 4 := by omega
          have hf : ∀ (j : Nat) (W : World), j < s.l.length → Below (wr.alloc (.cells #[.int .i64 k] 3)).heap.size (wr.alloc (.cells #[.int .i64 k] 3)) W → Calls Try.prog 45 #[.int .i64 j, .pointer (some ⟨wo.heap.size, 0, none⟩), .pointer (some ⟨w.heap.size, 0, none⟩), .pointer (some ⟨wr.heap.size, 0, none⟩)] W fun e W' => e = .returned (.int .u64 (bitF (s.l.getD j zeroRd).who k)) ∧ Below W.heap.size W W' := by
            intro j W hj hbW'
            have hbW : Below (wr.heap.size + 1) (wr.alloc (.cells #[.int .i64 k] 3)) W := by simpa using hbW'
            have hv := Hval.out _ (List.getElem_mem hj)
            have hr : s.l[j]? = some (s.l.getD j zeroRd) := by simp [hj]
            have hv' : ValidR (s.l.getD j zeroRd) := by simpa [hj] using hv
            obtain ⟨⟨v1, v2⟩, ⟨v3, v4⟩, ⟨v5, v6⟩, v7, v8⟩ := hv'
            exact bits1_1 W ((hbW.cell (p := ⟨wo.heap.size, 0, none⟩) (by simp; omega)).trans ((World.cell?_of_block (a := ⟨wo.heap.size, 0, none⟩) (Below.heap_alloc _ _ _ hlf)).trans f0)) ((hbW.cell (p := ⟨w.heap.size, 0, none⟩) (by simp; omega)).trans ((World.cell?_of_block (a := ⟨w.heap.size, 0, none⟩) (Below.heap_alloc _ _ _ hlr)).trans x0)) ((hbW.cell (p := ⟨wr.heap.size, 0, none⟩) (by simp)).trans (cell_of_row _ _ 0 _ _ _ (heap_alloc_at rfl))) (Hsl.out.keep (Below.agree (((Below.refl _ _).alloc (Nat.le_refl _) _).trans (hbW.mono (by omega))))) hr (by omega) (by omega) (by omega)
          have Hf := Lib.hid hf
          clear hf
          go_wp2_with (first
            | (go_at_call 27; go_must (refine (column_3 (n := s.l.length) (N := N) (f := fun j => bitF (s.l.getD j zeroRd).who k) _ Hw.out h0 h1 hN2 hn Hf.out).mono ?_); rintro e w3 ⟨A3, c3, rfl, hown3, hb3⟩; have hb4 : Below wr.heap.size wr w3 := ((Below.refl _ _).alloc (Nat.le_refl _) _).trans (hb3.mono (by simp)))
            | (at_builtin; go_must ((refine wpList_append_E (S := fun b => F2 b ∨ (wr.heap.size ≤ b ∧ b ≤ w3.heap.size)) rfl (.tmp 26) (.tmp 31) rfl colsT (base := w.heap.size + 1) (v := .slice A2 n1 c2) (xs := ys) (ys := [fillF N (fun j => bitF (s.l.getD j zeroRd).who k) s.l.length]) (by rfl) (by rfl) rfl (nz := n1 + 1) (by simp [Hyl.out]) (HC2.out.pre hb4 _) (ColsF.lit (hown3.flatSl u64_flat (T := fun b => wr.heap.size ≤ b) (fun b hb => by simp at hb; omega)) (fun _ h _ => h) hb4.size) (by unfold maxLen; simp [Hyl.out]; omega) (by simp [Hyl.out]; omega) (by have := hb4.size; have := HC2.out.size; simp; omega) HC2.out.apart ?_); intro A5 c5 w5 hown5 hg5 hor5)))
          go_roundw
          case rel =>
            refine ⟨k + 1, n1 + 1, _, ys ++ [fillF N (fun j => bitF (s.l.getD j zeroRd).who k) s.l.length], A5, c5, by omega, by go_num, rfl, ?_, HC2.out.app hb4 hown5 hg5 hor5, ?_, ?_⟩
            · rw [Hys.out, fill_pad (fun r => bitF r.who k), ← HN.out, bitsT_succ]
              rfl
            · exact (hg5.block _ (by have := hb4.size; simp; omega) (fun e => hnf _ e.symm rfl)).trans ((Below.heap_alloc _ _ _ (by have := hb4.size; omega)).trans ((hb4.block _ hlf).trans Hbf.out))
            · intro g hg
              rcases hor5 g hg with h9 | h9
              · exact hnf g h9
              · have := hb4.size; simp at h9; omega
          case measure => simp [intOf]; omega
        · have hk1 : ¬ (k : Int) < 4 := by omega
          have hkb : k = 4 := by omega
          go_wp2_with fail
          go_roundw
          case rel => exact ⟨1, n1, F2, ys, A2, c2, by omega, rfl, rfl, by rw [Hys.out, hkb]; exact bitsT_width s log 0, HC2.out⟩
          case measure => simp [intOf]
    · rw [show Value.int IntKind.i64 ((1 : Nat) : Int) = Value.int IntKind.i64 1 from rfl]
      go_wp2_with fail
      obtain ⟨wo, hwo⟩ : ∃ wo : World, wo = wr := ⟨_, rfl⟩
      subst hwo
      go_loopw [7, 23] (fun v i wr => ∃ (k n : Nat) (F : Nat → Prop) (xs : List (List Int)) (A1 : Option Addr) (c1 : Nat), k ≤ 8 ∧ i = .int .i64 k ∧ v = .slice A1 n c1 ∧ xs = bitsT s log 1 k ∧ ColsF F (w.alloc (.cells #[.slice A s.l.length c, .slice B s.g.length d] 28)) (w.heap.size + 1) xs v wr ∧ wr.heap[wo.heap.size]? = some (.cells #[.func (.func 49) #[] #[], .int .i64 8] 64 (0, 0)) ∧ (∀ g, v.ownBlock = some g → g ≠ wo.heap.size)) (fun _ i _ => 8 - (intOf i).toNat)
      case atStart =>
        refine ⟨0, n0, F, xs, A1, c1, by omega, rfl, rfl, by rw [Hxs.out, bitsT_zero], ⟨HC.out.own.alloc _, fun b hb => by have := HC.out.lt b hb; simp; omega, HC.out.nF, HC.out.ge, HC.out.bel.alloc HC.out.bel.size _, HC.out.base, by have := HC.out.size; simp; omega⟩, heap_alloc_at rfl, fun g hg => by have := (HC.out.own.lt g hg).2; omega⟩
      case round =>
        obtain ⟨k, n1, F2, ys, A2, c2, hk, rfl, rfl, hys, hC2, hbf, hnf⟩ := hrel
        have hbl : Below (w.heap.size + 1) (w.alloc (.cells #[.slice A s.l.length c, .slice B s.g.length d] 28)) wr := by have := hC2.bel; simpa using this
        have hlr : w.heap.size < wr.heap.size := by have := hbl.size; simp at this; omega
        have hlf := heap_lt hbf
        have hyl : ys.length = n1 := (Own.len hC2.own).symm
        have hy24 : n1 ≤ 32 := by rw [← hyl, hys]; have := bitsK_len s log 1 (by omega); simp [bitsT]; omega
        have x0 : wr.cell? ⟨w.heap.size, 0, none⟩ = some (.slice A s.l.length c) := (hbl.cell (p := ⟨w.heap.size, 0, none⟩) (by simp)).trans (cell_of_row _ _ 0 _ _ _ (heap_alloc_at rfl))
        have x1 : wr.cell? ⟨w.heap.size, 1, none⟩ = some (.slice B s.g.length d) := (hbl.cell (p := ⟨w.heap.size, 1, none⟩) (by simp)).trans (cell_of_row _ _ 1 _ _ _ (heap_alloc_at rfl))
        have f0 := cell_of_row _ _ 0 _ _ _ hbf
        have hner : w.heap.size ≠ wr.heap.size := by omega
        have hsl : Sl rdE S wr A c s.l := H.out.keep (Below.agree (((Below.refl _ _).alloc (Nat.le_refl _) _).trans (hbl.mono (by omega))))
        have Hsl := Lib.hid hsl
        have HC2 := Lib.hid hC2
        have Hys := Lib.hid hys
        have Hyl := Lib.hid hyl
        have Hbf := Lib.hid hbf
        have hk0 : (0 : Int) ≤ (k : Int) := by omega
        clear hbl hsl hC2 hys hyl hbf
        by_cases hlt : k < 8
        · have hk1 : (k : Int) < 8 := by omega
          have hf : ∀ (j : Nat) (W : World), j < s.l.length → Below (wr.alloc (.cells #[.int .i64 k] 3)).heap.size (wr.alloc (.cells #[.int .i64 k] 3)) W → Calls Try.prog 45 #[.int .i64 j, .pointer (some ⟨wo.heap.size, 0, none⟩), .pointer (some ⟨w.heap.size, 0, none⟩), .pointer (some ⟨wr.heap.size, 0, none⟩)] W fun e W' => e = .returned (.int .u64 (bitF (s.l.getD j zeroRd).whn k)) ∧ Below W.heap.size W W' := by
            intro j W hj hbW'
            have hbW : Below (wr.heap.size + 1) (wr.alloc (.cells #[.int .i64 k] 3)) W := by simpa using hbW'
            have hv := Hval.out _ (List.getElem_mem hj)
            have hr : s.l[j]? = some (s.l.getD j zeroRd) := by simp [hj]
            have hv' : ValidR (s.l.getD j zeroRd) := by simpa [hj] using hv
            obtain ⟨⟨v1, v2⟩, ⟨v3, v4⟩, ⟨v5, v6⟩, v7, v8⟩ := hv'
            exact bits1_2 W ((hbW.cell (p := ⟨wo.heap.size, 0, none⟩) (by simp; omega)).trans ((World.cell?_of_block (a := ⟨wo.heap.size, 0, none⟩) (Below.heap_alloc _ _ _ hlf)).trans f0)) ((hbW.cell (p := ⟨w.heap.size, 0, none⟩) (by simp; omega)).trans ((World.cell?_of_block (a := ⟨w.heap.size, 0, none⟩) (Below.heap_alloc _ _ _ hlr)).trans x0)) ((hbW.cell (p := ⟨wr.heap.size, 0, none⟩) (by simp)).trans (cell_of_row _ _ 0 _ _ _ (heap_alloc_at rfl))) (Hsl.out.keep (Below.agree (((Below.refl _ _).alloc (Nat.le_refl _) _).trans (hbW.mono (by omega))))) hr (by omega) (by omega) (by omega)
          have Hf := Lib.hid hf
          clear hf
          go_wp2_with (first
            | (go_at_call 27; go_must (refine (column_3 (n := s.l.length) (N := N) (f := fun j => bitF (s.l.getD j zeroRd).whn k) _ Hw.out h0 h1 hN2 hn Hf.out).mono ?_); rintro e w3 ⟨A3, c3, rfl, hown3, hb3⟩; have hb4 : Below wr.heap.size wr w3 := ((Below.refl _ _).alloc (Nat.le_refl _) _).trans (hb3.mono (by simp)))
            | (at_builtin; go_must ((refine wpList_append_E (S := fun b => F2 b ∨ (wr.heap.size ≤ b ∧ b ≤ w3.heap.size)) rfl (.tmp 26) (.tmp 31) rfl colsT (base := w.heap.size + 1) (v := .slice A2 n1 c2) (xs := ys) (ys := [fillF N (fun j => bitF (s.l.getD j zeroRd).whn k) s.l.length]) (by rfl) (by rfl) rfl (nz := n1 + 1) (by simp [Hyl.out]) (HC2.out.pre hb4 _) (ColsF.lit (hown3.flatSl u64_flat (T := fun b => wr.heap.size ≤ b) (fun b hb => by simp at hb; omega)) (fun _ h _ => h) hb4.size) (by unfold maxLen; simp [Hyl.out]; omega) (by simp [Hyl.out]; omega) (by have := hb4.size; have := HC2.out.size; simp; omega) HC2.out.apart ?_); intro A5 c5 w5 hown5 hg5 hor5)))
          go_roundw
          case rel =>
            refine ⟨k + 1, n1 + 1, _, ys ++ [fillF N (fun j => bitF (s.l.getD j zeroRd).whn k) s.l.length], A5, c5, by omega, by go_num, rfl, ?_, HC2.out.app hb4 hown5 hg5 hor5, ?_, ?_⟩
            · rw [Hys.out, fill_pad (fun r => bitF r.whn k), ← HN.out, bitsT_succ]
              rfl
            · exact (hg5.block _ (by have := hb4.size; simp; omega) (fun e => hnf _ e.symm rfl)).trans ((Below.heap_alloc _ _ _ (by have := hb4.size; omega)).trans ((hb4.block _ hlf).trans Hbf.out))
            · intro g hg
              rcases hor5 g hg with h9 | h9
              · exact hnf g h9
              · have := hb4.size; simp at h9; omega
          case measure => simp [intOf]; omega
        · have hk1 : ¬ (k : Int) < 8 := by omega
          have hkb : k = 8 := by omega
          go_wp2_with fail
          go_roundw
          case rel => exact ⟨2, n1, F2, ys, A2, c2, by omega, rfl, rfl, by rw [Hys.out, hkb]; exact bitsT_width s log 1, HC2.out⟩
          case measure => simp [intOf]
    · rw [show Value.int IntKind.i64 ((2 : Nat) : Int) = Value.int IntKind.i64 2 from rfl]
      go_wp2_with fail
      obtain ⟨wo, hwo⟩ : ∃ wo : World, wo = wr := ⟨_, rfl⟩
      subst hwo
      go_loopw [7, 23] (fun v i wr => ∃ (k n : Nat) (F : Nat → Prop) (xs : List (List Int)) (A1 : Option Addr) (c1 : Nat), k ≤ 4 ∧ i = .int .i64 k ∧ v = .slice A1 n c1 ∧ xs = bitsT s log 2 k ∧ ColsF F (w.alloc (.cells #[.slice A s.l.length c, .slice B s.g.length d] 28)) (w.heap.size + 1) xs v wr ∧ wr.heap[wo.heap.size]? = some (.cells #[.func (.func 50) #[] #[], .int .i64 4] 64 (0, 0)) ∧ (∀ g, v.ownBlock = some g → g ≠ wo.heap.size)) (fun _ i _ => 4 - (intOf i).toNat)
      case atStart =>
        refine ⟨0, n0, F, xs, A1, c1, by omega, rfl, rfl, by rw [Hxs.out, bitsT_zero], ⟨HC.out.own.alloc _, fun b hb => by have := HC.out.lt b hb; simp; omega, HC.out.nF, HC.out.ge, HC.out.bel.alloc HC.out.bel.size _, HC.out.base, by have := HC.out.size; simp; omega⟩, heap_alloc_at rfl, fun g hg => by have := (HC.out.own.lt g hg).2; omega⟩
      case round =>
        obtain ⟨k, n1, F2, ys, A2, c2, hk, rfl, rfl, hys, hC2, hbf, hnf⟩ := hrel
        have hbl : Below (w.heap.size + 1) (w.alloc (.cells #[.slice A s.l.length c, .slice B s.g.length d] 28)) wr := by have := hC2.bel; simpa using this
        have hlr : w.heap.size < wr.heap.size := by have := hbl.size; simp at this; omega
        have hlf := heap_lt hbf
        have hyl : ys.length = n1 := (Own.len hC2.own).symm
        have hy24 : n1 ≤ 32 := by rw [← hyl, hys]; have := bitsK_len s log 2 (by omega); simp [bitsT]; omega
        have x0 : wr.cell? ⟨w.heap.size, 0, none⟩ = some (.slice A s.l.length c) := (hbl.cell (p := ⟨w.heap.size, 0, none⟩) (by simp)).trans (cell_of_row _ _ 0 _ _ _ (heap_alloc_at rfl))
        have x1 : wr.cell? ⟨w.heap.size, 1, none⟩ = some (.slice B s.g.length d) := (hbl.cell (p := ⟨w.heap.size, 1, none⟩) (by simp)).trans (cell_of_row _ _ 1 _ _ _ (heap_alloc_at rfl))
        have f0 := cell_of_row _ _ 0 _ _ _ hbf
        have hner : w.heap.size ≠ wr.heap.size := by omega
        have hsl : Sl rdE S wr A c s.l := H.out.keep (Below.agree (((Below.refl _ _).alloc (Nat.le_refl _) _).trans (hbl.mono (by omega))))
        have Hsl := Lib.hid hsl
        have HC2 := Lib.hid hC2
        have Hys := Lib.hid hys
        have Hyl := Lib.hid hyl
        have Hbf := Lib.hid hbf
        have hk0 : (0 : Int) ≤ (k : Int) := by omega
        clear hbl hsl hC2 hys hyl hbf
        by_cases hlt : k < 4
        · have hk1 : (k : Int) < 4 := by omega
          have hf : ∀ (j : Nat) (W : World), j < s.l.length → Below (wr.alloc (.cells #[.int .i64 k] 3)).heap.size (wr.alloc (.cells #[.int .i64 k] 3)) W → Calls Try.prog 45 #[.int .i64 j, .pointer (some ⟨wo.heap.size, 0, none⟩), .pointer (some ⟨w.heap.size, 0, none⟩), .pointer (some ⟨wr.heap.size, 0, none⟩)] W fun e W' => e = .returned (.int .u64 (bitF (s.l.getD j zeroRd).knd k)) ∧ Below W.heap.size W W' := by
            intro j W hj hbW'
            have hbW : Below (wr.heap.size + 1) (wr.alloc (.cells #[.int .i64 k] 3)) W := by simpa using hbW'
            have hv := Hval.out _ (List.getElem_mem hj)
            have hr : s.l[j]? = some (s.l.getD j zeroRd) := by simp [hj]
            have hv' : ValidR (s.l.getD j zeroRd) := by simpa [hj] using hv
            obtain ⟨⟨v1, v2⟩, ⟨v3, v4⟩, ⟨v5, v6⟩, v7, v8⟩ := hv'
            exact bits1_3 W ((hbW.cell (p := ⟨wo.heap.size, 0, none⟩) (by simp; omega)).trans ((World.cell?_of_block (a := ⟨wo.heap.size, 0, none⟩) (Below.heap_alloc _ _ _ hlf)).trans f0)) ((hbW.cell (p := ⟨w.heap.size, 0, none⟩) (by simp; omega)).trans ((World.cell?_of_block (a := ⟨w.heap.size, 0, none⟩) (Below.heap_alloc _ _ _ hlr)).trans x0)) ((hbW.cell (p := ⟨wr.heap.size, 0, none⟩) (by simp)).trans (cell_of_row _ _ 0 _ _ _ (heap_alloc_at rfl))) (Hsl.out.keep (Below.agree (((Below.refl _ _).alloc (Nat.le_refl _) _).trans (hbW.mono (by omega))))) hr (by omega) (by omega) (by omega)
          have Hf := Lib.hid hf
          clear hf
          go_wp2_with (first
            | (go_at_call 27; go_must (refine (column_3 (n := s.l.length) (N := N) (f := fun j => bitF (s.l.getD j zeroRd).knd k) _ Hw.out h0 h1 hN2 hn Hf.out).mono ?_); rintro e w3 ⟨A3, c3, rfl, hown3, hb3⟩; have hb4 : Below wr.heap.size wr w3 := ((Below.refl _ _).alloc (Nat.le_refl _) _).trans (hb3.mono (by simp)))
            | (at_builtin; go_must ((refine wpList_append_E (S := fun b => F2 b ∨ (wr.heap.size ≤ b ∧ b ≤ w3.heap.size)) rfl (.tmp 26) (.tmp 31) rfl colsT (base := w.heap.size + 1) (v := .slice A2 n1 c2) (xs := ys) (ys := [fillF N (fun j => bitF (s.l.getD j zeroRd).knd k) s.l.length]) (by rfl) (by rfl) rfl (nz := n1 + 1) (by simp [Hyl.out]) (HC2.out.pre hb4 _) (ColsF.lit (hown3.flatSl u64_flat (T := fun b => wr.heap.size ≤ b) (fun b hb => by simp at hb; omega)) (fun _ h _ => h) hb4.size) (by unfold maxLen; simp [Hyl.out]; omega) (by simp [Hyl.out]; omega) (by have := hb4.size; have := HC2.out.size; simp; omega) HC2.out.apart ?_); intro A5 c5 w5 hown5 hg5 hor5)))
          go_roundw
          case rel =>
            refine ⟨k + 1, n1 + 1, _, ys ++ [fillF N (fun j => bitF (s.l.getD j zeroRd).knd k) s.l.length], A5, c5, by omega, by go_num, rfl, ?_, HC2.out.app hb4 hown5 hg5 hor5, ?_, ?_⟩
            · rw [Hys.out, fill_pad (fun r => bitF r.knd k), ← HN.out, bitsT_succ]
              rfl
            · exact (hg5.block _ (by have := hb4.size; simp; omega) (fun e => hnf _ e.symm rfl)).trans ((Below.heap_alloc _ _ _ (by have := hb4.size; omega)).trans ((hb4.block _ hlf).trans Hbf.out))
            · intro g hg
              rcases hor5 g hg with h9 | h9
              · exact hnf g h9
              · have := hb4.size; simp at h9; omega
          case measure => simp [intOf]; omega
        · have hk1 : ¬ (k : Int) < 4 := by omega
          have hkb : k = 4 := by omega
          go_wp2_with fail
          go_roundw
          case rel => exact ⟨3, n1, F2, ys, A2, c2, by omega, rfl, rfl, by rw [Hys.out, hkb]; exact bitsT_width s log 2, HC2.out⟩
          case measure => simp [intOf]
    · rw [show Value.int IntKind.i64 ((3 : Nat) : Int) = Value.int IntKind.i64 3 from rfl]
      go_wp2_with fail
      obtain ⟨wo, hwo⟩ : ∃ wo : World, wo = wr := ⟨_, rfl⟩
      subst hwo
      go_loopw [7, 23] (fun v i wr => ∃ (k n : Nat) (F : Nat → Prop) (xs : List (List Int)) (A1 : Option Addr) (c1 : Nat), k ≤ 8 ∧ i = .int .i64 k ∧ v = .slice A1 n c1 ∧ xs = bitsT s log 3 k ∧ ColsF F (w.alloc (.cells #[.slice A s.l.length c, .slice B s.g.length d] 28)) (w.heap.size + 1) xs v wr ∧ wr.heap[wo.heap.size]? = some (.cells #[.func (.func 51) #[] #[], .int .i64 8] 64 (0, 0)) ∧ (∀ g, v.ownBlock = some g → g ≠ wo.heap.size)) (fun _ i _ => 8 - (intOf i).toNat)
      case atStart =>
        refine ⟨0, n0, F, xs, A1, c1, by omega, rfl, rfl, by rw [Hxs.out, bitsT_zero], ⟨HC.out.own.alloc _, fun b hb => by have := HC.out.lt b hb; simp; omega, HC.out.nF, HC.out.ge, HC.out.bel.alloc HC.out.bel.size _, HC.out.base, by have := HC.out.size; simp; omega⟩, heap_alloc_at rfl, fun g hg => by have := (HC.out.own.lt g hg).2; omega⟩
      case round =>
        obtain ⟨k, n1, F2, ys, A2, c2, hk, rfl, rfl, hys, hC2, hbf, hnf⟩ := hrel
        have hbl : Below (w.heap.size + 1) (w.alloc (.cells #[.slice A s.l.length c, .slice B s.g.length d] 28)) wr := by have := hC2.bel; simpa using this
        have hlr : w.heap.size < wr.heap.size := by have := hbl.size; simp at this; omega
        have hlf := heap_lt hbf
        have hyl : ys.length = n1 := (Own.len hC2.own).symm
        have hy24 : n1 ≤ 32 := by rw [← hyl, hys]; have := bitsK_len s log 3 (by omega); simp [bitsT]; omega
        have x0 : wr.cell? ⟨w.heap.size, 0, none⟩ = some (.slice A s.l.length c) := (hbl.cell (p := ⟨w.heap.size, 0, none⟩) (by simp)).trans (cell_of_row _ _ 0 _ _ _ (heap_alloc_at rfl))
        have x1 : wr.cell? ⟨w.heap.size, 1, none⟩ = some (.slice B s.g.length d) := (hbl.cell (p := ⟨w.heap.size, 1, none⟩) (by simp)).trans (cell_of_row _ _ 1 _ _ _ (heap_alloc_at rfl))
        have f0 := cell_of_row _ _ 0 _ _ _ hbf
        have hner : w.heap.size ≠ wr.heap.size := by omega
        have hsl : Sl rdE S wr A c s.l := H.out.keep (Below.agree (((Below.refl _ _).alloc (Nat.le_refl _) _).trans (hbl.mono (by omega))))
        have Hsl := Lib.hid hsl
        have HC2 := Lib.hid hC2
        have Hys := Lib.hid hys
        have Hyl := Lib.hid hyl
        have Hbf := Lib.hid hbf
        have hk0 : (0 : Int) ≤ (k : Int) := by omega
        clear hbl hsl hC2 hys hyl hbf
        by_cases hlt : k < 8
        · have hk1 : (k : Int) < 8 := by omega
          have hf : ∀ (j : Nat) (W : World), j < s.l.length → Below (wr.alloc (.cells #[.int .i64 k] 3)).heap.size (wr.alloc (.cells #[.int .i64 k] 3)) W → Calls Try.prog 45 #[.int .i64 j, .pointer (some ⟨wo.heap.size, 0, none⟩), .pointer (some ⟨w.heap.size, 0, none⟩), .pointer (some ⟨wr.heap.size, 0, none⟩)] W fun e W' => e = .returned (.int .u64 (bitF (s.l.getD j zeroRd).val k)) ∧ Below W.heap.size W W' := by
            intro j W hj hbW'
            have hbW : Below (wr.heap.size + 1) (wr.alloc (.cells #[.int .i64 k] 3)) W := by simpa using hbW'
            have hv := Hval.out _ (List.getElem_mem hj)
            have hr : s.l[j]? = some (s.l.getD j zeroRd) := by simp [hj]
            have hv' : ValidR (s.l.getD j zeroRd) := by simpa [hj] using hv
            obtain ⟨⟨v1, v2⟩, ⟨v3, v4⟩, ⟨v5, v6⟩, v7, v8⟩ := hv'
            exact bits1_4 W ((hbW.cell (p := ⟨wo.heap.size, 0, none⟩) (by simp; omega)).trans ((World.cell?_of_block (a := ⟨wo.heap.size, 0, none⟩) (Below.heap_alloc _ _ _ hlf)).trans f0)) ((hbW.cell (p := ⟨w.heap.size, 0, none⟩) (by simp; omega)).trans ((World.cell?_of_block (a := ⟨w.heap.size, 0, none⟩) (Below.heap_alloc _ _ _ hlr)).trans x0)) ((hbW.cell (p := ⟨wr.heap.size, 0, none⟩) (by simp)).trans (cell_of_row _ _ 0 _ _ _ (heap_alloc_at rfl))) (Hsl.out.keep (Below.agree (((Below.refl _ _).alloc (Nat.le_refl _) _).trans (hbW.mono (by omega))))) hr (by omega) (by omega) (by omega)
          have Hf := Lib.hid hf
          clear hf
          go_wp2_with (first
            | (go_at_call 27; go_must (refine (column_3 (n := s.l.length) (N := N) (f := fun j => bitF (s.l.getD j zeroRd).val k) _ Hw.out h0 h1 hN2 hn Hf.out).mono ?_); rintro e w3 ⟨A3, c3, rfl, hown3, hb3⟩; have hb4 : Below wr.heap.size wr w3 := ((Below.refl _ _).alloc (Nat.le_refl _) _).trans (hb3.mono (by simp)))
            | (at_builtin; go_must ((refine wpList_append_E (S := fun b => F2 b ∨ (wr.heap.size ≤ b ∧ b ≤ w3.heap.size)) rfl (.tmp 26) (.tmp 31) rfl colsT (base := w.heap.size + 1) (v := .slice A2 n1 c2) (xs := ys) (ys := [fillF N (fun j => bitF (s.l.getD j zeroRd).val k) s.l.length]) (by rfl) (by rfl) rfl (nz := n1 + 1) (by simp [Hyl.out]) (HC2.out.pre hb4 _) (ColsF.lit (hown3.flatSl u64_flat (T := fun b => wr.heap.size ≤ b) (fun b hb => by simp at hb; omega)) (fun _ h _ => h) hb4.size) (by unfold maxLen; simp [Hyl.out]; omega) (by simp [Hyl.out]; omega) (by have := hb4.size; have := HC2.out.size; simp; omega) HC2.out.apart ?_); intro A5 c5 w5 hown5 hg5 hor5)))
          go_roundw
          case rel =>
            refine ⟨k + 1, n1 + 1, _, ys ++ [fillF N (fun j => bitF (s.l.getD j zeroRd).val k) s.l.length], A5, c5, by omega, by go_num, rfl, ?_, HC2.out.app hb4 hown5 hg5 hor5, ?_, ?_⟩
            · rw [Hys.out, fill_pad (fun r => bitF r.val k), ← HN.out, bitsT_succ]
              rfl
            · exact (hg5.block _ (by have := hb4.size; simp; omega) (fun e => hnf _ e.symm rfl)).trans ((Below.heap_alloc _ _ _ (by have := hb4.size; omega)).trans ((hb4.block _ hlf).trans Hbf.out))
            · intro g hg
              rcases hor5 g hg with h9 | h9
              · exact hnf g h9
              · have := hb4.size; simp at h9; omega
          case measure => simp [intOf]; omega
        · have hk1 : ¬ (k : Int) < 8 := by omega
          have hkb : k = 8 := by omega
          go_wp2_with fail
          go_roundw
          case rel => exact ⟨4, n1, F2, ys, A2, c2, by omega, rfl, rfl, by rw [Hys.out, hkb]; exact bitsT_width s log 3, HC2.out⟩
          case measure => simp [intOf]
    · go_wp2_with fail
      go_ret2
      have fin := HC.out
      rw [Hxs.out, bitsK_all] at fin
      have hl := Own.len fin.own
      refine ⟨A1, c1, (show Ending.returned (.tuple #[.slice A1 n0 c1, .int .i64 0]) = _ by rw [hl]), ?_, ((Below.refl _ _).alloc (Nat.le_refl _) _).trans (fin.bel.mono (by simp))⟩
      exact (show Own Enc.u64.slice _ wr (w.heap.size + 1) 34 (.slice A1 n0 c1) (bitsF s log) from fin.own).toSl (fun b hb _ => by have := fin.ge b hb; simp at this; omega) (fun b hb _ _ => by omega)
end Go.Proofs.Ytpdblgchfkcgpaa
namespace Go.Proofs.Ytpdblgchfkcgpaa
open Go.RowKit

theorem padF_len {N : Nat} {l : List Int} (h : l.length ≤ N) : (padF N l).length = N := by simp [padF]; omega
theorem colF_len {s : Str} {log : Int} (c : Nat) (h : s.l.length ≤ 2 ^ log.toNat) : (colF s log c).length = 2 ^ log.toNat := padF_len (by simpa using h)
end Go.Proofs.Ytpdblgchfkcgpaa
namespace Go.Proofs.Ytpdblgchfkcgpaa
open Go.RowKit

def ropE : Enc ROp := (Enc.u8.pair (Enc.u8.pair (Enc.u8.pair Enc.bool))).via fun o => (o.b0, o.b1, o.b2, o.back)
theorem ropE_open {S : Nat → Prop} {w : World} {cs : List Value} {o : ROp} (h : ropE.rep S w cs o) : cs = [.int .u8 (o.b0.toNat : Int), .int .u8 (o.b1.toNat : Int), .int .u8 (o.b2.toNat : Int), .bool o.back] := by
  obtain ⟨c1, d1, rfl, h1, c2, d2, rfl, h2, c3, d3, rfl, h3, h4⟩ := h
  cases h1; cases h2; cases h3; cases h4
  rfl
theorem rop_at {S : Nat → Prop} {w : World} {A : Option Addr} {c i : Nat} {l : List ROp} {o : ROp} (h : Sl ropE S w A c l) (hi : l[i]? = some o) :
    ∃ b f, A = some ⟨b, f, none⟩ ∧ S b ∧ b < w.heap.size ∧ w.cell? ⟨b, f + i * 4, none⟩ = some (.int .u8 (o.b0.toNat : Int)) ∧ w.cell? ⟨b, f + i * 4 + 1, none⟩ = some (.int .u8 (o.b1.toNat : Int)) ∧
      w.cell? ⟨b, f + i * 4 + 2, none⟩ = some (.int .u8 (o.b2.toNat : Int)) ∧ w.cell? ⟨b, f + i * 4 + 3, none⟩ = some (.bool o.back) := by
  obtain ⟨b, f, cs, hA, hS, hb, hr, hc⟩ := h.at' hi (by decide)
  obtain rfl := ropE_open hr
  exact ⟨b, f, hA, hS, hb, hc 0 _ rfl, hc 1 _ rfl, hc 2 _ rfl, hc 3 _ rfl⟩

/-- Block g holds the stream s; its slices lie in blocks of G. -/
def StAt (G : Nat → Prop) (w : World) (g : Nat) (s : Str) : Prop :=
  ∃ A c B d, w.heap[g]? = some (.cells #[.slice A s.l.length c, .slice B s.g.length d] 28 (0, 0)) ∧ Sl rdE G w A c s.l ∧ Sl .bool G w B d s.g
section
variable {G : Nat → Prop} {w w' : World} {g : Nat} {s : Str}
theorem StAt.below (h : StAt G w g s) (hb : Below w.heap.size w w') : StAt G w' g s := by
  obtain ⟨A, c, B, d, hg, h1, h2⟩ := h
  exact ⟨A, c, B, d, (hb.block g (heap_lt hg)).trans hg, h1.keep (Below.agree hb), h2.keep (Below.agree hb)⟩
theorem StAt.lt (h : StAt G w g s) : g < w.heap.size := by obtain ⟨A, c, B, d, hg, _⟩ := h; exact heap_lt hg
theorem StAt.open_ (h : StAt G w g s) : ∃ A c B d, w.cell? ⟨g, 0, none⟩ = some (.slice A s.l.length c) ∧ w.cell? ⟨g, 1, none⟩ = some (.slice B s.g.length d) ∧ w.frozen? ⟨g, 0, none⟩ = false ∧ w.frozen? ⟨g, 1, none⟩ = false ∧ g < w.heap.size ∧ Sl rdE G w A c s.l ∧ Sl .bool G w B d s.g := by
  obtain ⟨A, c, B, d, hg, h1, h2⟩ := h
  exact ⟨A, c, B, d, cell_of_row _ _ 0 _ _ _ hg, cell_of_row _ _ 1 _ _ _ hg, by simp [World.frozen?, hg], by simp [World.frozen?, hg], heap_lt hg, h1, h2⟩
/-- Stored into an existing box of streams. -/
theorem StAt.put {S : Nat → Prop} {A B : Option Addr} {c d : Nat} (hg : ∃ u v, w.heap[g]? = some (.cells #[u, v] 28 (0, 0))) (h1 : Sl rdE S w A c s.l) (h2 : Sl .bool S w B d s.g) (hS : ∀ b, S b → b < w.heap.size → G b ∧ b ≠ g) :
    StAt G ((w.setCell ⟨g, 0, none⟩ (.slice A s.l.length c)).setCell ⟨g, 1, none⟩ (.slice B s.g.length d)) g s := by
  obtain ⟨u, v, hg⟩ := hg
  have k1 := h1.sub (T := fun b => G b ∧ b ≠ g) hS
  have k2 := h2.sub (T := fun b => G b ∧ b ≠ g) hS
  exact ⟨A, c, B, d, heap_set (i := 1) (heap_set (i := 0) hg), (((k1.keep ((Agree.refl _ _).set (fun h => h.2 rfl) _)).keep ((Agree.refl _ _).set (fun h => h.2 rfl) _)).sub fun b hb _ => hb.1), (((k2.keep ((Agree.refl _ _).set (fun h => h.2 rfl) _)).keep ((Agree.refl _ _).set (fun h => h.2 rfl) _)).sub fun b hb _ => hb.1)⟩
theorem StAt.made {S : Nat → Prop} {A B : Option Addr} {c d : Nat} (h1 : Sl rdE S w A c s.l) (h2 : Sl .bool S w B d s.g) (hS : ∀ b, S b → b < w.heap.size → G b) (hg : g = w.heap.size) :
    StAt G (w.alloc (.cells #[.slice A s.l.length c, .slice B s.g.length d] 28)) g s :=
  ⟨A, c, B, d, heap_alloc_at hg, (h1.sub hS).keep ((Agree.refl _ _).alloc _), (h2.sub hS).keep ((Agree.refl _ _).alloc _)⟩
theorem StAt.box (h : StAt G w g s) : ∃ u v, w.heap[g]? = some (.cells #[u, v] 28 (0, 0)) := by obtain ⟨A, c, B, d, hg, _⟩ := h; exact ⟨_, _, hg⟩
end

theorem takeR_any {s : Str} {A B : Option Addr} {c d : Nat} {S : Nat → Prop} (r : Rd) (w : World) (h : Sl rdE S w A c s.l) (k : Sl .bool S w B d s.g) (ok : OkStr s) (hl : s.l.length ≤ 1000) :
    Calls Try.prog 23 #[.agg #[.slice A s.l.length c, .slice B s.g.length d], .agg #[.int .i64 r.who, .int .i64 r.whn, .int .i64 r.knd, .int .i64 r.val]] w (StRes S w (takeF s r)) := by
  cases hv : validB r with
  | true => exact takeR_ok r w hv h k hl (by rw [ok.len]; exact hl)
  | false => exact takeR_bad r w hv
theorem takeP_any {s : Str} {A B : Option Addr} {c d : Nat} {S : Nat → Prop} (r : Rd) (w : World) (h : Sl rdE S w A c s.l) (k : Sl .bool S w B d s.g) (ok : OkStr s) (hl : s.l.length ≤ 1000) :
    Calls Try.prog 16 #[.agg #[.slice A s.l.length c, .slice B s.g.length d], .agg #[.int .i64 r.who, .int .i64 r.whn, .int .i64 r.knd, .int .i64 r.val]] w (StRes S w (takeF s r)) := by
  cases hv : validB r with
  | true => exact takeP_ok r w hv h k hl (by rw [ok.len]; exact hl)
  | false => exact takeP_bad r w hv
theorem retractR_nat {s : Str} {A B : Option Addr} {c d i : Nat} {S : Nat → Prop} (w : World) (h : Sl rdE S w A c s.l) (k : Sl .bool S w B d s.g) (ok : OkStr s) (hl : s.l.length ≤ 1000) (hi : i < s.l.length) :
    Calls Try.prog 22 #[.agg #[.slice A s.l.length c, .slice B s.g.length d], .int .i64 i] w (StRes S w (retractF s i)) := by
  obtain ⟨b, hb⟩ : ∃ b, s.g[i]? = some b := ⟨_, List.getElem?_eq_getElem (by rw [ok.len]; exact hi)⟩
  cases b with
  | true => exact retractR_gone w k hi ok.len hb
  | false => exact retractR_ok w h k hi ok.len hl hb
theorem retractP_nat {s : Str} {A B : Option Addr} {c d i : Nat} {S : Nat → Prop} (w : World) (h : Sl rdE S w A c s.l) (k : Sl .bool S w B d s.g) (ok : OkStr s) (hl : s.l.length ≤ 1000) (hi : i < s.l.length) :
    Calls Try.prog 17 #[.agg #[.slice A s.l.length c, .slice B s.g.length d], .int .i64 i] w (StRes S w (retractF s i)) := by
  obtain ⟨b, hb⟩ : ∃ b, s.g[i]? = some b := ⟨_, List.getElem?_eq_getElem (by rw [ok.len]; exact hi)⟩
  cases b with
  | true => exact retractP_gone w k hi ok.len hb
  | false => exact retractP_ok w h k hi ok.len hl hb
theorem retractP_any {s : Str} {A B : Option Addr} {c d : Nat} {i : Int} {S : Nat → Prop} (w : World) (h : Sl rdE S w A c s.l) (k : Sl .bool S w B d s.g) (ok : OkStr s) (hl : s.l.length ≤ 1000) :
    Calls Try.prog 17 #[.agg #[.slice A s.l.length c, .slice B s.g.length d], .int .i64 i] w (StRes S w (retractF s i)) := by
  by_cases hi : i < 0 ∨ (s.l.length : Int) ≤ i
  · exact retractP_none i w hi
  · obtain ⟨n, hn⟩ : ∃ n : Nat, i = n := ⟨i.toNat, by omega⟩
    rw [hn] at hi ⊢
    exact retractP_nat w h k ok hl (by omega)

theorem retractR_mod {s : Str} {A B : Option Addr} {c d : Nat} {b : UInt8} {S : Nat → Prop} {p : Str × Int} (w : World) (h : Sl rdE S w A c s.l) (k : Sl .bool S w B d s.g) (ok : OkStr s) (hl : s.l.length ≤ 1000) (hi : b.toNat % s.l.length < s.l.length) (hp : retractF s ((b.toNat % s.l.length : Nat) : Int) = p) :
    Calls Try.prog 22 #[.agg #[.slice A s.l.length c, .slice B s.g.length d], .int .i64 ((b.toNat : Int).tmod (s.l.length : Int))] w (StRes S w p) := by
  rw [show ((b.toNat : Int).tmod (s.l.length : Int)) = ((b.toNat % s.l.length : Nat) : Int) from rfl, ← hp]
  exact retractR_nat w h k ok hl hi
theorem takeR_eq {s : Str} {A B : Option Addr} {c d : Nat} {S : Nat → Prop} {p : Str × Int} (r : Rd) (w : World) (h : Sl rdE S w A c s.l) (k : Sl .bool S w B d s.g) (ok : OkStr s) (hl : s.l.length ≤ 1000) (hp : takeF s r = p) :
    Calls Try.prog 23 #[.agg #[.slice A s.l.length c, .slice B s.g.length d], .agg #[.int .i64 r.who, .int .i64 r.whn, .int .i64 r.knd, .int .i64 r.val]] w (StRes S w p) := by
  rw [← hp]; exact takeR_any r w h k ok hl

set_option maxRecDepth 100000 in
set_option maxHeartbeats 4000000 in
theorem madeR {most : Nat} {l : List ROp} {A : Option Addr} {c : Nat} {S : Nat → Prop} (w : World) (h : Sl ropE S w A c l) (hmost : most ≤ 1000) :
    Calls Try.prog 5 #[.slice A l.length c, .int .i64 most] w fun e w' => ∃ A' c' B' d', e = .returned (.agg #[.slice A' (madeF most l).l.length c', .slice B' (madeF most l).g.length d']) ∧ Sl rdE (fun b => w.heap.size ≤ b) w' A' c' (madeF most l).l ∧ Sl .bool (fun b => w.heap.size ≤ b) w' B' d' (madeF most l).g ∧ Below w.heap.size w w' := by
  have hm := h.max
  have H := Lib.hid h.old
  clear h
  go_enter Try.func5, Try.ntmps5
  go_wp2_with fail
  go_loopw [6] (fun i wr => ∃ j : Nat, j ≤ l.length ∧ i = .int .i64 j ∧ StAt (fun b => w.heap.size + 1 < b) wr (w.heap.size + 1) (madeF most (l.take j)) ∧ Below (w.heap.size + 1) (w.alloc (.cells #[.slice none 0 0, .slice none 0 0] 28)) wr) (fun i _ => l.length - (intOf i).toNat)
  case atStart =>
    refine ⟨0, Nat.zero_le _, rfl, StAt.made (s := emptyStr) (S := fun _ => False) (Sl.nil_ _ _ _ _ (Nat.zero_le _)) (Sl.nil_ _ _ _ _ (Nat.zero_le _)) (fun _ h _ => h.elim) (by simp), (Below.refl _ _).alloc (by simp) _⟩
  case round =>
    obtain ⟨j, hj, rfl, hst, hb⟩ := hrel
    obtain ⟨ok, hln⟩ := madeF_ok most (l.take j)
    have b1 : Below w.heap.size w wr := ((Below.refl _ _).alloc (Nat.le_refl _) _).trans (hb.mono (by omega))
    by_cases hlt : j < l.length
    · obtain ⟨o, ho⟩ : ∃ o, l[j]? = some o := ⟨_, List.getElem?_eq_getElem hlt⟩
      have hT := Lib.hid (madeF_take (most := most) ho)
      obtain ⟨b0, f0, rfl, hS0, hb0, x0, x1, x2, x3⟩ := rop_at (H.out.keep (Below.agree b1)) ho
      generalize madeF most (l.take j) = s at *
      obtain ⟨A1, c1, B1, d1, y0, y1, z0, z1, hlt5, hs1, hs2⟩ := hst.open_
      have Hs1 := Lib.hid hs1
      have Hs2 := Lib.hid hs2
      have Hst := Lib.hid hst
      have Hb := Lib.hid hb
      have B1' := Lib.hid b1
      have Ho := Lib.hid ho
      have hj0 : (0 : Int) ≤ (j : Int) := by omega
      have hj1 : (j : Int) < (l.length : Int) := by omega
      have hb0' : b0 < w.heap.size := hS0.2
      have hne : b0 ≠ w.heap.size + 1 := by omega
      have hne' : w.heap.size + 1 ≠ b0 := by omega
      clear hs1 hs2 hst hb b1 ho
      cases hbk : o.back with
      | true =>
        rw [hbk] at x3
        by_cases hpos : 0 < s.l.length
        · have hpos' : (0 : Int) < (s.l.length : Int) := by omega
          have hmod : (o.b0.toNat : Int) % (s.l.length : Int) = ((o.b0.toNat % s.l.length : Nat) : Int) := by simp
          have hml : o.b0.toNat % s.l.length < s.l.length := Nat.mod_lt _ hpos
          have hw0 := (byte_words 0 o.b0 0).1.2.1
          have hne0 : ((s.l.length : Int) == 0) = false := by rw [beq_eq_false_iff_ne]; omega
          have hne1 : ¬ (s.l.length : Int) = 0 := by omega
          have hnil : (s.l = []) = False := by simp only [eq_iff_iff, iff_false]; intro e; rw [e] at hpos; simp at hpos
          have hnn : (0 : Int) ≤ (o.b0.toNat : Int) := by omega
          have Hmod := Lib.hid hmod
          obtain ⟨p, hp⟩ : ∃ p, retractF s ((o.b0.toNat % s.l.length : Nat) : Int) = p := ⟨_, rfl⟩
          have Hp := Lib.hid hp
          have hl1000 : s.l.length ≤ 1000 := by omega
          clear hmod hp
          go_upto_region 6 with fail
          go_cut [7, 8] (fun v7 v8 wx => ∃ g, v7 = .pointer (some ⟨g, 0, none⟩) ∧ v8 = .int .i64 p.2 ∧ wr.heap.size ≤ g ∧ StAt (fun b => (fun b => w.heap.size + 1 < b) b ∧ b ≠ g) wx g p.1 ∧ Below wr.heap.size wr wx)
          case first =>
            have br : Below wr.heap.size wr wr := Below.refl _ _
            have rc := fun W (hW : Below wr.heap.size wr W) b o (hb : b < wr.heap.size) => hW.cell (p := ⟨b, o, none⟩) hb
            have hzr : w.heap.size + 1 < wr.heap.size := hlt5
            go_region_held3 (fun X => Below wr.heap.size wr X) (repeat' (first | with_reducible assumption | with_reducible refine Below.drew ?_ | with_reducible refine Below.alloc ?_ ?_ _ | with_reducible refine Below.setCell ?_ ?_ _ | (simp; done) | omega | (simp <;> omega)))
              (first | (go_at_call 22; refine (retractR_mod (S := fun b => (fun b => w.heap.size + 1 < b) b ∧ b < wr.heap.size) _ (Hs1.out.old.keep (Below.agree (by assumption))) (Hs2.out.old.keep (Below.agree (by assumption))) ok hl1000 hml Hp.out).mono ?_; rintro e w3 ⟨A5, c5, B5, d5, rfl, hs5, hg5, hb5⟩; have hb6 := Below.trans (by assumption : Below wr.heap.size wr _) (Below.mono hb5 (Below.size (by assumption))); have hz6 := hb6.size; obtain ⟨hd5, hdf5⟩ := bcell hb5; have hl5 := fun (b : Nat) h => Nat.lt_of_lt_of_le (n := b) h hb5.size))
            · go_wp2_with fail
              go_meet
              exact ⟨_, rfl, rfl, hz6, StAt.made hs5 hg5 (fun b hb hl => ⟨by rcases hb with hb | hb; exact hb.1; simp at hb; omega, by omega⟩) rfl, hb6.alloc hz6 _⟩
            · go_wp2_with fail
              go_meet
              exact ⟨_, rfl, rfl, Nat.le_refl _, StAt.put ⟨_, _, (hb5.block _ (by simp)).trans (heap_alloc_at rfl)⟩ hs5 hg5 (fun b hb hl => by rcases hb with hb | hb; exact ⟨⟨hb.1, by omega⟩, by omega⟩; simp at hb; exact ⟨⟨by omega, by omega⟩, by omega⟩), (hb6.setCell (Nat.le_refl _) _).setCell (Nat.le_refl _) _⟩
          case rest =>
            obtain ⟨g7, rfl, rfl, hg7, hst7, hbx⟩ := hcut
            have hstx := Hst.out.below hbx
            clear y0 y1 z0 z1 x0 x1 x2 x3
            obtain ⟨A1, c1, B1, d1, y0, y1, z0, z1, hlt5x, -, -⟩ := hstx.open_
            obtain ⟨A7, c7, B7, d7, u0, u1, -, -, hlt7, hs7, hg7s⟩ := hst7.open_
            have hn57 : w.heap.size + 1 ≠ g7 := by omega
            have hn75 : g7 ≠ w.heap.size + 1 := by omega
            have Hstx := Lib.hid hstx
            have Hs7 := Lib.hid hs7
            have Hg7 := Lib.hid hg7s
            have Hbx := Lib.hid (Hb.out.trans (hbx.mono (by omega)))
            clear hstx hs7 hg7s hbx hst7
            by_cases hp2 : p.2 = 0
            · have e2 : (p.2 == 0) = true := by simpa using hp2
              have Hp2 := Lib.hid hp2
              clear hp2
              go_wp2_with fail
              go_roundw
              case rel =>
                refine ⟨j + 1, by omega, by go_num, ?_, (Hbx.out.setCell (by simp) _).setCell (by simp) _⟩
                have e : stepM most s o = p.1 := by unfold stepM; rw [if_pos ⟨hbk, hpos⟩, Hp.out, if_pos Hp2.out]
                rw [hT.out, e]
                exact StAt.put Hstx.out.box Hs7.out Hg7.out (fun b hb _ => ⟨hb.1, by have := hb.1; omega⟩)
              case measure => simp [intOf]; omega
            · have e2 : (p.2 == 0) = false := by simpa using hp2
              have Hp2 := Lib.hid hp2
              clear hp2
              go_wp2_with fail
              go_roundw
              case rel =>
                refine ⟨j + 1, by omega, by go_num, ?_, Hbx.out⟩
                have e : stepM most s o = s := by unfold stepM; rw [if_pos ⟨hbk, hpos⟩, Hp.out, if_neg Hp2.out]
                rw [hT.out, e]
                exact Hstx.out
              case measure => simp [intOf]; omega
        · have hpos' : ¬ (0 : Int) < (s.l.length : Int) := by omega
          have hnil : s.l = [] := List.eq_nil_of_length_eq_zero (by omega)
          have hl0 : s.l.length = 0 := by omega
          have Hpos := Lib.hid hpos
          have Hnil := Lib.hid hnil
          clear hpos hpos'
          rw [hl0] at y0
          clear hl0 hnil
          go_wp2_with fail
          go_roundw
          case rel =>
            refine ⟨j + 1, by omega, by go_num, ?_, Hb.out⟩
            have e : stepM most s o = s := by unfold stepM; rw [if_neg (fun h => Hpos.out h.2), if_neg (fun h => h.1 hbk)]
            rw [hT.out, e]
            exact Hst.out
          case measure => simp [intOf]; omega
      | false =>
        rw [hbk] at x3
        by_cases hroom : s.l.length < most
        · have hroom' : (s.l.length : Int) < (most : Int) := by omega
          obtain ⟨p, hp⟩ : ∃ p, takeF s (rdOf o.b0 o.b1 o.b2) = p := ⟨_, rfl⟩
          have Hp := Lib.hid hp
          have hl1000 : s.l.length ≤ 1000 := by omega
          clear hp
          go_wp2_with fail
          go_region_law (first
            | (go_simp; go_at_call 24; refine (readingR o.b0 o.b1 o.b2 _).mono ?_; rintro e w4 ⟨rfl, hb3⟩; obtain ⟨hc3, hf3⟩ := bcellk (k := wr.heap.size) hb3 (by simp))
            | (go_simp; go_at_call 23; refine (takeR_eq (S := fun b => (fun b => w.heap.size + 1 < b) b ∧ b < wr.heap.size) (rdOf o.b0 o.b1 o.b2) _ ((Hs1.out.old.keep (by repeat' (first | with_reducible exact Agree.refl _ _ | with_reducible assumption | with_reducible refine Agree.set ?_ ?_ _ | with_reducible refine Agree.alloc ?_ _ | with_reducible refine Agree.drew ?_ | with_reducible refine Agree.drewN ?_ _ | omega | (simp <;> omega)))).keep (Below.agree hb3)) ((Hs2.out.old.keep (by repeat' (first | with_reducible exact Agree.refl _ _ | with_reducible assumption | with_reducible refine Agree.set ?_ ?_ _ | with_reducible refine Agree.alloc ?_ _ | with_reducible refine Agree.drew ?_ | with_reducible refine Agree.drewN ?_ _ | omega | (simp <;> omega)))).keep (Below.agree hb3)) ok hl1000 Hp.out).mono ?_; rintro e w5 ⟨A4, c4, B4, d4, rfl, hs4, hg4, hb4⟩; obtain ⟨hc4, hf4⟩ := bcellk (k := wr.heap.size) hb4 (by have := hb3.size; simp at this; omega)))
          all_goals
            have hb34 : Below wr.heap.size wr w5 := ((Below.refl _ _).drew.trans hb3).trans (hb4.mono hb3.size)
            have hz3 : wr.heap.size ≤ w4.heap.size := hb3.size
            go_wp2_with fail
            go_roundw
            case rel =>
              refine ⟨j + 1, by omega, by go_num, ?_, ((Hb.out.trans (hb34.mono (by omega))).setCell (by simp) _).setCell (by simp) _⟩
              have e : stepM most s o = p.1 := by unfold stepM; rw [if_neg (fun h => by simp [hbk] at h), if_pos ⟨by simp [hbk], hroom⟩, Hp.out]
              rw [hT.out, e]
              exact StAt.put (Hst.out.below hb34).box hs4 hg4 (fun b hb hl => by rcases hb with hb | hb; exact ⟨hb.1, by have := hb.1; omega⟩; exact ⟨by omega, by omega⟩)
            case measure => simp [intOf]; omega
        · have hroom' : ¬ (s.l.length : Int) < (most : Int) := by omega
          go_wp2_with fail
          go_roundw
          case rel =>
            refine ⟨j + 1, by omega, by go_num, ?_, Hb.out⟩
            have e : stepM most s o = s := by unfold stepM; rw [if_neg (fun h => by simp [hbk] at h), if_neg (fun h => hroom h.2)]
            rw [hT.out, e]
            exact Hst.out
          case measure => simp [intOf]; omega
    · have hjl : j = l.length := by omega
      subst hjl
      have hj1 : ¬ (l.length : Int) < (l.length : Int) := by omega
      rw [List.take_of_length_le (Nat.le_refl _)] at *
      obtain ⟨A1, c1, B1, d1, y0, y1, z0, z1, hlt5, hs1, hs2⟩ := hst.open_
      have hg0 : wr.heap[w.heap.size]? = some (.cells #[.slice none 0 0, .slice none 0 0] 28 (0, 0)) := (hb.block _ (by omega)).trans (heap_alloc_at rfl)
      have v0 := cell_of_row _ _ 0 _ _ _ hg0
      have v1 := cell_of_row _ _ 1 _ _ _ hg0
      simp only [List.getElem?_toArray, List.getElem?_cons_zero, List.getElem?_cons_succ] at v0 v1
      have t0 : wr.frozen? ⟨w.heap.size, 0, none⟩ = false := by simp [World.frozen?, hg0]
      have t1 : wr.frozen? ⟨w.heap.size, 1, none⟩ = false := by simp [World.frozen?, hg0]
      have hn1 : w.heap.size ≠ w.heap.size + 1 := by omega
      have Hs1 := Lib.hid hs1
      have Hs2 := Lib.hid hs2
      have B1' := Lib.hid b1
      clear hs1 hs2 hst hb b1 hg0
      go_wp2_with fail
      refine bodyPost_ret (v := .agg #[.slice A1 (madeF most l).l.length c1, .slice B1 (madeF most l).g.length d1]) (by simp [results, Try.results5, go_sem, *]) rfl ⟨A1, c1, B1, d1, rfl, ?_, ?_, (B1'.out.setCell (by simp) _).setCell (by simp) _⟩
      · exact (Hs1.out.keep (((Agree.refl _ _).set (by simp) _).set (by simp) _)).sub fun b hb _ => by omega
      · exact (Hs2.out.keep (((Agree.refl _ _).set (by simp) _).set (by simp) _)).sub fun b hb _ => by omega
end Go.Proofs.Ytpdblgchfkcgpaa
