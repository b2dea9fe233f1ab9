/-
  Contracts of the readings (XRd13): Bits, within its range.
-/
import Derived.Test.YtlolppjnpmdpgaaRd12
namespace Go.Proofs.Ytlolppjnpmdpgaa
open Go.RowKit

def bitsK (s : Str) (log : Int) : Nat → List (List Int)
  | 0 => []
  | j + 1 => bitsK s log j ++ bitsOfF s log j
theorem bitsK_all (s : Str) (log : Int) : bitsK s log 4 = bitsF s log := by simp [bitsK, bitsF]
def bitsT (s : Str) (log : Int) (j k : Nat) : List (List Int) := bitsK s log j ++ (List.range k).map (bitColF s log j)
theorem bitsT_zero (s : Str) (log : Int) (j : Nat) : bitsT s log j 0 = bitsK s log j := by simp [bitsT]
theorem bitsT_succ (s : Str) (log : Int) (j k : Nat) : bitsT s log j (k + 1) = bitsT s log j k ++ [bitColF s log j k] := by simp [bitsT, List.range_succ]
theorem bitsT_width (s : Str) (log : Int) (j : Nat) : bitsT s log j (widthF j) = bitsK s log (j + 1) := rfl
theorem bitsK_len (s : Str) (log : Int) (j : Nat) (h : j ≤ 4) : (bitsK s log j).length ≤ 24 := by
  rcases (by omega : j = 0 ∨ j = 1 ∨ j = 2 ∨ j = 3 ∨ j = 4) with rfl | rfl | rfl | rfl | rfl <;> simp [bitsK, bitsOfF, widthF]

set_option maxRecDepth 100000 in
set_option maxHeartbeats 4000000 in
theorem bitsP_ok {s : Str} {A B : Option Addr} {c d : Nat} {log : Int} {S : Nat → Prop} (w : World) (he : checkF s.l.length log = 0) (h : Sl rdE S w A c s.l) (ok : OkStr s) :
    Calls Try.prog 21 #[.agg #[.slice A s.l.length c, .slice B s.g.length d], .int .i64 log] w (ColRes w (bitsF s log, 0)) := by
  have hr0 : 0 ≤ log ∧ log ≤ 16 ∧ s.l.length ≤ 2 ^ log.toNat := by
    unfold checkF at he
    split at he
    · simp at he
    · split at he
      · simp at he
      · omega
  obtain ⟨h0, h1, hn⟩ := hr0
  obtain ⟨N, hN, hw, hN1, hN2⟩ := pow_log log h0 h1
  rw [hN] at hn
  have HN := Lib.hid hN
  have Hw := Lib.hid hw
  have He := Lib.hid he
  have H := Lib.hid h
  have Hval := Lib.hid ok.valid
  clear hN hw he h ok
  have ix0 := ix_0
  have ix1 := ix_1
  have ix2 := ix_2
  have ix3 := ix_3
  go_enter Try.func21, Try.ntmps21
  go_wp2_with (first
    | (go_at_call 46; refine (checkP s A B c d log _).mono ?_; rw [He.out]; rintro e w1 ⟨rfl, hb1⟩)
    | (go_at_call 45; refine (fieldsP _).mono ?_; rintro e w2 ⟨rfl, hb2⟩))
  have hbW : Below (w.heap.size + 1) (w.alloc (.cells #[.slice A s.l.length c, .slice B s.g.length d] 30)) w2 := by
    have h1 : Below (w.heap.size + 1) (w.alloc (.cells #[.slice A s.l.length c, .slice B s.g.length d] 30)) w1 := by simpa using hb1
    exact h1.trans (hb2.mono (by have := h1.size; simpa using this))
  have hzW : w.heap.size + 1 ≤ w2.heap.size := by have := hbW.size; simpa using this
  have HbW := Lib.hid hbW
  clear hb1 hb2 hbW
  go_loopw [7, 18] (fun v i wr => ∃ (j n : Nat) (F : Nat → Prop) (xs : List (List Int)) (A1 : Option Addr) (c1 : Nat), j ≤ 4 ∧ i = .int .i64 j ∧ v = .slice A1 n c1 ∧ xs = bitsK s log j ∧ ColsF F (w.alloc (.cells #[.slice A s.l.length c, .slice B s.g.length d] 30)) (w.heap.size + 1) xs v wr) (fun _ i _ => 4 - (intOf i).toNat)
  case atStart =>
    refine ⟨0, 0, fun _ => False, [], none, 0, by omega, rfl, rfl, rfl, ColsF.nil (by have := HbW.out; simpa using this) (by simp) hzW⟩
  case round =>
    obtain ⟨j, n0, F, xs, A1, c1, hj, rfl, rfl, hxs, hC⟩ := hrel
    have hbl : Below (w.heap.size + 1) (w.alloc (.cells #[.slice A s.l.length c, .slice B s.g.length d] 30)) wr := by have := hC.bel; simpa using this
    have hlw : w.heap.size < wr.heap.size := by have := hbl.size; simp at this; omega
    have hne : w.heap.size ≠ wr.heap.size := by omega
    have HC := Lib.hid hC
    have Hxs := Lib.hid hxs
    clear hbl hC hxs
    rcases (by omega : j = 0 ∨ j = 1 ∨ j = 2 ∨ j = 3 ∨ j = 4) with rfl | rfl | rfl | rfl | rfl
    · rw [show Value.int IntKind.i64 ((0 : Nat) : Int) = Value.int IntKind.i64 0 from rfl]
      go_wp2_with fail
      obtain ⟨wo, hwo⟩ : ∃ wo : World, wo = wr := ⟨_, rfl⟩
      subst hwo
      go_loopw [7, 23] (fun v i wr => ∃ (k n : Nat) (F : Nat → Prop) (xs : List (List Int)) (A1 : Option Addr) (c1 : Nat), k ≤ 4 ∧ i = .int .i64 k ∧ v = .slice A1 n c1 ∧ xs = bitsT s log 0 k ∧ ColsF F (w.alloc (.cells #[.slice A s.l.length c, .slice B s.g.length d] 30)) (w.heap.size + 1) xs v wr ∧ wr.heap[wo.heap.size]? = some (.cells #[.func (.func 64) #[] #[], .int .i64 4] 76 (0, 0)) ∧ (∀ g, v.ownBlock = some g → g ≠ wo.heap.size)) (fun _ i _ => 4 - (intOf i).toNat)
      case atStart =>
        refine ⟨0, n0, F, xs, A1, c1, by omega, rfl, rfl, by rw [Hxs.out, bitsT_zero], ⟨HC.out.own.alloc _, fun b hb => by have := HC.out.lt b hb; simp; omega, HC.out.nF, HC.out.ge, HC.out.bel.alloc HC.out.bel.size _, HC.out.base, by have := HC.out.size; simp; omega⟩, heap_alloc_at rfl, fun g hg => by have := (HC.out.own.lt g hg).2; omega⟩
      case round =>
        obtain ⟨k, n1, F2, ys, A2, c2, hk, rfl, rfl, hys, hC2, hbf, hnf⟩ := hrel
        have hbl : Below (w.heap.size + 1) (w.alloc (.cells #[.slice A s.l.length c, .slice B s.g.length d] 30)) wr := by have := hC2.bel; simpa using this
        have hlr : w.heap.size < wr.heap.size := by have := hbl.size; simp at this; omega
        have hlf := heap_lt hbf
        have hyl : ys.length = n1 := (Own.len hC2.own).symm
        have hy24 : n1 ≤ 32 := by rw [← hyl, hys]; have := bitsK_len s log 0 (by omega); simp [bitsT]; omega
        have x0 : wr.cell? ⟨w.heap.size, 0, none⟩ = some (.slice A s.l.length c) := (hbl.cell (p := ⟨w.heap.size, 0, none⟩) (by simp)).trans (cell_of_row _ _ 0 _ _ _ (heap_alloc_at rfl))
        have x1 : wr.cell? ⟨w.heap.size, 1, none⟩ = some (.slice B s.g.length d) := (hbl.cell (p := ⟨w.heap.size, 1, none⟩) (by simp)).trans (cell_of_row _ _ 1 _ _ _ (heap_alloc_at rfl))
        have f0 := cell_of_row _ _ 0 _ _ _ hbf
        have hner : w.heap.size ≠ wr.heap.size := by omega
        have hsl : Sl rdE S wr A c s.l := H.out.keep (Below.agree (((Below.refl _ _).alloc (Nat.le_refl _) _).trans (hbl.mono (by omega))))
        have Hsl := Lib.hid hsl
        have HC2 := Lib.hid hC2
        have Hys := Lib.hid hys
        have Hyl := Lib.hid hyl
        have Hbf := Lib.hid hbf
        have hk0 : (0 : Int) ≤ (k : Int) := by omega
        clear hbl hsl hC2 hys hyl hbf
        by_cases hlt : k < 4
        · have hk1 : (k : Int) < 4 := by omega
          have hf : ∀ (j : Nat) (W : World), j < s.l.length → Below (wr.alloc (.cells #[.int .i64 k] 3)).heap.size (wr.alloc (.cells #[.int .i64 k] 3)) W → Calls Try.prog 51 #[.int .i64 j, .pointer (some ⟨wo.heap.size, 0, none⟩), .pointer (some ⟨w.heap.size, 0, none⟩), .pointer (some ⟨wr.heap.size, 0, none⟩)] W fun e W' => e = .returned (.int .u64 (bitF (s.l.getD j zeroRd).who k)) ∧ Below W.heap.size W W' := by
            intro j W hj hbW'
            have hbW : Below (wr.heap.size + 1) (wr.alloc (.cells #[.int .i64 k] 3)) W := by simpa using hbW'
            have hv := Hval.out _ (List.getElem_mem hj)
            have hr : s.l[j]? = some (s.l.getD j zeroRd) := by simp [hj]
            have hv' : ValidR (s.l.getD j zeroRd) := by simpa [hj] using hv
            obtain ⟨⟨v1, v2⟩, ⟨v3, v4⟩, ⟨v5, v6⟩, v7, v8⟩ := hv'
            exact bits1_1 W ((hbW.cell (p := ⟨wo.heap.size, 0, none⟩) (by simp; omega)).trans ((World.cell?_of_block (a := ⟨wo.heap.size, 0, none⟩) (Below.heap_alloc _ _ _ hlf)).trans f0)) ((hbW.cell (p := ⟨w.heap.size, 0, none⟩) (by simp; omega)).trans ((World.cell?_of_block (a := ⟨w.heap.size, 0, none⟩) (Below.heap_alloc _ _ _ hlr)).trans x0)) ((hbW.cell (p := ⟨wr.heap.size, 0, none⟩) (by simp)).trans (cell_of_row _ _ 0 _ _ _ (heap_alloc_at rfl))) (Hsl.out.keep (Below.agree (((Below.refl _ _).alloc (Nat.le_refl _) _).trans (hbW.mono (by omega))))) hr (by omega) (by omega) (by omega)
          have Hf := Lib.hid hf
          clear hf
          go_wp2_with (first
            | (go_at_call 47; go_must (refine (column_3 (n := s.l.length) (N := N) (f := fun j => bitF (s.l.getD j zeroRd).who k) _ Hw.out h0 h1 hN2 hn Hf.out).mono ?_); rintro e w3 ⟨A3, c3, rfl, hown3, hb3⟩; have hb4 : Below wr.heap.size wr w3 := ((Below.refl _ _).alloc (Nat.le_refl _) _).trans (hb3.mono (by simp)))
            | (at_builtin; go_must ((refine wpList_append_E (S := fun b => F2 b ∨ (wr.heap.size ≤ b ∧ b ≤ w3.heap.size)) rfl (.tmp 26) (.tmp 31) rfl colsT (base := w.heap.size + 1) (v := .slice A2 n1 c2) (xs := ys) (ys := [fillF N (fun j => bitF (s.l.getD j zeroRd).who k) s.l.length]) (by rfl) (by rfl) rfl (nz := n1 + 1) (by simp [Hyl.out]) (HC2.out.pre hb4 _) (ColsF.lit (hown3.flatSl u64_flat (T := fun b => wr.heap.size ≤ b) (fun b hb => by simp at hb; omega)) (fun _ h _ => h) hb4.size) (by unfold maxLen; simp [Hyl.out]; omega) (by simp [Hyl.out]; omega) (by have := hb4.size; have := HC2.out.size; simp; omega) HC2.out.apart ?_); intro A5 c5 w5 hown5 hg5 hor5)))
          go_roundw
          case rel =>
            refine ⟨k + 1, n1 + 1, _, ys ++ [fillF N (fun j => bitF (s.l.getD j zeroRd).who k) s.l.length], A5, c5, by omega, by go_num, rfl, ?_, HC2.out.app hb4 hown5 hg5 hor5, ?_, ?_⟩
            · rw [Hys.out, fill_pad (fun r => bitF r.who k), ← HN.out, bitsT_succ]
              rfl
            · exact (hg5.block _ (by have := hb4.size; simp; omega) (fun e => hnf _ e.symm rfl)).trans ((Below.heap_alloc _ _ _ (by have := hb4.size; omega)).trans ((hb4.block _ hlf).trans Hbf.out))
            · intro g hg
              rcases hor5 g hg with h9 | h9
              · exact hnf g h9
              · have := hb4.size; simp at h9; omega
          case measure => simp [intOf]; omega
        · have hk1 : ¬ (k : Int) < 4 := by omega
          have hkb : k = 4 := by omega
          go_wp2_with fail
          go_roundw
          case rel => exact ⟨1, n1, F2, ys, A2, c2, by omega, rfl, rfl, by rw [Hys.out, hkb]; exact bitsT_width s log 0, HC2.out⟩
          case measure => simp [intOf]
    · rw [show Value.int IntKind.i64 ((1 : Nat) : Int) = Value.int IntKind.i64 1 from rfl]
      go_wp2_with fail
      obtain ⟨wo, hwo⟩ : ∃ wo : World, wo = wr := ⟨_, rfl⟩
      subst hwo
      go_loopw [7, 23] (fun v i wr => ∃ (k n : Nat) (F : Nat → Prop) (xs : List (List Int)) (A1 : Option Addr) (c1 : Nat), k ≤ 8 ∧ i = .int .i64 k ∧ v = .slice A1 n c1 ∧ xs = bitsT s log 1 k ∧ ColsF F (w.alloc (.cells #[.slice A s.l.length c, .slice B s.g.length d] 30)) (w.heap.size + 1) xs v wr ∧ wr.heap[wo.heap.size]? = some (.cells #[.func (.func 65) #[] #[], .int .i64 8] 76 (0, 0)) ∧ (∀ g, v.ownBlock = some g → g ≠ wo.heap.size)) (fun _ i _ => 8 - (intOf i).toNat)
      case atStart =>
        refine ⟨0, n0, F, xs, A1, c1, by omega, rfl, rfl, by rw [Hxs.out, bitsT_zero], ⟨HC.out.own.alloc _, fun b hb => by have := HC.out.lt b hb; simp; omega, HC.out.nF, HC.out.ge, HC.out.bel.alloc HC.out.bel.size _, HC.out.base, by have := HC.out.size; simp; omega⟩, heap_alloc_at rfl, fun g hg => by have := (HC.out.own.lt g hg).2; omega⟩
      case round =>
        obtain ⟨k, n1, F2, ys, A2, c2, hk, rfl, rfl, hys, hC2, hbf, hnf⟩ := hrel
        have hbl : Below (w.heap.size + 1) (w.alloc (.cells #[.slice A s.l.length c, .slice B s.g.length d] 30)) wr := by have := hC2.bel; simpa using this
        have hlr : w.heap.size < wr.heap.size := by have := hbl.size; simp at this; omega
        have hlf := heap_lt hbf
        have hyl : ys.length = n1 := (Own.len hC2.own).symm
        have hy24 : n1 ≤ 32 := by rw [← hyl, hys]; have := bitsK_len s log 1 (by omega); simp [bitsT]; omega
        have x0 : wr.cell? ⟨w.heap.size, 0, none⟩ = some (.slice A s.l.length c) := (hbl.cell (p := ⟨w.heap.size, 0, none⟩) (by simp)).trans (cell_of_row _ _ 0 _ _ _ (heap_alloc_at rfl))
        have x1 : wr.cell? ⟨w.heap.size, 1, none⟩ = some (.slice B s.g.length d) := (hbl.cell (p := ⟨w.heap.size, 1, none⟩) (by simp)).trans (cell_of_row _ _ 1 _ _ _ (heap_alloc_at rfl))
        have f0 := cell_of_row _ _ 0 _ _ _ hbf
        have hner : w.heap.size ≠ wr.heap.size := by omega
        have hsl : Sl rdE S wr A c s.l := H.out.keep (Below.agree (((Below.refl _ _).alloc (Nat.le_refl _) _).trans (hbl.mono (by omega))))
        have Hsl := Lib.hid hsl
        have HC2 := Lib.hid hC2
        have Hys := Lib.hid hys
        have Hyl := Lib.hid hyl
        have Hbf := Lib.hid hbf
        have hk0 : (0 : Int) ≤ (k : Int) := by omega
        clear hbl hsl hC2 hys hyl hbf
        by_cases hlt : k < 8
        · have hk1 : (k : Int) < 8 := by omega
          have hf : ∀ (j : Nat) (W : World), j < s.l.length → Below (wr.alloc (.cells #[.int .i64 k] 3)).heap.size (wr.alloc (.cells #[.int .i64 k] 3)) W → Calls Try.prog 51 #[.int .i64 j, .pointer (some ⟨wo.heap.size, 0, none⟩), .pointer (some ⟨w.heap.size, 0, none⟩), .pointer (some ⟨wr.heap.size, 0, none⟩)] W fun e W' => e = .returned (.int .u64 (bitF (s.l.getD j zeroRd).whn k)) ∧ Below W.heap.size W W' := by
            intro j W hj hbW'
            have hbW : Below (wr.heap.size + 1) (wr.alloc (.cells #[.int .i64 k] 3)) W := by simpa using hbW'
            have hv := Hval.out _ (List.getElem_mem hj)
            have hr : s.l[j]? = some (s.l.getD j zeroRd) := by simp [hj]
            have hv' : ValidR (s.l.getD j zeroRd) := by simpa [hj] using hv
            obtain ⟨⟨v1, v2⟩, ⟨v3, v4⟩, ⟨v5, v6⟩, v7, v8⟩ := hv'
            exact bits1_2 W ((hbW.cell (p := ⟨wo.heap.size, 0, none⟩) (by simp; omega)).trans ((World.cell?_of_block (a := ⟨wo.heap.size, 0, none⟩) (Below.heap_alloc _ _ _ hlf)).trans f0)) ((hbW.cell (p := ⟨w.heap.size, 0, none⟩) (by simp; omega)).trans ((World.cell?_of_block (a := ⟨w.heap.size, 0, none⟩) (Below.heap_alloc _ _ _ hlr)).trans x0)) ((hbW.cell (p := ⟨wr.heap.size, 0, none⟩) (by simp)).trans (cell_of_row _ _ 0 _ _ _ (heap_alloc_at rfl))) (Hsl.out.keep (Below.agree (((Below.refl _ _).alloc (Nat.le_refl _) _).trans (hbW.mono (by omega))))) hr (by omega) (by omega) (by omega)
          have Hf := Lib.hid hf
          clear hf
          go_wp2_with (first
            | (go_at_call 47; go_must (refine (column_3 (n := s.l.length) (N := N) (f := fun j => bitF (s.l.getD j zeroRd).whn k) _ Hw.out h0 h1 hN2 hn Hf.out).mono ?_); rintro e w3 ⟨A3, c3, rfl, hown3, hb3⟩; have hb4 : Below wr.heap.size wr w3 := ((Below.refl _ _).alloc (Nat.le_refl _) _).trans (hb3.mono (by simp)))
            | (at_builtin; go_must ((refine wpList_append_E (S := fun b => F2 b ∨ (wr.heap.size ≤ b ∧ b ≤ w3.heap.size)) rfl (.tmp 26) (.tmp 31) rfl colsT (base := w.heap.size + 1) (v := .slice A2 n1 c2) (xs := ys) (ys := [fillF N (fun j => bitF (s.l.getD j zeroRd).whn k) s.l.length]) (by rfl) (by rfl) rfl (nz := n1 + 1) (by simp [Hyl.out]) (HC2.out.pre hb4 _) (ColsF.lit (hown3.flatSl u64_flat (T := fun b => wr.heap.size ≤ b) (fun b hb => by simp at hb; omega)) (fun _ h _ => h) hb4.size) (by unfold maxLen; simp [Hyl.out]; omega) (by simp [Hyl.out]; omega) (by have := hb4.size; have := HC2.out.size; simp; omega) HC2.out.apart ?_); intro A5 c5 w5 hown5 hg5 hor5)))
          go_roundw
          case rel =>
            refine ⟨k + 1, n1 + 1, _, ys ++ [fillF N (fun j => bitF (s.l.getD j zeroRd).whn k) s.l.length], A5, c5, by omega, by go_num, rfl, ?_, HC2.out.app hb4 hown5 hg5 hor5, ?_, ?_⟩
            · rw [Hys.out, fill_pad (fun r => bitF r.whn k), ← HN.out, bitsT_succ]
              rfl
            · exact (hg5.block _ (by have := hb4.size; simp; omega) (fun e => hnf _ e.symm rfl)).trans ((Below.heap_alloc _ _ _ (by have := hb4.size; omega)).trans ((hb4.block _ hlf).trans Hbf.out))
            · intro g hg
              rcases hor5 g hg with h9 | h9
              · exact hnf g h9
              · have := hb4.size; simp at h9; omega
          case measure => simp [intOf]; omega
        · have hk1 : ¬ (k : Int) < 8 := by omega
          have hkb : k = 8 := by omega
          go_wp2_with fail
          go_roundw
          case rel => exact ⟨2, n1, F2, ys, A2, c2, by omega, rfl, rfl, by rw [Hys.out, hkb]; exact bitsT_width s log 1, HC2.out⟩
          case measure => simp [intOf]
    · rw [show Value.int IntKind.i64 ((2 : Nat) : Int) = Value.int IntKind.i64 2 from rfl]
      go_wp2_with fail
      obtain ⟨wo, hwo⟩ : ∃ wo : World, wo = wr := ⟨_, rfl⟩
      subst hwo
      go_loopw [7, 23] (fun v i wr => ∃ (k n : Nat) (F : Nat → Prop) (xs : List (List Int)) (A1 : Option Addr) (c1 : Nat), k ≤ 4 ∧ i = .int .i64 k ∧ v = .slice A1 n c1 ∧ xs = bitsT s log 2 k ∧ ColsF F (w.alloc (.cells #[.slice A s.l.length c, .slice B s.g.length d] 30)) (w.heap.size + 1) xs v wr ∧ wr.heap[wo.heap.size]? = some (.cells #[.func (.func 66) #[] #[], .int .i64 4] 76 (0, 0)) ∧ (∀ g, v.ownBlock = some g → g ≠ wo.heap.size)) (fun _ i _ => 4 - (intOf i).toNat)
      case atStart =>
        refine ⟨0, n0, F, xs, A1, c1, by omega, rfl, rfl, by rw [Hxs.out, bitsT_zero], ⟨HC.out.own.alloc _, fun b hb => by have := HC.out.lt b hb; simp; omega, HC.out.nF, HC.out.ge, HC.out.bel.alloc HC.out.bel.size _, HC.out.base, by have := HC.out.size; simp; omega⟩, heap_alloc_at rfl, fun g hg => by have := (HC.out.own.lt g hg).2; omega⟩
      case round =>
        obtain ⟨k, n1, F2, ys, A2, c2, hk, rfl, rfl, hys, hC2, hbf, hnf⟩ := hrel
        have hbl : Below (w.heap.size + 1) (w.alloc (.cells #[.slice A s.l.length c, .slice B s.g.length d] 30)) wr := by have := hC2.bel; simpa using this
        have hlr : w.heap.size < wr.heap.size := by have := hbl.size; simp at this; omega
        have hlf := heap_lt hbf
        have hyl : ys.length = n1 := (Own.len hC2.own).symm
        have hy24 : n1 ≤ 32 := by rw [← hyl, hys]; have := bitsK_len s log 2 (by omega); simp [bitsT]; omega
        have x0 : wr.cell? ⟨w.heap.size, 0, none⟩ = some (.slice A s.l.length c) := (hbl.cell (p := ⟨w.heap.size, 0, none⟩) (by simp)).trans (cell_of_row _ _ 0 _ _ _ (heap_alloc_at rfl))
        have x1 : wr.cell? ⟨w.heap.size, 1, none⟩ = some (.slice B s.g.length d) := (hbl.cell (p := ⟨w.heap.size, 1, none⟩) (by simp)).trans (cell_of_row _ _ 1 _ _ _ (heap_alloc_at rfl))
        have f0 := cell_of_row _ _ 0 _ _ _ hbf
        have hner : w.heap.size ≠ wr.heap.size := by omega
        have hsl : Sl rdE S wr A c s.l := H.out.keep (Below.agree (((Below.refl _ _).alloc (Nat.le_refl _) _).trans (hbl.mono (by omega))))
        have Hsl := Lib.hid hsl
        have HC2 := Lib.hid hC2
        have Hys := Lib.hid hys
        have Hyl := Lib.hid hyl
        have Hbf := Lib.hid hbf
        have hk0 : (0 : Int) ≤ (k : Int) := by omega
        clear hbl hsl hC2 hys hyl hbf
        by_cases hlt : k < 4
        · have hk1 : (k : Int) < 4 := by omega
          have hf : ∀ (j : Nat) (W : World), j < s.l.length → Below (wr.alloc (.cells #[.int .i64 k] 3)).heap.size (wr.alloc (.cells #[.int .i64 k] 3)) W → Calls Try.prog 51 #[.int .i64 j, .pointer (some ⟨wo.heap.size, 0, none⟩), .pointer (some ⟨w.heap.size, 0, none⟩), .pointer (some ⟨wr.heap.size, 0, none⟩)] W fun e W' => e = .returned (.int .u64 (bitF (s.l.getD j zeroRd).knd k)) ∧ Below W.heap.size W W' := by
            intro j W hj hbW'
            have hbW : Below (wr.heap.size + 1) (wr.alloc (.cells #[.int .i64 k] 3)) W := by simpa using hbW'
            have hv := Hval.out _ (List.getElem_mem hj)
            have hr : s.l[j]? = some (s.l.getD j zeroRd) := by simp [hj]
            have hv' : ValidR (s.l.getD j zeroRd) := by simpa [hj] using hv
            obtain ⟨⟨v1, v2⟩, ⟨v3, v4⟩, ⟨v5, v6⟩, v7, v8⟩ := hv'
            exact bits1_3 W ((hbW.cell (p := ⟨wo.heap.size, 0, none⟩) (by simp; omega)).trans ((World.cell?_of_block (a := ⟨wo.heap.size, 0, none⟩) (Below.heap_alloc _ _ _ hlf)).trans f0)) ((hbW.cell (p := ⟨w.heap.size, 0, none⟩) (by simp; omega)).trans ((World.cell?_of_block (a := ⟨w.heap.size, 0, none⟩) (Below.heap_alloc _ _ _ hlr)).trans x0)) ((hbW.cell (p := ⟨wr.heap.size, 0, none⟩) (by simp)).trans (cell_of_row _ _ 0 _ _ _ (heap_alloc_at rfl))) (Hsl.out.keep (Below.agree (((Below.refl _ _).alloc (Nat.le_refl _) _).trans (hbW.mono (by omega))))) hr (by omega) (by omega) (by omega)
          have Hf := Lib.hid hf
          clear hf
          go_wp2_with (first
            | (go_at_call 47; go_must (refine (column_3 (n := s.l.length) (N := N) (f := fun j => bitF (s.l.getD j zeroRd).knd k) _ Hw.out h0 h1 hN2 hn Hf.out).mono ?_); rintro e w3 ⟨A3, c3, rfl, hown3, hb3⟩; have hb4 : Below wr.heap.size wr w3 := ((Below.refl _ _).alloc (Nat.le_refl _) _).trans (hb3.mono (by simp)))
            | (at_builtin; go_must ((refine wpList_append_E (S := fun b => F2 b ∨ (wr.heap.size ≤ b ∧ b ≤ w3.heap.size)) rfl (.tmp 26) (.tmp 31) rfl colsT (base := w.heap.size + 1) (v := .slice A2 n1 c2) (xs := ys) (ys := [fillF N (fun j => bitF (s.l.getD j zeroRd).knd k) s.l.length]) (by rfl) (by rfl) rfl (nz := n1 + 1) (by simp [Hyl.out]) (HC2.out.pre hb4 _) (ColsF.lit (hown3.flatSl u64_flat (T := fun b => wr.heap.size ≤ b) (fun b hb => by simp at hb; omega)) (fun _ h _ => h) hb4.size) (by unfold maxLen; simp [Hyl.out]; omega) (by simp [Hyl.out]; omega) (by have := hb4.size; have := HC2.out.size; simp; omega) HC2.out.apart ?_); intro A5 c5 w5 hown5 hg5 hor5)))
          go_roundw
          case rel =>
            refine ⟨k + 1, n1 + 1, _, ys ++ [fillF N (fun j => bitF (s.l.getD j zeroRd).knd k) s.l.length], A5, c5, by omega, by go_num, rfl, ?_, HC2.out.app hb4 hown5 hg5 hor5, ?_, ?_⟩
            · rw [Hys.out, fill_pad (fun r => bitF r.knd k), ← HN.out, bitsT_succ]
              rfl
            · exact (hg5.block _ (by have := hb4.size; simp; omega) (fun e => hnf _ e.symm rfl)).trans ((Below.heap_alloc _ _ _ (by have := hb4.size; omega)).trans ((hb4.block _ hlf).trans Hbf.out))
            · intro g hg
              rcases hor5 g hg with h9 | h9
              · exact hnf g h9
              · have := hb4.size; simp at h9; omega
          case measure => simp [intOf]; omega
        · have hk1 : ¬ (k : Int) < 4 := by omega
          have hkb : k = 4 := by omega
          go_wp2_with fail
          go_roundw
          case rel => exact ⟨3, n1, F2, ys, A2, c2, by omega, rfl, rfl, by rw [Hys.out, hkb]; exact bitsT_width s log 2, HC2.out⟩
          case measure => simp [intOf]
    · rw [show Value.int IntKind.i64 ((3 : Nat) : Int) = Value.int IntKind.i64 3 from rfl]
      go_wp2_with fail
      obtain ⟨wo, hwo⟩ : ∃ wo : World, wo = wr := ⟨_, rfl⟩
      subst hwo
      go_loopw [7, 23] (fun v i wr => ∃ (k n : Nat) (F : Nat → Prop) (xs : List (List Int)) (A1 : Option Addr) (c1 : Nat), k ≤ 8 ∧ i = .int .i64 k ∧ v = .slice A1 n c1 ∧ xs = bitsT s log 3 k ∧ ColsF F (w.alloc (.cells #[.slice A s.l.length c, .slice B s.g.length d] 30)) (w.heap.size + 1) xs v wr ∧ wr.heap[wo.heap.size]? = some (.cells #[.func (.func 67) #[] #[], .int .i64 8] 76 (0, 0)) ∧ (∀ g, v.ownBlock = some g → g ≠ wo.heap.size)) (fun _ i _ => 8 - (intOf i).toNat)
      case atStart =>
        refine ⟨0, n0, F, xs, A1, c1, by omega, rfl, rfl, by rw [Hxs.out, bitsT_zero], ⟨HC.out.own.alloc _, fun b hb => by have := HC.out.lt b hb; simp; omega, HC.out.nF, HC.out.ge, HC.out.bel.alloc HC.out.bel.size _, HC.out.base, by have := HC.out.size; simp; omega⟩, heap_alloc_at rfl, fun g hg => by have := (HC.out.own.lt g hg).2; omega⟩
      case round =>
        obtain ⟨k, n1, F2, ys, A2, c2, hk, rfl, rfl, hys, hC2, hbf, hnf⟩ := hrel
        have hbl : Below (w.heap.size + 1) (w.alloc (.cells #[.slice A s.l.length c, .slice B s.g.length d] 30)) wr := by have := hC2.bel; simpa using this
        have hlr : w.heap.size < wr.heap.size := by have := hbl.size; simp at this; omega
        have hlf := heap_lt hbf
        have hyl : ys.length = n1 := (Own.len hC2.own).symm
        have hy24 : n1 ≤ 32 := by rw [← hyl, hys]; have := bitsK_len s log 3 (by omega); simp [bitsT]; omega
        have x0 : wr.cell? ⟨w.heap.size, 0, none⟩ = some (.slice A s.l.length c) := (hbl.cell (p := ⟨w.heap.size, 0, none⟩) (by simp)).trans (cell_of_row _ _ 0 _ _ _ (heap_alloc_at rfl))
        have x1 : wr.cell? ⟨w.heap.size, 1, none⟩ = some (.slice B s.g.length d) := (hbl.cell (p := ⟨w.heap.size, 1, none⟩) (by simp)).trans (cell_of_row _ _ 1 _ _ _ (heap_alloc_at rfl))
        have f0 := cell_of_row _ _ 0 _ _ _ hbf
        have hner : w.heap.size ≠ wr.heap.size := by omega
        have hsl : Sl rdE S wr A c s.l := H.out.keep (Below.agree (((Below.refl _ _).alloc (Nat.le_refl _) _).trans (hbl.mono (by omega))))
        have Hsl := Lib.hid hsl
        have HC2 := Lib.hid hC2
        have Hys := Lib.hid hys
        have Hyl := Lib.hid hyl
        have Hbf := Lib.hid hbf
        have hk0 : (0 : Int) ≤ (k : Int) := by omega
        clear hbl hsl hC2 hys hyl hbf
        by_cases hlt : k < 8
        · have hk1 : (k : Int) < 8 := by omega
          have hf : ∀ (j : Nat) (W : World), j < s.l.length → Below (wr.alloc (.cells #[.int .i64 k] 3)).heap.size (wr.alloc (.cells #[.int .i64 k] 3)) W → Calls Try.prog 51 #[.int .i64 j, .pointer (some ⟨wo.heap.size, 0, none⟩), .pointer (some ⟨w.heap.size, 0, none⟩), .pointer (some ⟨wr.heap.size, 0, none⟩)] W fun e W' => e = .returned (.int .u64 (bitF (s.l.getD j zeroRd).val k)) ∧ Below W.heap.size W W' := by
            intro j W hj hbW'
            have hbW : Below (wr.heap.size + 1) (wr.alloc (.cells #[.int .i64 k] 3)) W := by simpa using hbW'
            have hv := Hval.out _ (List.getElem_mem hj)
            have hr : s.l[j]? = some (s.l.getD j zeroRd) := by simp [hj]
            have hv' : ValidR (s.l.getD j zeroRd) := by simpa [hj] using hv
            obtain ⟨⟨v1, v2⟩, ⟨v3, v4⟩, ⟨v5, v6⟩, v7, v8⟩ := hv'
            exact bits1_4 W ((hbW.cell (p := ⟨wo.heap.size, 0, none⟩) (by simp; omega)).trans ((World.cell?_of_block (a := ⟨wo.heap.size, 0, none⟩) (Below.heap_alloc _ _ _ hlf)).trans f0)) ((hbW.cell (p := ⟨w.heap.size, 0, none⟩) (by simp; omega)).trans ((World.cell?_of_block (a := ⟨w.heap.size, 0, none⟩) (Below.heap_alloc _ _ _ hlr)).trans x0)) ((hbW.cell (p := ⟨wr.heap.size, 0, none⟩) (by simp)).trans (cell_of_row _ _ 0 _ _ _ (heap_alloc_at rfl))) (Hsl.out.keep (Below.agree (((Below.refl _ _).alloc (Nat.le_refl _) _).trans (hbW.mono (by omega))))) hr (by omega) (by omega) (by omega)
          have Hf := Lib.hid hf
          clear hf
          go_wp2_with (first
            | (go_at_call 47; go_must (refine (column_3 (n := s.l.length) (N := N) (f := fun j => bitF (s.l.getD j zeroRd).val k) _ Hw.out h0 h1 hN2 hn Hf.out).mono ?_); rintro e w3 ⟨A3, c3, rfl, hown3, hb3⟩; have hb4 : Below wr.heap.size wr w3 := ((Below.refl _ _).alloc (Nat.le_refl _) _).trans (hb3.mono (by simp)))
            | (at_builtin; go_must ((refine wpList_append_E (S := fun b => F2 b ∨ (wr.heap.size ≤ b ∧ b ≤ w3.heap.size)) rfl (.tmp 26) (.tmp 31) rfl colsT (base := w.heap.size + 1) (v := .slice A2 n1 c2) (xs := ys) (ys := [fillF N (fun j => bitF (s.l.getD j zeroRd).val k) s.l.length]) (by rfl) (by rfl) rfl (nz := n1 + 1) (by simp [Hyl.out]) (HC2.out.pre hb4 _) (ColsF.lit (hown3.flatSl u64_flat (T := fun b => wr.heap.size ≤ b) (fun b hb => by simp at hb; omega)) (fun _ h _ => h) hb4.size) (by unfold maxLen; simp [Hyl.out]; omega) (by simp [Hyl.out]; omega) (by have := hb4.size; have := HC2.out.size; simp; omega) HC2.out.apart ?_); intro A5 c5 w5 hown5 hg5 hor5)))
          go_roundw
          case rel =>
            refine ⟨k + 1, n1 + 1, _, ys ++ [fillF N (fun j => bitF (s.l.getD j zeroRd).val k) s.l.length], A5, c5, by omega, by go_num, rfl, ?_, HC2.out.app hb4 hown5 hg5 hor5, ?_, ?_⟩
            · rw [Hys.out, fill_pad (fun r => bitF r.val k), ← HN.out, bitsT_succ]
              rfl
            · exact (hg5.block _ (by have := hb4.size; simp; omega) (fun e => hnf _ e.symm rfl)).trans ((Below.heap_alloc _ _ _ (by have := hb4.size; omega)).trans ((hb4.block _ hlf).trans Hbf.out))
            · intro g hg
              rcases hor5 g hg with h9 | h9
              · exact hnf g h9
              · have := hb4.size; simp at h9; omega
          case measure => simp [intOf]; omega
        · have hk1 : ¬ (k : Int) < 8 := by omega
          have hkb : k = 8 := by omega
          go_wp2_with fail
          go_roundw
          case rel => exact ⟨4, n1, F2, ys, A2, c2, by omega, rfl, rfl, by rw [Hys.out, hkb]; exact bitsT_width s log 3, HC2.out⟩
          case measure => simp [intOf]
    · go_wp2_with fail
      go_ret2
      have fin := HC.out
      rw [Hxs.out, bitsK_all] at fin
      have hl := Own.len fin.own
      refine ⟨A1, c1, (show Ending.returned (.tuple #[.slice A1 n0 c1, .int .i64 0]) = _ by rw [hl]), ?_, ((Below.refl _ _).alloc (Nat.le_refl _) _).trans (fin.bel.mono (by simp))⟩
      exact (show Own Enc.u64.slice _ wr (w.heap.size + 1) 48 (.slice A1 n0 c1) (bitsF s log) from fin.own).toSl (fun b hb _ => by have := fin.ge b hb; simp at this; omega) (fun b hb _ _ => by omega)
end Go.Proofs.Ytlolppjnpmdpgaa
