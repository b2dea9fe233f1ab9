/-
  Contracts of the readings (XRd18): Table.
-/
import Derived.Test.YtlolppjnpmdpgaaRd17
namespace Go.Proofs.Ytlolppjnpmdpgaa
open Go.RowKit

def widF (n : Nat) : Nat := if n ≤ 1 then 1 else if n ≤ 2 then 2 else if n ≤ 4 then 4 else if n ≤ 8 then 8 else if n ≤ 16 then 16 else if n ≤ 32 then 32 else 64
def pow2 (n : Nat) : Bool := decide (n = 1 ∨ n = 2 ∨ n = 4 ∨ n = 8)
def headLen (cols : List (List Int)) : Nat := (cols.getD 0 []).length
def tabOk (cols : List (List Int)) : Bool := decide (1 ≤ cols.length ∧ cols.length ≤ 64) && (pow2 (headLen cols) && !cols.any (badCol (headLen cols)))
/-- The first k elements of column c, written into the table. -/
def fillTo (W c : Nat) (col out : List Int) (k : Nat) : List Int := (List.range k).foldl (fun o i => o.set (c + W * i) (col.getD i 0)) out
theorem fillTo_succ (W c : Nat) (col out : List Int) (k : Nat) : fillTo W c col out (k + 1) = (fillTo W c col out k).set (c + W * k) (col.getD k 0) := by
  simp [fillTo, List.range_succ]
theorem fillTo_len (W c : Nat) (col out : List Int) (k : Nat) : (fillTo W c col out k).length = out.length := by
  induction k with
  | zero => rfl
  | succ k ih => rw [fillTo_succ, List.length_set, ih]
def tabTo (W n : Nat) (cols : List (List Int)) (k : Nat) : List Int := (List.range k).foldl (fun o c => fillTo W c (cols.getD c []) o n) (List.replicate (W * n) 0)
theorem tabTo_succ (W n : Nat) (cols : List (List Int)) (k : Nat) : tabTo W n cols (k + 1) = fillTo W k (cols.getD k []) (tabTo W n cols k) n := by
  simp [tabTo, List.range_succ]
theorem tabTo_len (W n : Nat) (cols : List (List Int)) (k : Nat) : (tabTo W n cols k).length = W * n := by
  induction k with
  | zero => simp [tabTo]
  | succ k ih => rw [tabTo_succ, fillTo_len, ih]
def tableF (cols : List (List Int)) : List Int × Int := if tabOk cols then (tabTo (widF cols.length) (headLen cols) cols cols.length, 0) else ([], 1)
theorem tableF_bad {cols : List (List Int)} (h : tabOk cols = false) : tableF cols = ([], 1) := by unfold tableF; rw [if_neg (by simp [h])]

/-- A slice of numbers and the number of an error. -/
def TabRes (w : World) (p : List Int × Int) (e : Ending) (w' : World) : Prop :=
  ∃ A c, e = .returned (.tuple #[.slice A p.1.length c, .int .i64 p.2]) ∧ Sl .u64 (fun b => w.heap.size ≤ b) w' A c p.1 ∧ Below w.heap.size w w'
theorem TabRes.none {w w' : World} {k : Int} {e : Ending} (he : e = .returned (.tuple #[.slice none 0 0, .int .i64 k])) (hb : Below w.heap.size w w') : TabRes w ([], k) e w' :=
  ⟨_, 0, he, Sl.nil_ _ _ _ _ (Nat.zero_le _), hb⟩

theorem bits_dec (n : Nat) (hn : n ≤ 8) (h1 : 1 ≤ n) : (pow2 n = true → bits BinOp.and IntKind.i64 (n : Int) ((n : Int) - 1) = 0) ∧ (pow2 n = false → (bits BinOp.and IntKind.i64 (n : Int) ((n : Int) - 1) != 0) = true) := by
  have h : ∀ x : Fin 9, 1 ≤ x.1 → (pow2 x.1 = true → bits BinOp.and IntKind.i64 (x.1 : Int) ((x.1 : Int) - 1) = 0) ∧ (pow2 x.1 = false → (bits BinOp.and IntKind.i64 (x.1 : Int) ((x.1 : Int) - 1) != 0) = true) := by decide +kernel
  exact h ⟨n, by omega⟩ h1

set_option maxRecDepth 100000 in
set_option maxHeartbeats 4000000 in
theorem tableP {l : List (List Int)} {A : Option Addr} {c : Nat} {S : Nat → Prop} (w : World) (h : Sl Enc.u64.slice S w A c l) (h8 : headLen l ≤ 8) :
    Calls Try.prog 29 #[.slice A l.length c] w (TabRes w (tableF l)) := by
  have hm := h.max
  by_cases hlen : 1 ≤ l.length ∧ l.length ≤ 64
  · obtain ⟨hl1, hl2⟩ := hlen
    obtain ⟨c0, hc0⟩ : ∃ c0, l[0]? = some c0 := ⟨_, List.getElem?_eq_getElem (by omega)⟩
    have hhd : headLen l = c0.length := by simp [headLen, hc0]
    obtain ⟨b0, o0, B0, d0, rfl, -, hb0, x0, hs0⟩ := col_at h hc0
    obtain ⟨n, hn⟩ : ∃ n, c0.length = n := ⟨_, rfl⟩
    rw [hn] at x0 hhd
    rw [hhd] at h8
    simp only [Nat.add_zero] at x0
    have H := Lib.hid h.old
    have Hhd := Lib.hid hhd
    have k1 : ¬ (l.length : Int) < 1 := by omega
    have k2 : ((64 : Int) < (l.length : Int)) = False := by simp; omega
    have k3 : (0 : Int) < (l.length : Int) := by omega
    clear h hc0 hs0 hn hhd
    by_cases hn0 : n = 0
    · have ht : tableF l = ([], 1) := tableF_bad (by unfold tabOk; rw [Hhd.out, hn0]; simp [pow2])
      rw [ht]
      subst hn0
      clear ht
      go_enter Try.func29, Try.ntmps29
      go_wp2_with fail
      go_ret2
      exact TabRes.none rfl (by repeat' (first | with_reducible exact Below.refl _ _ | with_reducible assumption | with_reducible refine Below.setCell ?_ ?_ _ | with_reducible refine Below.drew ?_ | with_reducible refine below_drewN ?_ _ | with_reducible refine Below.alloc ?_ ?_ _ | (rintro _ ⟨⟩; simp <;> omega) | omega | (simp <;> omega)))
    · have k4 : ¬ (n : Int) < 1 := by omega
      have k5 : ((65536 : Int) < (n : Int)) = False := by simp; omega
      have k6 : (0 : Int) ≤ (n : Int) - 1 := by omega
      have k7 : (n : Int) ≤ 8 := by omega
      obtain ⟨e1, e2⟩ := bits_dec n h8 (by omega)
      cases hp : pow2 n with
      | false =>
        have ht : tableF l = ([], 1) := tableF_bad (by unfold tabOk; rw [Hhd.out, hp]; simp)
        rw [ht]
        have e3 := e2 hp
        clear ht e1 e2 hp
        go_enter Try.func29, Try.ntmps29
        go_wp2_with fail
        go_ret2
        exact TabRes.none rfl (by repeat' (first | with_reducible exact Below.refl _ _ | with_reducible assumption | with_reducible refine Below.setCell ?_ ?_ _ | with_reducible refine Below.drew ?_ | with_reducible refine below_drewN ?_ _ | with_reducible refine Below.alloc ?_ ?_ _ | (rintro _ ⟨⟩; simp <;> omega) | omega | (simp <;> omega)))
      | true =>
        have e3 := e1 hp
        have Hp := Lib.hid hp
        clear e1 e2 hp
        have hcontains := containsCs (n := n) (p := w.heap.size) (q := w.heap.size + 1) ((w.alloc (.cells #[.int .i64 n] 3)).alloc (.cells #[.func (.func 52) #[] #[]] 69)) (H.out.keep (((Agree.refl _ _).alloc _).alloc _)) ((World.cell?_of_block (a := ⟨w.heap.size, 0, none⟩) (Below.heap_alloc _ _ _ (by simp))).trans (cell_of_row _ _ 0 _ _ _ (heap_alloc_at rfl))) (cell_of_row _ _ 0 _ _ _ (heap_alloc_at (by simp)))
        cases hbad : l.any (badCol n) with
        | true =>
          have ht : tableF l = ([], 1) := tableF_bad (by unfold tabOk; rw [Hhd.out, hbad]; simp)
          rw [ht]
          rw [hbad] at hcontains
          have Hc := Lib.hid hcontains
          clear ht hbad hcontains
          go_enter Try.func29, Try.ntmps29
          go_wp2_with (go_at_call 56; go_must (refine Hc.out.mono ?_); rintro e w3 ⟨rfl, rfl⟩)
          go_ret2
          exact TabRes.none rfl (by repeat' (first | with_reducible exact Below.refl _ _ | with_reducible assumption | with_reducible refine Below.setCell ?_ ?_ _ | with_reducible refine Below.drew ?_ | with_reducible refine below_drewN ?_ _ | with_reducible refine Below.alloc ?_ ?_ _ | (rintro _ ⟨⟩; simp <;> omega) | omega | (simp <;> omega)))
        | false =>
          have ht : tabOk l = true := by unfold tabOk; rw [Hhd.out, hbad, Hp.out]; simp; omega
          have ht2 : tableF l = (tabTo (widF l.length) n l l.length, 0) := by unfold tableF; rw [if_pos ht, Hhd.out]
          rw [ht2]
          rw [hbad] at hcontains
          have Hc := Lib.hid hcontains
          have Hbad := Lib.hid hbad
          clear ht ht2 hbad hcontains
          go_enter Try.func29, Try.ntmps29
          go_wp2_with (go_at_call 56; go_must (refine Hc.out.mono ?_); rintro e w3 ⟨rfl, rfl⟩)
          have Hx0 := Lib.hid x0
          clear x0
          go_loop [7] (fun v => ∃ W : Nat, v = .int .i64 W ∧ (W = 1 ∨ W = 2 ∨ W = 4 ∨ W = 8 ∨ W = 16 ∨ W = 32 ∨ W = 64) ∧ (W = 1 ∨ W < 2 * l.length)) (fun v => 128 - (intOf v).toNat)
          case atStart => exact ⟨1, rfl, .inl rfl, .inl rfl⟩
          case round =>
            obtain ⟨W, rfl, hW, hW2⟩ := hrel
            have hW64 : W ≤ 64 := by omega
            have hW0 : (0 : Int) ≤ (W : Int) := by omega
            have hW1 : (W : Int) ≤ 64 := by omega
            by_cases hlt : W < l.length
            · have hj1 : (W : Int) < (l.length : Int) := by omega
              go_wp2_with fail
              go_round
              case rel => exact ⟨2 * W, by go_num, by omega, by omega⟩
              case measure => simp [intOf]; omega
            · have hj1 : ¬ (W : Int) < (l.length : Int) := by omega
              have hwid : widF l.length = W := by unfold widF; (repeat' split) <;> omega
              have Hwid := Lib.hid hwid
              have hWn : W * n ≤ 64 * 8 := Nat.mul_le_mul hW64 h8
              have hWn0 : (0 : Int) ≤ (W : Int) * (n : Int) := by rw [← Int.natCast_mul]; omega
              have hWn1 : (W : Int) * (n : Int) ≤ 512 := by rw [← Int.natCast_mul]; omega
              clear hwid hW hW2
              go_wp2_with (at_make; go_must ((refine wpList_make_u64 _ rfl (.tmp 52) (.tmp 52) rfl (kl := .i64) (kc := .i64) (n := W * n) (show Value.int .i64 ((W : Int) * (n : Int)) = .int .i64 ((W * n : Nat) : Int) by rw [Int.natCast_mul]) (show Value.int .i64 ((W : Int) * (n : Int)) = .int .i64 ((W * n : Nat) : Int) by rw [Int.natCast_mul]) (by omega) ?_; intro w1 hown1 hg1)))
              have hlW : l.length ≤ W := by omega
              have b1 : Below w.heap.size w w1 := Below.grown (((Below.refl _ _).alloc (Nat.le_refl _) _).alloc (by simp) _) hg1 (by simp; omega) (by rintro k ⟨⟩)
              have o1 : Own .u64 (fun _ => False) w1 (w.heap.size + 1 + 1) 50 (.slice (some ⟨w.heap.size + 1 + 1, 0, none⟩) (W * n) (W * n)) (tabTo W n l 0) := by
                have h := hown1
                simp only [World.size_alloc] at h
                exact h
              clear hown1 hg1
              go_loopw [56] (fun i wr => ∃ j : Nat, j ≤ l.length ∧ i = .int .i64 j ∧ Own .u64 (fun _ => False) wr (w.heap.size + 1 + 1) 50 (.slice (some ⟨w.heap.size + 1 + 1, 0, none⟩) (W * n) (W * n)) (tabTo W n l j) ∧ Below w.heap.size w wr) (fun i _ => l.length - (intOf i).toNat)
              case atStart => exact ⟨0, Nat.zero_le _, rfl, o1, b1⟩
              case round =>
                obtain ⟨j, hj, rfl, ho, hb⟩ := hrel
                have Ho := Lib.hid ho
                have Hb := Lib.hid hb
                have hj0 : (0 : Int) ≤ (j : Int) := by omega
                clear ho hb
                by_cases hlt : j < l.length
                · have hj1 : (j : Int) < (l.length : Int) := by omega
                  obtain ⟨col, hcol⟩ : ∃ col, l[j]? = some col := ⟨_, List.getElem?_eq_getElem hlt⟩
                  have hbc : badCol n col = false := by
                    have h1 := Hbad.out
                    rw [List.any_eq_false] at h1
                    simpa using h1 col (List.mem_of_getElem? hcol)
                  have hcn : col.length = n := by
                    simp only [badCol, Bool.or_eq_false_iff, decide_eq_false_iff_not] at hbc
                    omega
                  obtain ⟨b2, o2, B2, d2, hb2e, -, hb2, x2, hs2⟩ := col_at (H.out.keep (Below.agree Hb.out)) hcol
                  cases hb2e
                  rw [hcn] at x2
                  have Hs2 := Lib.hid hs2
                  have hgd : l.getD j [] = col := by simp [hcol]
                  have Hgd := Lib.hid hgd
                  have Hcn := Lib.hid hcn
                  clear hcol hbc hcn hs2 hgd
                  go_wp2_with fail
                  obtain ⟨wo, hwo⟩ : ∃ wo : World, wo = wr := ⟨_, rfl⟩
                  subst hwo
                  go_loopw [63] (fun i wr => ∃ k : Nat, k ≤ n ∧ i = .int .i64 k ∧ Own .u64 (fun _ => False) wr (w.heap.size + 1 + 1) 50 (.slice (some ⟨w.heap.size + 1 + 1, 0, none⟩) (W * n) (W * n)) (fillTo W j col (tabTo W n l j) k) ∧ Below w.heap.size w wr ∧ Agree (fun b => b < w.heap.size) wo wr) (fun i _ => n - (intOf i).toNat)
                  case atStart => exact ⟨0, Nat.zero_le _, rfl, Ho.out, Hb.out, Agree.refl _ _⟩
                  case round =>
                    obtain ⟨k, hk, rfl, ho, hb, ha⟩ := hrel
                    have hlen2 := fillTo_len W j col (tabTo W n l j) k
                    rw [tabTo_len] at hlen2
                    have hk0 : (0 : Int) ≤ (k : Int) := by omega
                    have Ho2 := Lib.hid ho
                    have Hb2 := Lib.hid hb
                    have Ha := Lib.hid ha
                    clear ho hb ha
                    by_cases hlk : k < n
                    · have hk1 : (k : Int) < (n : Int) := by omega
                      obtain ⟨x, hx⟩ : ∃ x, col[k]? = some x := ⟨_, List.getElem?_eq_getElem (by rw [Hcn.out]; exact hlk)⟩
                      have hsub : Sl .u64 (fun b => S b ∧ b < w.heap.size) wo B2 d2 col := Hs2.out
                      obtain ⟨b4, o4, rfl, hS4, hb4, y0⟩ := u64_at (hsub.keep (Ha.out.sub fun b hb => hb.2)) hx
                      have hidx : j + W * k < W * n := by
                        have h1 : W * (k + 1) ≤ W * n := Nat.mul_le_mul_left _ (by omega)
                        rw [Nat.mul_add] at h1
                        omega
                      have hx2 := u64_cell Ho2.out (k := j + W * k) (by rw [hlen2]; exact hidx)
                      have hf2 := Ho2.out.frozen (j + W * k)
                      have m0 : (0 : Int) ≤ (W : Int) * (k : Int) := by rw [← Int.natCast_mul]; omega
                      have m1 : (j : Int) + (W : Int) * (k : Int) < ((W * n : Nat) : Int) := by rw [← Int.natCast_mul]; omega
                      have m2 : ((j : Int) + (W : Int) * (k : Int)).toNat = j + W * k := by rw [← Int.natCast_mul]; omega
                      have m3 : (W : Int) * (k : Int) ≤ 512 := by rw [← Int.natCast_mul]; omega
                      have Hx := Lib.hid hx
                      clear hx hsub
                      go_wp2_with fail
                      go_roundw
                      case rel =>
                        have hxg : col.getD k 0 = x := by simp [Hx.out]
                        exact ⟨k + 1, by omega, by go_num, by rw [fillTo_succ, hxg]; exact u64_store Ho2.out x, Hb2.out.setCell (by show w.heap.size ≤ w.heap.size + 1 + 1; omega) _, Ha.out.set (by show ¬ (w.heap.size + 1 + 1 < w.heap.size); omega) _⟩
                      case measure => simp [intOf]; omega
                    · have hk1 : ¬ (k : Int) < (n : Int) := by omega
                      have hkn : k = n := by omega
                      go_wp2_with fail
                      go_roundw
                      case rel => exact ⟨j + 1, by omega, by go_num, by rw [tabTo_succ, Hgd.out]; exact hkn ▸ Ho2.out, Hb2.out⟩
                      case measure => simp [intOf]; omega
                · have hj1 : ¬ (j : Int) < (l.length : Int) := by omega
                  have hjl : j = l.length := by omega
                  subst hjl
                  go_wp2_with fail
                  go_ret2
                  have hl := tabTo_len W n l l.length
                  have fin := Ho.out
                  rw [Hwid.out]
                  refine ⟨some ⟨w.heap.size + 1 + 1, 0, none⟩, W * n, (show Ending.returned (.tuple #[.slice (some ⟨w.heap.size + 1 + 1, 0, none⟩) (W * n) (W * n), .int .i64 0]) = _ by rw [hl]), ?_, Hb.out⟩
                  exact fin.flatSl u64_flat (fun b hb => by omega)
  · have ht : tableF l = ([], 1) := tableF_bad (by unfold tabOk; simp; intro h1 h2; omega)
    rw [ht]
    clear ht h h8
    by_cases h0 : l.length < 1
    · have k1 : (l.length : Int) < 1 := by omega
      go_enter Try.func29, Try.ntmps29
      go_wp2_with fail
      go_ret2
      exact TabRes.none rfl (by repeat' (first | with_reducible exact Below.refl _ _ | with_reducible assumption | with_reducible refine Below.setCell ?_ ?_ _ | with_reducible refine Below.drew ?_ | with_reducible refine below_drewN ?_ _ | with_reducible refine Below.alloc ?_ ?_ _ | (rintro _ ⟨⟩; simp <;> omega) | omega | (simp <;> omega)))
    · have k1 : ¬ (l.length : Int) < 1 := by omega
      have k2 : (64 : Int) < (l.length : Int) := by omega
      go_enter Try.func29, Try.ntmps29
      go_wp2_with fail
      go_ret2
      exact TabRes.none rfl (by repeat' (first | with_reducible exact Below.refl _ _ | with_reducible assumption | with_reducible refine Below.setCell ?_ ?_ _ | with_reducible refine Below.drew ?_ | with_reducible refine below_drewN ?_ _ | with_reducible refine Below.alloc ?_ ?_ _ | (rintro _ ⟨⟩; simp <;> omega) | omega | (simp <;> omega)))
end Go.Proofs.Ytlolppjnpmdpgaa
