/-
  Contracts of the readings (XRd19): the reference's Table.
-/
import Derived.Test.YtlolppjnpmdpgaaRd18
namespace Go.Proofs.Ytlolppjnpmdpgaa
open Go.RowKit

theorem badC_take {l : List Int} {k : Nat} {x : Int} (h : l[k]? = some x) : badC (l.take (k + 1)) = (badC (l.take k) || !okB x) := by rw [take_snocR h]; simp [badC]
theorem badCol_take {l : List (List Int)} {k n : Nat} {x : List Int} (h : l[k]? = some x) : (l.take (k + 1)).any (badCol n) = ((l.take k).any (badCol n) || badCol n x) := by rw [take_snocR h]; simp
theorem tabOk_false {l : List (List Int)} {x : List Int} (h : x ∈ l) (hb : badCol (headLen l) x = true) : tabOk l = false := by
  have : l.any (badCol (headLen l)) = true := List.any_eq_true.2 ⟨x, h, hb⟩
  unfold tabOk; rw [this]; simp

set_option maxRecDepth 100000 in
set_option maxHeartbeats 4000000 in
theorem tableR {l : List (List Int)} {A : Option Addr} {c : Nat} {S : Nat → Prop} (w : World) (h : Sl Enc.u64.slice S w A c l) (h8 : headLen l ≤ 8) :
    Calls Try.prog 30 #[.slice A l.length c] w (TabRes w (tableF l)) := by
  have hm := h.max
  by_cases hlen : 1 ≤ l.length ∧ l.length ≤ 64
  · obtain ⟨hl1, hl2⟩ := hlen
    obtain ⟨c0, hc0⟩ : ∃ c0, l[0]? = some c0 := ⟨_, List.getElem?_eq_getElem (by omega)⟩
    have hhd : headLen l = c0.length := by simp [headLen, hc0]
    obtain ⟨b0, o0, B0, d0, rfl, -, hb0, x0, hs0⟩ := col_at h hc0
    obtain ⟨n, hn⟩ : ∃ n, c0.length = n := ⟨_, rfl⟩
    rw [hn] at x0 hhd
    rw [hhd] at h8
    simp only [Nat.add_zero] at x0
    have H := Lib.hid h.old
    have Hhd := Lib.hid hhd
    have k1 : ¬ (l.length : Int) < 1 := by omega
    have k2 : ((64 : Int) < (l.length : Int)) = False := by simp; omega
    have k3 : (0 : Int) < (l.length : Int) := by omega
    clear h hc0 hs0 hn hhd
    by_cases hn0 : n = 0
    · have ht : tableF l = ([], 1) := tableF_bad (by unfold tabOk; rw [Hhd.out, hn0]; simp [pow2])
      rw [ht]
      subst hn0
      clear ht
      go_enter Try.func30, Try.ntmps30
      go_wp2_with fail
      go_ret2
      exact TabRes.none rfl (by repeat' (first | with_reducible exact Below.refl _ _ | with_reducible assumption | with_reducible refine Below.setCell ?_ ?_ _ | with_reducible refine Below.drew ?_ | with_reducible refine below_drewN ?_ _ | with_reducible refine Below.alloc ?_ ?_ _ | (rintro _ ⟨⟩; simp <;> omega) | omega | (simp <;> omega)))
    · have k4 : ¬ (n : Int) < 1 := by omega
      have k5 : ((65536 : Int) < (n : Int)) = False := by simp; omega
      have k6 : (0 : Int) ≤ (n : Int) - 1 := by omega
      have k7 : (n : Int) ≤ 8 := by omega
      obtain ⟨e1, e2⟩ := bits_dec n h8 (by omega)
      cases hp : pow2 n with
      | false =>
        have ht : tableF l = ([], 1) := tableF_bad (by unfold tabOk; rw [Hhd.out, hp]; simp)
        rw [ht]
        have e3 := e2 hp
        clear ht e1 e2 hp
        go_enter Try.func30, Try.ntmps30
        go_wp2_with fail
        go_ret2
        exact TabRes.none rfl (by repeat' (first | with_reducible exact Below.refl _ _ | with_reducible assumption | with_reducible refine Below.setCell ?_ ?_ _ | with_reducible refine Below.drew ?_ | with_reducible refine below_drewN ?_ _ | with_reducible refine Below.alloc ?_ ?_ _ | (rintro _ ⟨⟩; simp <;> omega) | omega | (simp <;> omega)))
      | true =>
        have e3 := e1 hp
        have Hp := Lib.hid hp
        clear e1 e2 hp
        have ht : l.any (badCol n) = false → tableF l = (tabTo (widF l.length) n l l.length, 0) := fun hbad => by
          have ht : tabOk l = true := by unfold tabOk; rw [Hhd.out, hbad, Hp.out]; simp; omega
          unfold tableF; rw [if_pos ht, Hhd.out]
        have Ht := Lib.hid ht
        clear ht
        have hx0' := Lib.hid x0
        go_enter Try.func30, Try.ntmps30
        go_wp2_with fail
        have Hx0 := Lib.hid x0
        clear x0
        go_loop [5] (fun v => ∃ W : Nat, v = .int .i64 W ∧ (W = 1 ∨ W = 2 ∨ W = 4 ∨ W = 8 ∨ W = 16 ∨ W = 32 ∨ W = 64) ∧ (W = 1 ∨ W < 2 * l.length)) (fun v => 128 - (intOf v).toNat)
        case atStart => exact ⟨1, rfl, .inl rfl, .inl rfl⟩
        case round =>
          obtain ⟨W, rfl, hW, hW2⟩ := hrel
          have hW64 : W ≤ 64 := by omega
          have hW0 : (0 : Int) ≤ (W : Int) := by omega
          have hW1 : (W : Int) ≤ 64 := by omega
          by_cases hlt : W < l.length
          · have hj1 : (W : Int) < (l.length : Int) := by omega
            go_wp2_with fail
            go_round
            case rel => exact ⟨2 * W, by go_num, by omega, by omega⟩
            case measure => simp [intOf]; omega
          · have hj1 : ¬ (W : Int) < (l.length : Int) := by omega
            have hwid : widF l.length = W := by unfold widF; (repeat' split) <;> omega
            have Hwid := Lib.hid hwid
            have hWn : W * n ≤ 64 * 8 := Nat.mul_le_mul hW64 h8
            have hWn0 : (0 : Int) ≤ (W : Int) * (n : Int) := by rw [← Int.natCast_mul]; omega
            have hWn1 : (W : Int) * (n : Int) ≤ 512 := by rw [← Int.natCast_mul]; omega
            clear hwid hW hW2
            go_wp2_with (at_make; go_must ((refine wpList_make_u64 _ rfl (.tmp 42) (.tmp 42) rfl (kl := .i64) (kc := .i64) (n := W * n) (show Value.int .i64 ((W : Int) * (n : Int)) = .int .i64 ((W * n : Nat) : Int) by rw [Int.natCast_mul]) (show Value.int .i64 ((W : Int) * (n : Int)) = .int .i64 ((W * n : Nat) : Int) by rw [Int.natCast_mul]) (by omega) ?_; intro w1 hown1 hg1)))
            have hlW : l.length ≤ W := by omega
            have b1 : Below w.heap.size w w1 := Below.grown (Below.refl _ _) hg1 (Nat.le_refl _) (by rintro k ⟨⟩)
            have o1 : Own .u64 (fun _ => False) w1 w.heap.size 50 (.slice (some ⟨w.heap.size, 0, none⟩) (W * n) (W * n)) (tabTo W n l 0) := hown1
            clear hown1 hg1
            go_loopw [7] (fun i wr => ∃ j : Nat, j ≤ l.length ∧ i = .int .i64 j ∧ (l.take j).any (badCol n) = false ∧ Own .u64 (fun _ => False) wr w.heap.size 50 (.slice (some ⟨w.heap.size, 0, none⟩) (W * n) (W * n)) (tabTo W n l j) ∧ Below w.heap.size w wr) (fun i _ => l.length - (intOf i).toNat)
            case atStart => exact ⟨0, Nat.zero_le _, rfl, rfl, o1, b1⟩
            case round =>
              obtain ⟨j, hj, rfl, hgood, ho, hb⟩ := hrel
              have Ho := Lib.hid ho
              have Hb := Lib.hid hb
              have Hgood := Lib.hid hgood
              have hj0 : (0 : Int) ≤ (j : Int) := by omega
              clear ho hb hgood
              by_cases hlt : j < l.length
              · have hj1 : (j : Int) < (l.length : Int) := by omega
                obtain ⟨col, hcol⟩ : ∃ col, l[j]? = some col := ⟨_, List.getElem?_eq_getElem hlt⟩
                have hmem := List.mem_of_getElem? hcol
                obtain ⟨b2, o2, B2, d2, hb2e, hSb2, hb2, x2, hs2⟩ := col_at (H.out.keep (Below.agree Hb.out)) hcol
                cases hb2e
                have hm2 := hs2.max
                have Hs2 := Lib.hid hs2
                have hgd : l.getD j [] = col := by simp [hcol]
                have Hgd := Lib.hid hgd
                have Hsn := Lib.hid (badCol_take (n := n) hcol)
                have Hmem := Lib.hid hmem
                clear hcol hs2 hgd hmem
                by_cases hcn : col.length = n
                · rw [hcn] at x2 hm2
                  have Hcn := Lib.hid hcn
                  clear hcn
                  go_wp2_with fail
                  obtain ⟨wo, hwo⟩ : ∃ wo : World, wo = wr := ⟨_, rfl⟩
                  subst hwo
                  go_loopw [8] (fun i wr => ∃ k : Nat, k ≤ n ∧ i = .int .i64 k ∧ badC (col.take k) = false ∧ Own .u64 (fun _ => False) wr w.heap.size 50 (.slice (some ⟨w.heap.size, 0, none⟩) (W * n) (W * n)) (fillTo W j col (tabTo W n l j) k) ∧ Below w.heap.size w wr ∧ Agree (fun b => b < w.heap.size) wo wr) (fun i _ => n - (intOf i).toNat)
                  case atStart => exact ⟨0, Nat.zero_le _, rfl, rfl, Ho.out, Hb.out, Agree.refl _ _⟩
                  case round =>
                    obtain ⟨k, hk, rfl, hgk, ho, hb, ha⟩ := hrel
                    have hlen2 := fillTo_len W j col (tabTo W n l j) k
                    rw [tabTo_len] at hlen2
                    have hk0 : (0 : Int) ≤ (k : Int) := by omega
                    have hb2r : b0 < wr.heap.size := Nat.lt_of_lt_of_le hb2 ha.1
                    have x3 : wr.cell? ⟨b0, o0 + j, none⟩ = some (.slice B2 n d2) := (World.cell?_of_block (a := ⟨b0, o0 + j, none⟩) (ha.2 b0 hSb2.2 hb2)).trans x2
                    have Ho2 := Lib.hid ho
                    have Hb2 := Lib.hid hb
                    have Ha := Lib.hid ha
                    have Hgk := Lib.hid hgk
                    clear ho hb ha hgk
                    by_cases hlk : k < n
                    · have hk1 : (k : Int) < (n : Int) := by omega
                      obtain ⟨x, hx⟩ : ∃ x, col[k]? = some x := ⟨_, List.getElem?_eq_getElem (by rw [Hcn.out]; exact hlk)⟩
                      have hsub : Sl .u64 (fun b => S b ∧ b < w.heap.size) wo B2 d2 col := Hs2.out
                      obtain ⟨b4, o4, rfl, hS4, hb4, y0⟩ := u64_at (hsub.keep (Ha.out.sub fun b hb => hb.2)) hx
                      have hidx : j + W * k < W * n := by
                        have h1 : W * (k + 1) ≤ W * n := Nat.mul_le_mul_left _ (by omega)
                        rw [Nat.mul_add] at h1
                        omega
                      have hx2 := u64_cell Ho2.out (k := j + W * k) (by rw [hlen2]; exact hidx)
                      have hf2 := Ho2.out.frozen (j + W * k)
                      have m0 : (0 : Int) ≤ (W : Int) * (k : Int) := by rw [← Int.natCast_mul]; omega
                      have m1 : (j : Int) + (W : Int) * (k : Int) < ((W * n : Nat) : Int) := by rw [← Int.natCast_mul]; omega
                      have m2 : ((j : Int) + (W : Int) * (k : Int)).toNat = j + W * k := by rw [← Int.natCast_mul]; omega
                      have m3 : (W : Int) * (k : Int) ≤ 512 := by rw [← Int.natCast_mul]; omega
                      have Hx := Lib.hid hx
                      have Hsk := Lib.hid (badC_take hx)
                      clear hx hsub x2
                      cases hok : okB x with
                      | true =>
                        have Hok := Lib.hid hok
                        clear hok
                        go_wp2_with (go_at_call 41; refine (refValid x _).mono ?_; rw [Hok.out]; rintro e w3 ⟨rfl, rfl⟩)
                        go_roundw
                        case rel =>
                          have hxg : col.getD k 0 = x := by simp [Hx.out]
                          exact ⟨k + 1, by omega, by go_num, by rw [Hsk.out, Hgk.out, Hok.out]; rfl, by rw [fillTo_succ, hxg]; exact u64_store Ho2.out x, Hb2.out.setCell (by show w.heap.size ≤ w.heap.size; omega) _, Ha.out.set (by show ¬ (w.heap.size < w.heap.size); omega) _⟩
                        case measure => simp [intOf]; omega
                      | false =>
                        have Hok := Lib.hid hok
                        clear hok
                        go_wp2_with (go_at_call 41; refine (refValid x _).mono ?_; rw [Hok.out]; rintro e w3 ⟨rfl, rfl⟩)
                        go_ret2
                        have hbad : tabOk l = false := tabOk_false Hmem.out (by
                          have : badC col = true := List.any_eq_true.2 ⟨x, List.mem_of_getElem? Hx.out, by simp [Hok.out]⟩
                          simp [badCol, this])
                        rw [tableF_bad hbad]
                        exact TabRes.none rfl Hb2.out
                    · have hk1 : ¬ (k : Int) < (n : Int) := by omega
                      have hkn : k = n := by omega
                      go_wp2_with fail
                      go_roundw
                      case rel =>
                        have hbc : badCol n col = false := by
                          have h1 := Hgk.out
                          rw [List.take_of_length_le (by rw [Hcn.out]; omega)] at h1
                          simp [badCol, h1, Hcn.out]
                        exact ⟨j + 1, by omega, by go_num, by rw [Hsn.out, Hgood.out, hbc]; rfl, by rw [tabTo_succ, Hgd.out]; exact hkn ▸ Ho2.out, Hb2.out⟩
                      case measure => simp [intOf]; omega
                · have hcn' : ((col.length : Int) != (n : Int)) = true := by simp; omega
                  have Hcn := Lib.hid hcn
                  clear hcn
                  go_wp2_with fail
                  go_ret2
                  have hbad : tabOk l = false := tabOk_false Hmem.out (by rw [Hhd.out]; simp [badCol, Hcn.out])
                  rw [tableF_bad hbad]
                  exact TabRes.none rfl Hb.out
              · have hj1 : ¬ (j : Int) < (l.length : Int) := by omega
                have hjl : j = l.length := by omega
                subst hjl
                have hgood := Hgood.out
                rw [List.take_of_length_le (Nat.le_refl _)] at hgood
                have Hgd := Lib.hid hgood
                clear hgood
                go_wp2_with fail
                go_ret2
                have hl := tabTo_len W n l l.length
                have fin := Ho.out
                rw [Ht.out Hgd.out, Hwid.out]
                refine ⟨some ⟨w.heap.size, 0, none⟩, W * n, (show Ending.returned (.tuple #[.slice (some ⟨w.heap.size, 0, none⟩) (W * n) (W * n), .int .i64 0]) = _ by rw [hl]), ?_, Hb.out⟩
                exact fin.flatSl u64_flat (fun b hb => by omega)
  · have ht : tableF l = ([], 1) := tableF_bad (by unfold tabOk; simp; intro h1 h2; omega)
    rw [ht]
    clear ht h h8
    by_cases h0 : l.length < 1
    · have k1 : (l.length : Int) < 1 := by omega
      go_enter Try.func30, Try.ntmps30
      go_wp2_with fail
      go_ret2
      exact TabRes.none rfl (by repeat' (first | with_reducible exact Below.refl _ _ | with_reducible assumption | with_reducible refine Below.setCell ?_ ?_ _ | with_reducible refine Below.drew ?_ | with_reducible refine below_drewN ?_ _ | with_reducible refine Below.alloc ?_ ?_ _ | (rintro _ ⟨⟩; simp <;> omega) | omega | (simp <;> omega)))
    · have k1 : ¬ (l.length : Int) < 1 := by omega
      have k2 : (64 : Int) < (l.length : Int) := by omega
      go_enter Try.func30, Try.ntmps30
      go_wp2_with fail
      go_ret2
      exact TabRes.none rfl (by repeat' (first | with_reducible exact Below.refl _ _ | with_reducible assumption | with_reducible refine Below.setCell ?_ ?_ _ | with_reducible refine Below.drew ?_ | with_reducible refine below_drewN ?_ _ | with_reducible refine Below.alloc ?_ ?_ _ | (rintro _ ⟨⟩; simp <;> omega) | omega | (simp <;> omega)))
end Go.Proofs.Ytlolppjnpmdpgaa
