/-
  Contracts of the readings (XRd2): Valid, Decode, Reading, check.
-/
import Derived.Test.YtlolppjnpmdpgaaRd1
namespace Go.Proofs.Ytlolppjnpmdpgaa
open Go.RowKit

/-- The first k fields, in the order of the columns, are in range. -/
def PreV (r : Rd) (k : Nat) : Prop := (0 < k → 0 ≤ r.who ∧ r.who < 16) ∧ (1 < k → 0 ≤ r.whn ∧ r.whn < 256) ∧ (2 < k → 0 ≤ r.knd ∧ r.knd < 16) ∧ (3 < k → 0 ≤ r.val ∧ r.val < 256)

theorem rd_box {r : Rd} {w wr : World} {t : TypeId} (hb : Below (w.heap.size + 1) (w.alloc (.cells #[.int .i64 r.who, .int .i64 r.whn, .int .i64 r.knd, .int .i64 r.val] t)) wr) :
    wr.cell? ⟨w.heap.size, 0, none⟩ = some (.int .i64 r.who) ∧ wr.cell? ⟨w.heap.size, 1, none⟩ = some (.int .i64 r.whn) ∧ wr.cell? ⟨w.heap.size, 2, none⟩ = some (.int .i64 r.knd) ∧ wr.cell? ⟨w.heap.size, 3, none⟩ = some (.int .i64 r.val) := by
  have h := (hb.block w.heap.size (by omega)).trans (heap_alloc_at rfl)
  exact ⟨cell_of_row _ _ 0 _ _ _ h, cell_of_row _ _ 1 _ _ _ h, cell_of_row _ _ 2 _ _ _ h, cell_of_row _ _ 3 _ _ _ h⟩

set_option maxRecDepth 100000 in
set_option maxHeartbeats 1000000 in
theorem validP_any (r : Rd) (w : World) : Calls Try.prog 17 #[.agg #[.int .i64 r.who, .int .i64 r.whn, .int .i64 r.knd, .int .i64 r.val]] w fun e w' => e = .returned (.bool (validB r)) ∧ Below w.heap.size w w' := by
  have ix0 : ∀ w, (Instr.index 77 (.agg #[.func (.func 64) #[] #[], .int .i64 4, .func (.func 65) #[] #[], .int .i64 8, .func (.func 66) #[] #[], .int .i64 4, .func (.func 67) #[] #[], .int .i64 8]) (.int .i64 0)).run Try.prog w = .ok (.agg #[.func (.func 64) #[] #[], .int .i64 4]) w := fun _ => by kernel_rfl
  have ix1 : ∀ w, (Instr.index 77 (.agg #[.func (.func 64) #[] #[], .int .i64 4, .func (.func 65) #[] #[], .int .i64 8, .func (.func 66) #[] #[], .int .i64 4, .func (.func 67) #[] #[], .int .i64 8]) (.int .i64 1)).run Try.prog w = .ok (.agg #[.func (.func 65) #[] #[], .int .i64 8]) w := fun _ => by kernel_rfl
  have ix2 : ∀ w, (Instr.index 77 (.agg #[.func (.func 64) #[] #[], .int .i64 4, .func (.func 65) #[] #[], .int .i64 8, .func (.func 66) #[] #[], .int .i64 4, .func (.func 67) #[] #[], .int .i64 8]) (.int .i64 2)).run Try.prog w = .ok (.agg #[.func (.func 66) #[] #[], .int .i64 4]) w := fun _ => by kernel_rfl
  have ix3 : ∀ w, (Instr.index 77 (.agg #[.func (.func 64) #[] #[], .int .i64 4, .func (.func 65) #[] #[], .int .i64 8, .func (.func 66) #[] #[], .int .i64 4, .func (.func 67) #[] #[], .int .i64 8]) (.int .i64 3)).run Try.prog w = .ok (.agg #[.func (.func 67) #[] #[], .int .i64 8]) w := fun _ => by kernel_rfl
  go_enter Try.func17, Try.ntmps17
  go_wp2_with (go_at_call 45; refine (fieldsP _).mono ?_; rintro e w1 ⟨rfl, hb1⟩)
  have hz1 : w.heap.size + 1 ≤ w1.heap.size := by have := hb1.size; simpa using this
  have hB1 : Hid (Below (w.heap.size + 1) (w.alloc (.cells #[.int .i64 r.who, .int .i64 r.whn, .int .i64 r.knd, .int .i64 r.val] 24)) w1) := Lib.hid (by simpa using hb1)
  clear hb1
  go_loopw [7] (fun i wr => ∃ k : Nat, k ≤ 4 ∧ i = .int .i64 k ∧ PreV r k ∧ Below (w.heap.size + 1) (w.alloc (.cells #[.int .i64 r.who, .int .i64 r.whn, .int .i64 r.knd, .int .i64 r.val] 24)) wr) (fun i _ => 4 - (intOf i).toNat)
  case atStart => exact ⟨0, by omega, rfl, ⟨by omega, by omega, by omega, by omega⟩, hB1.out⟩
  case round =>
    obtain ⟨k, hk, rfl, hp, hb⟩ := hrel
    have hz := hb.size
    simp at hz
    obtain ⟨c0, c1, c2, c3⟩ := rd_box hb
    have hlt : w.heap.size < wr.heap.size := by omega
    have hne : w.heap.size ≠ wr.heap.size := by omega
    rcases (by omega : k = 0 ∨ k = 1 ∨ k = 2 ∨ k = 3 ∨ k = 4) with rfl | rfl | rfl | rfl | rfl
    · have hb' := Lib.hid hb
      have hp' := Lib.hid hp
      clear hb hp
      by_cases h1 : 0 ≤ r.who
      · by_cases h2 : r.who < 16
        · go_wp2_with (go_at_call 64; refine (field1 r _).mono ?_; rintro e w2 ⟨rfl, hb2⟩; obtain ⟨hc2, hf2⟩ := bcellk (k := wr.heap.size + 1) hb2 (by simp))
          go_roundw
          case rel =>
            have hp := hp'.out
            have hb := hb'.out
            refine ⟨1, by omega, rfl, ?_, ((hb.alloc (by omega) _).trans (hb2.mono (by simp; omega)))⟩
            unfold PreV at hp ⊢
            omega
          case measure => simp [intOf]
        · have h3 : 16 ≤ r.who := by omega
          go_wp2_with (go_at_call 64; refine (field1 r _).mono ?_; rintro e w2 ⟨rfl, hb2⟩; obtain ⟨hc2, hf2⟩ := bcellk (k := wr.heap.size + 1) hb2 (by simp))
          go_ret
          have hb := hb'.out
          exact ⟨ret_bool (valid_false (by unfold ValidR; omega)), (((Below.refl _ _).alloc (Nat.le_refl _) _).trans (hb.mono (by omega))).alloc (by omega) _ |>.trans (hb2.mono (by simp; omega))⟩
      · have h3 : r.who < 0 := by omega
        go_wp2_with (go_at_call 64; refine (field1 r _).mono ?_; rintro e w2 ⟨rfl, hb2⟩; obtain ⟨hc2, hf2⟩ := bcellk (k := wr.heap.size + 1) hb2 (by simp))
        go_ret
        have hb := hb'.out
        exact ⟨ret_bool (valid_false (by unfold ValidR; omega)), (((Below.refl _ _).alloc (Nat.le_refl _) _).trans (hb.mono (by omega))).alloc (by omega) _ |>.trans (hb2.mono (by simp; omega))⟩
    · have hb' := Lib.hid hb
      have hp' := Lib.hid hp
      clear hb hp
      by_cases h1 : 0 ≤ r.whn
      · by_cases h2 : r.whn < 256
        · go_wp2_with (go_at_call 65; refine (field2 r _).mono ?_; rintro e w2 ⟨rfl, hb2⟩; obtain ⟨hc2, hf2⟩ := bcellk (k := wr.heap.size + 1) hb2 (by simp))
          go_roundw
          case rel =>
            have hp := hp'.out
            have hb := hb'.out
            refine ⟨2, by omega, rfl, ?_, ((hb.alloc (by omega) _).trans (hb2.mono (by simp; omega)))⟩
            unfold PreV at hp ⊢
            omega
          case measure => simp [intOf]
        · have h3 : 256 ≤ r.whn := by omega
          go_wp2_with (go_at_call 65; refine (field2 r _).mono ?_; rintro e w2 ⟨rfl, hb2⟩; obtain ⟨hc2, hf2⟩ := bcellk (k := wr.heap.size + 1) hb2 (by simp))
          go_ret
          have hb := hb'.out
          exact ⟨ret_bool (valid_false (by unfold ValidR; omega)), (((Below.refl _ _).alloc (Nat.le_refl _) _).trans (hb.mono (by omega))).alloc (by omega) _ |>.trans (hb2.mono (by simp; omega))⟩
      · have h3 : r.whn < 0 := by omega
        go_wp2_with (go_at_call 65; refine (field2 r _).mono ?_; rintro e w2 ⟨rfl, hb2⟩; obtain ⟨hc2, hf2⟩ := bcellk (k := wr.heap.size + 1) hb2 (by simp))
        go_ret
        have hb := hb'.out
        exact ⟨ret_bool (valid_false (by unfold ValidR; omega)), (((Below.refl _ _).alloc (Nat.le_refl _) _).trans (hb.mono (by omega))).alloc (by omega) _ |>.trans (hb2.mono (by simp; omega))⟩
    · have hb' := Lib.hid hb
      have hp' := Lib.hid hp
      clear hb hp
      by_cases h1 : 0 ≤ r.knd
      · by_cases h2 : r.knd < 16
        · go_wp2_with (go_at_call 66; refine (field3 r _).mono ?_; rintro e w2 ⟨rfl, hb2⟩; obtain ⟨hc2, hf2⟩ := bcellk (k := wr.heap.size + 1) hb2 (by simp))
          go_roundw
          case rel =>
            have hp := hp'.out
            have hb := hb'.out
            refine ⟨3, by omega, rfl, ?_, ((hb.alloc (by omega) _).trans (hb2.mono (by simp; omega)))⟩
            unfold PreV at hp ⊢
            omega
          case measure => simp [intOf]
        · have h3 : 16 ≤ r.knd := by omega
          go_wp2_with (go_at_call 66; refine (field3 r _).mono ?_; rintro e w2 ⟨rfl, hb2⟩; obtain ⟨hc2, hf2⟩ := bcellk (k := wr.heap.size + 1) hb2 (by simp))
          go_ret
          have hb := hb'.out
          exact ⟨ret_bool (valid_false (by unfold ValidR; omega)), (((Below.refl _ _).alloc (Nat.le_refl _) _).trans (hb.mono (by omega))).alloc (by omega) _ |>.trans (hb2.mono (by simp; omega))⟩
      · have h3 : r.knd < 0 := by omega
        go_wp2_with (go_at_call 66; refine (field3 r _).mono ?_; rintro e w2 ⟨rfl, hb2⟩; obtain ⟨hc2, hf2⟩ := bcellk (k := wr.heap.size + 1) hb2 (by simp))
        go_ret
        have hb := hb'.out
        exact ⟨ret_bool (valid_false (by unfold ValidR; omega)), (((Below.refl _ _).alloc (Nat.le_refl _) _).trans (hb.mono (by omega))).alloc (by omega) _ |>.trans (hb2.mono (by simp; omega))⟩
    · have hb' := Lib.hid hb
      have hp' := Lib.hid hp
      clear hb hp
      by_cases h1 : 0 ≤ r.val
      · by_cases h2 : r.val < 256
        · go_wp2_with (go_at_call 67; refine (field4 r _).mono ?_; rintro e w2 ⟨rfl, hb2⟩; obtain ⟨hc2, hf2⟩ := bcellk (k := wr.heap.size + 1) hb2 (by simp))
          go_roundw
          case rel =>
            have hp := hp'.out
            have hb := hb'.out
            refine ⟨4, by omega, rfl, ?_, ((hb.alloc (by omega) _).trans (hb2.mono (by simp; omega)))⟩
            unfold PreV at hp ⊢
            omega
          case measure => simp [intOf]
        · have h3 : 256 ≤ r.val := by omega
          go_wp2_with (go_at_call 67; refine (field4 r _).mono ?_; rintro e w2 ⟨rfl, hb2⟩; obtain ⟨hc2, hf2⟩ := bcellk (k := wr.heap.size + 1) hb2 (by simp))
          go_ret
          have hb := hb'.out
          exact ⟨ret_bool (valid_false (by unfold ValidR; omega)), (((Below.refl _ _).alloc (Nat.le_refl _) _).trans (hb.mono (by omega))).alloc (by omega) _ |>.trans (hb2.mono (by simp; omega))⟩
      · have h3 : r.val < 0 := by omega
        go_wp2_with (go_at_call 67; refine (field4 r _).mono ?_; rintro e w2 ⟨rfl, hb2⟩; obtain ⟨hc2, hf2⟩ := bcellk (k := wr.heap.size + 1) hb2 (by simp))
        go_ret
        have hb := hb'.out
        exact ⟨ret_bool (valid_false (by unfold ValidR; omega)), (((Below.refl _ _).alloc (Nat.le_refl _) _).trans (hb.mono (by omega))).alloc (by omega) _ |>.trans (hb2.mono (by simp; omega))⟩
    · have hb' := Lib.hid hb
      have hp' := Lib.hid hp
      clear hb hp
      go_wp2_with fail
      go_ret
      have hb := hb'.out
      have hp := hp'.out
      exact ⟨ret_bool (valid_true (by unfold PreV at hp; unfold ValidR; omega)), ((Below.refl _ _).alloc (Nat.le_refl _) _).trans (hb.mono (by omega))⟩
end Go.Proofs.Ytlolppjnpmdpgaa
