/-
  Contracts of the type checker's reference (XQ16): times, power, buckets.
-/
import Derived.Test.YtihcaoipemcddaaDoorQ15
import Derived.Test.YtihcaoipemcddaaDoorQ11
namespace Go.Proofs.YtihcaoipemcddaaDoor
open Go.RowKit

theorem times_no {a b : Nat} (ha : a ≠ 0) : 4611686018427387903 / a < b ↔ ¬ a * b < 4611686018427387904 := by
  rw [Nat.div_lt_iff_lt_mul (by omega), Nat.mul_comm]
  omega
theorem timesRef {a b z : Nat} (w : World) (hz : a * b = z) (ha : a < 4611686018427387904) (hb : b ≤ 255) :
    Calls Tryd.prog 52 #[.int .i64 a, .int .i64 b] w fun e w' => e = .returned (.tuple #[.int .i64 ((if under62 z then z else 0 : Nat) : Int), .bool (under62 z)]) ∧ w = w' := by
  rcases Nat.eq_zero_or_pos a with rfl | hpos
  · obtain rfl : z = 0 := by omega
    rw [show under62 0 = true from rfl, if_pos rfl]
    go_enter Tryd.func52, Tryd.ntmps52
    go_wp2_with fail
    go_ret2
    exact ⟨by simp, rfl⟩
  · have hne : ((a : Int) != 0) = true := by simp; omega
    have hne' : ¬ (a : Int) = 0 := by omega
    have hdiv : (4611686018427387903 : Int).tdiv (a : Int) = ((4611686018427387903 / a : Nat) : Int) := rfl
    have hno := times_no (a := a) (b := b) (by omega)
    rw [hz] at hno
    obtain ⟨d, hd⟩ : ∃ d, 4611686018427387903 / a = d := ⟨_, rfl⟩
    have hdb : d ≤ 4611686018427387903 := by rw [← hd]; exact Nat.div_le_self _ _
    have hwr : wrap64 (d : Int) = (d : Int) := IntWalk.wrap64_in _ (by omega)
    clear hdb
    rw [hd] at hno hdiv
    have HZ := Lib.hid hz
    clear hz hd
    by_cases hu : z < 4611686018427387904
    · have hlt : ¬ (d : Int) < (b : Int) := by omega
      rw [show under62 z = true from decide_eq_true hu, if_pos rfl]
      have hzz : ((a : Int) * (b : Int)) = (z : Int) := by rw [← HZ.out, Int.natCast_mul]
      clear hno
      go_enter Tryd.func52, Tryd.ntmps52
      go_wp2_with fail
      go_ret2
      exact ⟨rfl, rfl⟩
    · have hlt : (d : Int) < (b : Int) := by omega
      rw [show under62 z = false from decide_eq_false hu, if_neg (by simp)]
      clear hno
      go_enter Tryd.func52, Tryd.ntmps52
      go_wp2_with fail
      go_ret2
      exact ⟨rfl, rfl⟩
theorem timesI {a b : Int} {x y z : Nat} (w : World) (hx : a = x) (hy : b = y) (hz : x * y = z) (ha : x < 4611686018427387904) (hb : y ≤ 255) :
    Calls Tryd.prog 52 #[.int .i64 a, .int .i64 b] w fun e w' => e = .returned (.tuple #[.int .i64 ((if under62 z then z else 0 : Nat) : Int), .bool (under62 z)]) ∧ w = w' := by
  subst hx; subst hy
  exact timesRef w hz ha hb
/-- What power keeps: the product, while it is below the limit. -/
def PowOk (n m j : Nat) (z : Nat) (o : Bool) : Prop := okTo n m j = o ∧ z < 4611686018427387904 ∧ (o = true → z = n * m ^ j)
set_option maxHeartbeats 2000000 in
theorem powerRef {n m k P : Nat} (w : World) (hn : n ≤ 65536) (hm : m ≤ 255) (hk : k ≤ 6) (hP : n * m ^ k = P) :
    Calls Tryd.prog 34 #[.int .i64 n, .int .i64 m, .int .i64 k] w fun e w' => (∃ z : Nat, e = .returned (.tuple #[.int .i64 z, .bool (under62 P)]) ∧ (under62 P = true → z = P)) ∧ w = w' := by
  have HO := Lib.hid (okTo_eq (m := m) hn k)
  have HP := Lib.hid hP
  clear hP
  go_enter Tryd.func34, Tryd.ntmps34
  go_wp2_with fail
  go_loop [8, 9, 10] (fun v b i => ∃ (j z : Nat) (o : Bool), j ≤ k ∧ i = .int .i64 j ∧ v = .int .i64 z ∧ b = .bool o ∧ PowOk n m j z o) (fun _ _ i => k - (intOf i).toNat)
  case atStart => exact ⟨0, n, true, Nat.zero_le _, rfl, rfl, rfl, decide_eq_true (by omega), by omega, fun _ => by simp⟩
  case round =>
    obtain ⟨j, z, o, hj, rfl, rfl, rfl, hok⟩ := hrel
    have Hok := Lib.hid hok
    clear hok
    have hj0 : (0 : Int) ≤ (j : Int) := by omega
    by_cases hlt : j < k
    · have hj1 : (j : Int) < (k : Int) := by omega
      obtain ⟨y, hy⟩ : ∃ y, z * m = y := ⟨_, rfl⟩
      obtain ⟨x, hx⟩ : ∃ x : Nat, (if under62 y then y else 0) = x := ⟨_, rfl⟩
      have HY := Lib.hid hy
      have HX := Lib.hid hx
      clear hy hx
      cases o with
      | true =>
        go_wp2_with (go_at_call 52; refine (timesI (z := y) _ rfl rfl HY.out Hok.out.2.1 hm).mono ?_; rw [HX.out]; rintro e w3 ⟨rfl, rfl⟩)
        go_round
        case rel =>
          obtain ⟨h1, h2, h3⟩ := Hok.out
          have hz := h3 rfl
          have hyy : y = n * m ^ (j + 1) := by rw [← HY.out, hz, Nat.pow_succ, Nat.mul_assoc]
          refine ⟨j + 1, x, under62 y, by omega, by go_num, rfl, rfl, ?_, ?_, ?_⟩
          · rw [okTo, h1, hyy]; rfl
          · rw [← HX.out]; split
            · rename_i h; exact of_decide_eq_true h
            · omega
          · intro h; rw [← HX.out, if_pos h, hyy]
        case measure => simp [intOf]; omega
      | false =>
        go_wp2_with (go_at_call 52; refine (timesI (z := y) _ rfl rfl HY.out Hok.out.2.1 hm).mono ?_; rw [HX.out]; rintro e w3 ⟨rfl, rfl⟩)
        go_round
        case rel =>
          obtain ⟨h1, h2, h3⟩ := Hok.out
          refine ⟨j + 1, x, false, by omega, by go_num, rfl, rfl, ?_, ?_, ?_⟩
          · rw [okTo, h1]; rfl
          · rw [← HX.out]; split
            · rename_i h; exact of_decide_eq_true h
            · omega
          · intro h; cases h
        case measure => simp [intOf]; omega
    · have hj1 : ¬ (j : Int) < (k : Int) := by omega
      obtain rfl : j = k := by omega
      obtain ⟨h1, h2, h3⟩ := Hok.out
      obtain rfl : o = under62 P := by rw [← h1, HO.out, HP.out]
      have H3 := Lib.hid h3
      clear h1 h2 h3
      go_wp2_with fail
      go_ret2
      exact ⟨⟨z, rfl, fun h => by rw [H3.out h, HP.out]⟩, rfl⟩
/-- Numbers in a slice that the call made. -/
def NumRes (w : World) (xs : List Int) (e : Ending) (w' : World) : Prop := ∃ B d, e = .returned (.slice B xs.length d) ∧ Own Enc.i64 (fun _ => False) w' w.heap.size 2 (.slice B xs.length d) xs ∧ Below w.heap.size w w'
theorem bucketsF_at (l : List Cd) (col rows : Int) {j : Nat} (h : j < 16) : (bucketsF l col rows)[j]? = some (bucketF l col rows j) := by unfold bucketsF; rw [List.getElem?_map, List.getElem?_range h]; rfl
set_option maxRecDepth 100000 in
set_option maxHeartbeats 4000000 in
theorem bucketsRef {l : List Cd} {A : Option Addr} {c : Nat} {S : Nat → Prop} {col : Int} (rows : Int) (w : World) (h : Sl cdE S w A c l) (hv : ∀ x ∈ l, ValidCd x) (h0 : 0 ≤ col) (h3 : col ≤ 3) :
    Calls Tryd.prog 33 #[.slice A l.length c, .int .i64 col, .int .i64 rows] w (NumRes w (bucketsF l col rows)) := by
  have H := Lib.hid h
  have HV := Lib.hid hv
  clear h hv
  go_enter Tryd.func33, Tryd.ntmps33
  go_wp2_with fail
  go_loopw [7, 8] (fun v i wr => ∃ (j : Nat) (B : Option Addr) (d : Nat) (ys : List Int), j ≤ 16 ∧ i = .int .i64 j ∧ ys = (bucketsF l col rows).take j ∧ v = .slice B ys.length d ∧ Own Enc.i64 (fun _ => False) wr w.heap.size 2 (.slice B ys.length d) ys ∧ Below w.heap.size w wr) (fun _ i _ => 16 - (intOf i).toNat)
  case atStart => exact ⟨0, some ⟨w.heap.size, 0, none⟩, 0, [], Nat.zero_le _, rfl, rfl, rfl, Own.litAt _ _ _ _ rfl (Nat.le_refl _), (Below.refl _ _).alloc (Nat.le_refl _) _⟩
  case round =>
    obtain ⟨j, B, d, ys, hj, rfl, hys, rfl, ho, hb⟩ := hrel
    have Hys := Lib.hid hys
    have HO := Lib.hid ho
    have HB := Lib.hid hb
    have hzr := hb.size
    have lo := ho.lt
    have hl16 : ys.length ≤ 16 := by rw [hys, List.length_take]; omega
    have H2 := Lib.hid (H.out.keep (Below.agree hb))
    have hj0 : (0 : Int) ≤ (j : Int) := by omega
    clear hys ho hb
    by_cases hlt : j < 16
    · have hj1 : (j : Int) < 16 := by omega
      have hS := Lib.hid (take_snocR (bucketsF_at l col rows hlt))
      cases hsat : satB l with
      | false =>
        have HVV := Lib.hid (show bucketF l col rows j = 0 by unfold bucketF; rw [hsat, Bool.and_false]; rfl)
        go_wp2_with (first | (go_at_call 25; refine (satRef _ H2.out HV.out).mono ?_; rw [hsat]; rintro e w4 ⟨rfl, rfl⟩) | (at_builtin; go_must ((refine wpList_append_E (S := fun b => b = wr.heap.size) rfl (.tmp 24) (.tmp 26) rfl i64sT (base := w.heap.size) (v := .slice B ys.length d) (xs := ys) (ys := [0]) (by rfl) (by rfl) rfl (nz := ys.length + 1) (by simp) ((HO.out.flat i64_flat).alloc _) (Sl.litAt (S := fun b => b = wr.heap.size) rfl (.single rfl) (by unfold maxLen; simp) (fun _ h _ => h) rfl) (by unfold maxLen; simp; omega) (by simp; omega) (by simp; omega) (fun g hg (hs : g = wr.heap.size) => absurd (lo g hg).2 (by omega)) ?_; intro A6 c6 w6 hown6 hg6 hor6))))
        go_roundw
        case rel => exact ⟨j + 1, A6, c6, ys ++ [0], by omega, by go_num, by rw [hS.out, Hys.out, HVV.out], by simp, by rw [List.length_append]; exact hown6.flat i64_flat, (HB.out.alloc hzr _).grown hg6 (by simp; omega) (fun k hk => (lo k hk).1)⟩
        case measure => simp [intOf]; omega
      | true =>
        cases hpos : possB l col j with
        | false =>
          have HVV := Lib.hid (show bucketF l col rows j = 0 by unfold bucketF; rw [← possB_in h0 h3, hpos]; rfl)
          go_wp2_with (first | (go_at_call 25; refine (satRef _ H2.out HV.out).mono ?_; rw [hsat]; rintro e w4 ⟨rfl, rfl⟩) | (go_at_call 38; refine (possRef _ _ _ H2.out).mono ?_; rw [hpos]; rintro e w5 ⟨rfl, rfl⟩) | (at_builtin; go_must ((refine wpList_append_E (S := fun b => b = wr.heap.size) rfl (.tmp 24) (.tmp 26) rfl i64sT (base := w.heap.size) (v := .slice B ys.length d) (xs := ys) (ys := [0]) (by rfl) (by rfl) rfl (nz := ys.length + 1) (by simp) ((HO.out.flat i64_flat).alloc _) (Sl.litAt (S := fun b => b = wr.heap.size) rfl (.single rfl) (by unfold maxLen; simp) (fun _ h _ => h) rfl) (by unfold maxLen; simp; omega) (by simp; omega) (by simp; omega) (fun g hg (hs : g = wr.heap.size) => absurd (lo g hg).2 (by omega)) ?_; intro A6 c6 w6 hown6 hg6 hor6))))
          go_roundw
          case rel => exact ⟨j + 1, A6, c6, ys ++ [0], by omega, by go_num, by rw [hS.out, Hys.out, HVV.out], by simp, by rw [List.length_append]; exact hown6.flat i64_flat, (HB.out.alloc hzr _).grown hg6 (by simp; omega) (fun k hk => (lo k hk).1)⟩
          case measure => simp [intOf]; omega
        | true =>
          have HVV := Lib.hid (show bucketF l col rows j = rows by unfold bucketF; rw [← possB_in h0 h3, hpos, hsat]; rfl)
          go_wp2_with (first | (go_at_call 25; refine (satRef _ H2.out HV.out).mono ?_; rw [hsat]; rintro e w4 ⟨rfl, rfl⟩) | (go_at_call 38; refine (possRef _ _ _ H2.out).mono ?_; rw [hpos]; rintro e w5 ⟨rfl, rfl⟩) | (at_builtin; go_must ((refine wpList_append_E (S := fun b => b = wr.heap.size) rfl (.tmp 24) (.tmp 26) rfl i64sT (base := w.heap.size) (v := .slice B ys.length d) (xs := ys) (ys := [rows]) (by rfl) (by rfl) rfl (nz := ys.length + 1) (by simp) ((HO.out.flat i64_flat).alloc _) (Sl.litAt (S := fun b => b = wr.heap.size) rfl (.single rfl) (by unfold maxLen; simp) (fun _ h _ => h) rfl) (by unfold maxLen; simp; omega) (by simp; omega) (by simp; omega) (fun g hg (hs : g = wr.heap.size) => absurd (lo g hg).2 (by omega)) ?_; intro A6 c6 w6 hown6 hg6 hor6))))
          go_roundw
          case rel => exact ⟨j + 1, A6, c6, ys ++ [rows], by omega, by go_num, by rw [hS.out, Hys.out, HVV.out], by simp, by rw [List.length_append]; exact hown6.flat i64_flat, (HB.out.alloc hzr _).grown hg6 (by simp; omega) (fun k hk => (lo k hk).1)⟩
          case measure => simp [intOf]; omega
    · have hj1 : ¬ (j : Int) < 16 := by omega
      obtain rfl : j = 16 := by omega
      have e16 : ys = bucketsF l col rows := by rw [Hys.out, List.take_of_length_le (by simp [bucketsF])]
      go_wp2_with fail
      go_ret
      exact ⟨B, d, by first | rfl | rw [e16], by rw [← e16]; exact HO.out, HB.out⟩
end Go.Proofs.YtihcaoipemcddaaDoor
