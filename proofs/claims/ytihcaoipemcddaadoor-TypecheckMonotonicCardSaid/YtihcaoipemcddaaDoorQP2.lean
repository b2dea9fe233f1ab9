/-
  The bounds of a query's sums, in plain words: rows times what one reading adds at most. No program.
-/
import Derived.Test.YtihcaoipemcddaaDoorQP
namespace Go.Proofs.YtihcaoipemcddaaDoor
open Go.RowKit

def capF (q : Qy) (v : Nat) : Int :=
  if q.kind ≤ 3 then (if satB (filtF q v) then (underF (filtF q v) q.col).2 ^ expF q else 0) else if inB_ (underF (filtF q v) (colQ q)) ((v % 16 : Nat) : Int) && satB (filtF q v) then 1 else 0
theorem sums_1 {k : Int} (h1 : 1 ≤ k) (h : k ≤ 3) : sumsC k = 1 := by unfold sumsC; rw [if_pos ⟨h1, h⟩]
theorem sums_16 {k : Int} (h : ¬ k ≤ 3) (h6 : k ≤ 6) : sumsC k = 16 := by unfold sumsC; rw [if_neg (show ¬ (1 ≤ k ∧ k ≤ 3) by omega), if_pos (show 4 ≤ k ∧ k ≤ 6 by omega)]
theorem sums_32 {k : Int} (h : k = 7) : sumsC k = 32 := by subst h; rfl
theorem bound_len {q : Qy} {n : Int} (h1 : 1 ≤ q.kind) (h7 : q.kind ≤ 7) : ((boundF q n).1.length : Int) = sumsC q.kind := by
  unfold boundF
  by_cases h : q.kind ≤ 3
  · rw [if_pos h, sums_1 h1 h]; split <;> rfl
  · rw [if_neg h]
    by_cases h6 : q.kind ≤ 6
    · rw [if_pos h6, sums_16 h h6]; simp [bucketsF]
    · rw [if_neg h6, sums_32 (by omega)]; simp [bucketsF]
theorem bucketsF_get (l : List Cd) (col rows : Int) {j : Nat} (h : j < 16) : (bucketsF l col rows)[j]? = some (bucketF l col rows j) := by unfold bucketsF; rw [List.getElem?_map, List.getElem?_range h]; rfl
theorem bucket_cap (l : List Cd) (col rows : Int) (j : Nat) : bucketF l col rows j = rows * (if inB_ (underF l col) j && satB l then 1 else 0) := by
  unfold bucketF; split <;> simp
theorem bound_at {q : Qy} {n : Int} (h1 : 1 ≤ q.kind) (h7 : q.kind ≤ 7) {v : Nat} (hv : (v : Int) < sumsC q.kind) : (boundF q n).1[v]? = some (n * capF q v) := by
  by_cases h : q.kind ≤ 3
  · rw [sums_1 h1 h] at hv
    obtain rfl : v = 0 := by omega
    have hf : filtF q 0 = fl q 0 := by unfold filtF; rw [if_neg (by omega)]
    unfold boundF capF
    rw [if_pos h, if_pos h, hf]
    cases satB (fl q 0) with
    | true => rfl
    | false => simp
  · by_cases h6 : q.kind ≤ 6
    · rw [sums_16 h h6] at hv
      have hf : filtF q v = fl q 0 := by unfold filtF; rw [if_neg (by omega)]
      have hc : colQ q = q.col := by unfold colQ; rw [if_neg (by omega)]
      have hm : v % 16 = v := by omega
      unfold boundF capF
      rw [if_neg h, if_pos h6, if_neg h, hf, hc, hm]
      dsimp only
      rw [bucketsF_get _ _ _ (by omega), bucket_cap]
    · rw [sums_32 (by omega)] at hv
      have hc : colQ q = 0 := by unfold colQ; rw [if_pos (by omega)]
      have hf : filtF q v = fl q (v / 16) := by unfold filtF; rw [if_pos (by omega)]
      unfold boundF capF
      rw [if_neg h, if_neg h6, if_neg h, hf, hc]
      dsimp only
      have hl : (bucketsF (fl q 0) 0 n).length = 16 := by simp [bucketsF]
      by_cases h16 : v < 16
      · rw [List.getElem?_append_left (by omega), bucketsF_get _ _ _ h16, bucket_cap, show v / 16 = 0 from by omega, show v % 16 = v from by omega]
      · rw [List.getElem?_append_right (by omega), hl, bucketsF_get _ _ _ (by omega), bucket_cap, show v / 16 = 1 from by omega, show v % 16 = v - 16 from by omega]
theorem check_val {q : Qy} {n : Int} (hq : ValidQ q) (hw : wideB q = false) (h0 : 0 ≤ n) (h1 : n ≤ 65536) : checkTF q n = if (boundF q n).2 then ((boundF q n).1, 0) else ([], 141) := by
  unfold checkTF
  rw [if_pos ⟨(validQB_iff q).2 hq, h0, h1⟩, hw]
  rfl
theorem filt_valid {q : Qy} (hq : ValidQ q) {v : Nat} (hv : v < 32) : ∀ c ∈ filtF q v, ValidCd c := by
  have hfl := hq.head.2.2.2.2.2.2
  have h : filtF q v ∈ q.fs := by
    unfold filtF fl
    split
    · rename_i h7
      have : q.fs.length = 2 := by rw [hfl]; unfold nFilF; rw [if_pos h7]
      rw [List.getD_eq_getElem?_getD, List.getElem?_eq_getElem (by omega)]
      exact List.getElem_mem _
    · have : 0 < q.fs.length := by rw [hfl]; unfold nFilF; split <;> omega
      rw [List.getD_eq_getElem?_getD, List.getElem?_eq_getElem (by omega)]
      exact List.getElem_mem _
  exact (hq.flt _ h).2
theorem cap_nn {q : Qy} (hq : ValidQ q) {v : Nat} (hv : v < 32) : 0 ≤ capF q v ∧ capF q v ≤ 274941996890625 := by
  have hu := under_bd (filt_valid hq hv) q.col
  have hk : expF q ≤ 6 := by
    unfold expF
    split
    · omega
    · split
      · rename_i h3
        have := hq.head.2.2.2.2.1
        rw [h3] at this
        have h2 : maxKF 3 = 6 := rfl
        have := hq.head.2.2.2.1
        omega
      · omega
  have hp := pow_le_6 hu.2.2.2 hu.2.2.1 hk
  unfold capF
  split
  · split
    · exact hp
    · omega
  · split <;> omega
/-- One reading adds at most this. -/
theorem term_le {q : Qy} (hq : ValidQ q) {r : Rd} (hr : ValidR r) {v : Nat} (hv : v < 32) : termF q v r ≤ capF q v := by
  have hn := (cap_nn hq hv).1
  unfold termF
  cases hm : matchB (filtF q v) r with
  | false => simpa using hn
  | true =>
    have hs := match_sat hm hr
    obtain ⟨⟨hk1, hk7⟩, ⟨hc0, hc3⟩, -⟩ := hq.head
    rw [if_pos rfl]
    unfold unitF capF
    by_cases h3 : q.kind ≤ 3
    · rw [if_pos h3, if_pos hs]
      have hin := match_in hm hr hc0 hc3
      have hf0 := (fldI_bd hr q.col).1
      unfold expF
      rcases (by omega : q.kind = 1 ∨ q.kind = 2 ∨ q.kind = 3) with e | e | e
      · rw [if_pos e, if_neg (by omega), if_neg (by omega)]; simp
      · rw [if_neg (by omega), if_pos e, if_pos e]; simpa [Int.pow_succ] using hin.2
      · rw [if_neg (by omega), if_neg (by omega), if_pos e, if_neg (by omega), if_pos e]
        exact (pow_mono hf0 hin.2 _).2
    · rw [if_neg (by omega), if_neg (by omega), if_neg (by omega), if_neg h3, hs]
      have hcq : 0 ≤ colQ q ∧ colQ q ≤ 3 := by unfold colQ; split <;> omega
      have hin := match_in hm hr hcq.1 hcq.2
      split
      · rename_i e
        rw [e] at hin
        rw [if_pos (by unfold inB_; simp; exact hin)]
        exact Int.le_refl _
      · split <;> omega
theorem total_le {q : Qy} (hq : ValidQ q) {v : Nat} (hv : v < 32) : ∀ {l : List Rd}, (∀ r ∈ l, ValidR r) → totalF q l v ≤ l.length * capF q v
  | [], _ => by simp [totalF]
  | r :: l, h => by
    have h1 := term_le hq (h r (by simp)) hv
    have h2 := total_le hq hv (l := l) fun x hx => h x (by simp [hx])
    have h3 : totalF q (r :: l) v = termF q v r + totalF q l v := by simp [totalF]
    rw [h3, List.length_cons, Int.natCast_add, Int.natCast_one, Int.add_mul, Int.one_mul]
    omega
theorem k6_of {q : Qy} (hq : ValidQ q) : q.k ≤ 6 ∨ q.kind ≠ 3 := by
  by_cases h3 : q.kind = 3
  · left; have := hq.head.2.2.2.2.1; rw [h3] at this; exact this
  · exact .inr h3
theorem sums_le {k : Int} (h1 : 1 ≤ k) (h7 : k ≤ 7) : 0 ≤ sumsC k ∧ sumsC k ≤ 32 ∧ (k ≠ 7 → sumsC k ≤ 16) := by
  unfold sumsC
  rcases (by omega : k = 1 ∨ k = 2 ∨ k = 3 ∨ k = 4 ∨ k = 5 ∨ k = 6 ∨ k = 7) with e | e | e | e | e | e | e <;> subst e <;> decide
/-- What is accepted lies below the limit. -/
theorem bound_lt {q : Qy} (hq : ValidQ q) {n : Int} (h0 : 0 ≤ n) (h1 : n ≤ 65536) (hok : (boundF q n).2 = true) {v : Nat} (hv : (v : Int) < sumsC q.kind) : 0 ≤ n * capF q v ∧ n * capF q v < 4611686018427387904 := by
  obtain ⟨⟨hk1, hk7⟩, -⟩ := hq.head
  have hs := sums_le hk1 hk7
  have hn := cap_nn hq (v := v) (by omega)
  refine ⟨Int.mul_nonneg h0 hn.1, ?_⟩
  by_cases h3 : q.kind ≤ 3
  · have hv0 : v = 0 := by rw [sums_1 hk1 h3] at hv; omega
    subst hv0
    have hf : filtF q 0 = fl q 0 := by unfold filtF; rw [if_neg (by omega)]
    unfold boundF at hok
    rw [if_pos h3] at hok
    unfold capF
    rw [if_pos h3, hf]
    cases hsat : satB (fl q 0) with
    | true =>
      rw [hsat] at hok
      simp only [if_true] at hok ⊢
      exact of_decide_eq_true hok
    | false => simp
  · unfold capF
    rw [if_neg h3]
    split <;> omega
end Go.Proofs.YtihcaoipemcddaaDoor
