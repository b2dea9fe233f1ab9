/-
  Sums of a query over readings, in plain words; what they are bounded by. No program.
-/
import Derived.Test.YtihcaoipemcddaaDoorQF
namespace Go.Proofs.YtihcaoipemcddaaDoor
open Go.RowKit

def fldI (r : Rd) (col : Int) : Int := if col = 0 then r.who else if col = 1 then r.whn else if col = 2 then r.knd else r.val
def matchT (r : Rd) (c : Cd) : Bool := decide (c.lo ≤ fldI r c.col ∧ fldI r c.col ≤ c.hi)
def matchB (l : List Cd) (r : Rd) : Bool := l.all (matchT r)
def filtF (q : Qy) (v : Nat) : List Cd := if q.kind = 7 then fl q (v / 16) else fl q 0
def colQ (q : Qy) : Int := if q.kind = 7 then 0 else q.col
/-- What a matching reading adds to sum v. -/
def unitF (q : Qy) (v : Nat) (r : Rd) : Int :=
  if q.kind = 1 then 1 else if q.kind = 2 then fldI r q.col else if q.kind = 3 then fldI r q.col ^ q.k.toNat else if fldI r (colQ q) = ((v % 16 : Nat) : Int) then 1 else 0
def termF (q : Qy) (v : Nat) (r : Rd) : Int := if matchB (filtF q v) r then unitF q v r else 0
def totalF (q : Qy) (l : List Rd) (v : Nat) : Int := (l.map (termF q v)).sum
theorem totalF_snoc (q : Qy) (l : List Rd) (r : Rd) (v : Nat) : totalF q (l ++ [r]) v = totalF q l v + termF q v r := by simp [totalF]
theorem fldI_bd {r : Rd} (h : ValidR r) (c : Int) : 0 ≤ fldI r c ∧ fldI r c ≤ maxC c := by
  obtain ⟨⟨a, b⟩, ⟨e, f⟩, ⟨c', d⟩, ⟨g, i⟩⟩ := h
  unfold fldI maxC
  split
  · rename_i h; rw [if_pos (.inl h)]; exact ⟨a, by omega⟩
  · split
    · rename_i h1 h; rw [if_neg (by omega)]; exact ⟨c', by omega⟩
    · split
      · rename_i h2 h1 h; rw [if_pos (.inr h)]; exact ⟨e, by omega⟩
      · rw [if_neg (by omega)]; exact ⟨g, by omega⟩
theorem fldI_255 {r : Rd} (h : ValidR r) (c : Int) : 0 ≤ fldI r c ∧ fldI r c ≤ 255 := by
  have := fldI_bd h c; have := maxC_pos c; omega
theorem pow_le_255 {x : Int} (h0 : 0 ≤ x) (h1 : x ≤ 255) : ∀ k : Nat, 0 ≤ x ^ k ∧ x ^ k ≤ 255 ^ k
  | 0 => by simp
  | k + 1 => by
    obtain ⟨a, b⟩ := pow_le_255 h0 h1 k
    rw [Int.pow_succ, Int.pow_succ]
    exact ⟨Int.mul_nonneg a h0, Int.le_trans (Int.mul_le_mul_of_nonneg_left h1 a) (Int.mul_le_mul_of_nonneg_right b (by omega))⟩
theorem pow_le_6 {x : Int} (h0 : 0 ≤ x) (h1 : x ≤ 255) {k : Nat} (hk : k ≤ 6) : 0 ≤ x ^ k ∧ x ^ k ≤ 274941996890625 := by
  obtain ⟨a, b⟩ := pow_le_255 h0 h1 k
  refine ⟨a, Int.le_trans b ?_⟩
  match k, hk with
  | 0, _ => decide
  | 1, _ => decide
  | 2, _ => decide
  | 3, _ => decide
  | 4, _ => decide
  | 5, _ => decide
  | 6, _ => decide
theorem termF_bd {q : Qy} {r : Rd} (h : ValidR r) (v : Nat) (hk : q.k ≤ 6 ∨ q.kind ≠ 3) : 0 ≤ termF q v r ∧ termF q v r ≤ 274941996890625 := by
  have hf := fldI_255 h q.col
  unfold termF unitF
  split
  · split
    · omega
    · split
      · omega
      · split
        · rename_i h3
          exact pow_le_6 hf.1 hf.2 (by omega)
        · split <;> omega
  · omega
theorem totalF_bd {q : Qy} (v : Nat) (hk : q.k ≤ 6 ∨ q.kind ≠ 3) : ∀ {l : List Rd}, (∀ r ∈ l, ValidR r) → 0 ≤ totalF q l v ∧ totalF q l v ≤ l.length * 274941996890625
  | [], _ => by simp [totalF]
  | r :: l, h => by
    have h1 := termF_bd (q := q) (h r (by simp)) v hk
    have h2 := totalF_bd v hk (l := l) fun x hx => h x (by simp [hx])
    have h3 : totalF q (r :: l) v = termF q v r + totalF q l v := by simp [totalF]
    rw [h3, List.length_cons]
    omega
/-- A matching reading's fields lie in the ranges. -/
theorem match_in {l : List Cd} {r : Rd} (h : matchB l r = true) (hr : ValidR r) {col : Int} (h0 : 0 ≤ col) (h3 : col ≤ 3) : (underF l col).1 ≤ fldI r col ∧ fldI r col ≤ (underF l col).2 := by
  unfold underF
  rw [fold_poss, span0_max h0 h3]
  refine ⟨fldI_bd hr col, fun c hc hh => ?_⟩
  have h1 := List.all_eq_true.1 h c hc
  unfold matchT at h1
  rw [decide_eq_true_eq, hh.1] at h1
  omega
theorem match_sat {l : List Cd} {r : Rd} (h : matchB l r = true) (hr : ValidR r) : satB l = true := by
  have h0 := match_in h hr (col := 0) (by omega) (by omega)
  have h1 := match_in h hr (col := 1) (by omega) (by omega)
  have h2 := match_in h hr (col := 2) (by omega) (by omega)
  have h3 := match_in h hr (col := 3) (by omega) (by omega)
  exact decide_eq_true (by omega)
theorem pow_mono {x y : Int} (h0 : 0 ≤ x) (h : x ≤ y) : ∀ k : Nat, 0 ≤ x ^ k ∧ x ^ k ≤ y ^ k
  | 0 => by simp
  | k + 1 => by
    obtain ⟨a, b⟩ := pow_mono h0 h k
    rw [Int.pow_succ, Int.pow_succ]
    exact ⟨Int.mul_nonneg a h0, Int.le_trans (Int.mul_le_mul_of_nonneg_left h a) (Int.mul_le_mul_of_nonneg_right b (by omega))⟩
end Go.Proofs.YtihcaoipemcddaaDoor
