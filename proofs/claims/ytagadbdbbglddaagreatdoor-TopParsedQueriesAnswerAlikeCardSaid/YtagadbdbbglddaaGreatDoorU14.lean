/-
  Texts of this claim, merged: EvF. Conditions: as each theorem says.
-/
import Derived.Test.YtagadbdbbglddaaGreatDoorU1
import Derived.Test.YtagadbdbbglddaaGreatDoorU2
import Derived.Test.YtagadbdbbglddaaGreatDoorU13
set_option linter.unusedSimpArgs false
set_option linter.unusedVariables false
namespace Go.Proofs.YtagadbdbbglddaaGreatDoor
open Go.RowKit

def nSums (q : Qy) : Nat := (sumsC q.kind).toNat
/-- The sums of a query over readings. -/
def sumsF (q : Qy) (l : List Rd) : List Int := (List.range (nSums q)).map (totalF q l)
def idxE (q : Qy) (i : Nat) (r : Rd) : Nat := if q.kind ≤ 3 then 0 else if q.kind = 7 then 16 * i + r.who.toNat else (fldI r q.col).toNat
def incE (q : Qy) (r : Rd) : Int := if q.kind = 1 then 1 else if q.kind = 2 then fldI r q.col else if q.kind = 3 then fldI r q.col ^ q.k.toNat else 1
def addE (q : Qy) (i : Nat) (xs : List Int) (r : Rd) : List Int := xs.set (idxE q i r) (xs.getD (idxE q i r) 0 + incE q r)
def partE (q : Qy) (l : List Rd) (i j v : Nat) : Int :=
  if q.kind = 7 then (if v / 16 < i then totalF q l v else if v / 16 = i then totalF q (l.take j) v else 0) else (if i = 0 then totalF q (l.take j) v else totalF q l v)
def accE (q : Qy) (l : List Rd) (i j : Nat) : List Int := (List.range (nSums q)).map (partE q l i j)

theorem sumsF_len (q : Qy) (l : List Rd) : (sumsF q l).length = nSums q := by simp [sumsF]
theorem accE_len (q : Qy) (l : List Rd) (i j : Nat) : (accE q l i j).length = nSums q := by simp [accE]
theorem accE_get {q : Qy} {l : List Rd} {i j v : Nat} (h : v < nSums q) : (accE q l i j)[v]? = some (partE q l i j v) := by unfold accE; rw [List.getElem?_map, List.getElem?_range h]; rfl
theorem nSums_le {q : Qy} (hq : ValidQ q) : nSums q ≤ 32 ∧ (nSums q : Int) = sumsC q.kind := by
  have := sums_le hq.head.1.1 hq.head.1.2
  unfold nSums; omega
theorem nSums_1 {q : Qy} (hq : ValidQ q) (h : q.kind ≤ 3) : nSums q = 1 := by have := sums_1 hq.head.1.1 h; have := nSums_le hq; omega
theorem nSums_16 {q : Qy} (hq : ValidQ q) (h : ¬ q.kind ≤ 3) (h6 : q.kind ≤ 6) : nSums q = 16 := by have := sums_16 h h6; have := nSums_le hq; omega
theorem nSums_32 {q : Qy} (hq : ValidQ q) (h : q.kind = 7) : nSums q = 32 := by have := sums_32 h; have := nSums_le hq; omega
theorem totalF_nil (q : Qy) (v : Nat) : totalF q [] v = 0 := by simp [totalF]
theorem acc_zero (q : Qy) (l : List Rd) : accE q l 0 0 = List.replicate (nSums q) 0 := by
  rw [List.eq_replicate_iff]
  refine ⟨accE_len _ _ _ _, fun b hb => ?_⟩
  unfold accE at hb
  obtain ⟨v, -, rfl⟩ := List.mem_map.1 hb
  unfold partE
  rw [List.take_zero, totalF_nil, if_neg (Nat.not_lt_zero _)]
  split
  · split <;> rfl
  · rfl
theorem narrow_fld {q : Qy} (hq : ValidQ q) (hw : wideB q = false) (h4 : 4 ≤ q.kind) (h6 : q.kind ≤ 6) {r : Rd} (hr : ValidR r) : (q.col = 0 ∨ q.col = 2) ∧ 0 ≤ fldI r q.col ∧ fldI r q.col < 16 := by
  have hc := hq.head.2.1
  have hb : ¬ 4 < bitsC q.col := fun h => by unfold wideB at hw; exact of_decide_eq_false hw ⟨h4, h6, h⟩
  have h02 : q.col = 0 ∨ q.col = 2 := by
    rcases (by omega : q.col = 0 ∨ q.col = 1 ∨ q.col = 2 ∨ q.col = 3) with e | e | e | e
    · exact .inl e
    · rw [e] at hb; exact absurd (by decide) hb
    · exact .inr e
    · rw [e] at hb; exact absurd (by decide) hb
  have hf := fldI_bd hr q.col
  refine ⟨h02, hf.1, ?_⟩
  have : maxC q.col = 15 := by unfold maxC; rw [if_pos h02]
  omega
/-- Where a reading is counted, and how. -/
theorem term_idx {q : Qy} (hq : ValidQ q) (hw : wideB q = false) {r : Rd} (hr : ValidR r) {i v : Nat} (hi : i < nFilF q.kind) (hv : v < nSums q) :
    (if q.kind = 7 → v / 16 = i then termF q v r else 0) = if matchB (fl q i) r = true ∧ idxE q i r = v then incE q r else 0 := by
  obtain ⟨⟨hk1, hk7⟩, -⟩ := hq.head
  have hwho : 0 ≤ r.who ∧ r.who < 16 := hr.1
  by_cases h7 : q.kind = 7
  · rw [nSums_32 hq h7] at hv
    have hi2 : i < 2 := by rw [h7] at hi; exact hi
    have e2 : idxE q i r = 16 * i + r.who.toNat := by unfold idxE; rw [if_neg (by omega), if_pos h7]
    have e3 : incE q r = 1 := by unfold incE; rw [if_neg (by omega), if_neg (by omega), if_neg (by omega)]
    by_cases hvi : v / 16 = i
    · rw [if_pos (fun _ => hvi)]
      unfold termF
      have e1 : filtF q v = fl q i := by unfold filtF; rw [if_pos h7, hvi]
      rw [e1, e2, e3]
      by_cases hm : matchB (fl q i) r = true
      · rw [if_pos hm]
        unfold unitF
        rw [if_neg (by omega), if_neg (by omega), if_neg (by omega)]
        have e4 : fldI r (colQ q) = r.who := by unfold colQ; rw [if_pos h7]; rfl
        rw [e4]
        by_cases he : 16 * i + r.who.toNat = v
        · rw [if_pos (show matchB (fl q i) r = true ∧ 16 * i + r.who.toNat = v from ⟨hm, he⟩), if_pos (show r.who = ((v % 16 : Nat) : Int) by omega)]
        · rw [if_neg (show ¬ (matchB (fl q i) r = true ∧ 16 * i + r.who.toNat = v) by rintro ⟨-, h⟩; exact he h), if_neg (show ¬ r.who = ((v % 16 : Nat) : Int) by omega)]
      · rw [if_neg hm, if_neg (show ¬ (matchB (fl q i) r = true ∧ 16 * i + r.who.toNat = v) by rintro ⟨h, -⟩; exact hm h)]
    · rw [if_neg (fun h => hvi (h h7)), if_neg]
      rintro ⟨-, h⟩
      rw [e2] at h
      omega
  · rw [if_pos (fun h => absurd h h7)]
    have hi0 : i = 0 := by unfold nFilF at hi; rw [if_neg h7] at hi; omega
    subst hi0
    unfold termF
    have e1 : filtF q v = fl q 0 := by unfold filtF; rw [if_neg h7]
    rw [e1]
    by_cases hm : matchB (fl q 0) r = true
    · rw [if_pos hm]
      by_cases h3 : q.kind ≤ 3
      · rw [nSums_1 hq h3] at hv
        have e2 : idxE q 0 r = v := by unfold idxE; rw [if_pos h3]; omega
        rw [if_pos (show matchB (fl q 0) r = true ∧ idxE q 0 r = v from ⟨hm, e2⟩)]
        unfold unitF incE
        rcases (by omega : q.kind = 1 ∨ q.kind = 2 ∨ q.kind = 3) with e | e | e
        · simp [e]
        · simp [e]
        · simp [e]
      · rw [nSums_16 hq h3 (by omega)] at hv
        obtain ⟨-, hf0, hf1⟩ := narrow_fld hq hw (by omega) (by omega) hr
        have e2 : idxE q 0 r = (fldI r q.col).toNat := by unfold idxE; rw [if_neg h3, if_neg h7]
        have e3 : incE q r = 1 := by unfold incE; rw [if_neg (by omega), if_neg (by omega), if_neg (by omega)]
        have e4 : colQ q = q.col := by unfold colQ; rw [if_neg h7]
        rw [e2, e3]
        unfold unitF
        rw [if_neg (by omega), if_neg (by omega), if_neg (by omega), e4]
        by_cases he : (fldI r q.col).toNat = v
        · rw [if_pos (show matchB (fl q 0) r = true ∧ (fldI r q.col).toNat = v from ⟨hm, he⟩), if_pos (show fldI r q.col = ((v % 16 : Nat) : Int) by omega)]
        · rw [if_neg (show ¬ (matchB (fl q 0) r = true ∧ (fldI r q.col).toNat = v) by rintro ⟨-, h⟩; exact he h), if_neg (show ¬ fldI r q.col = ((v % 16 : Nat) : Int) by omega)]
    · rw [if_neg hm, if_neg (show ¬ (matchB (fl q 0) r = true ∧ idxE q 0 r = v) by rintro ⟨h, -⟩; exact hm h)]
theorem part_step {q : Qy} {l : List Rd} {j : Nat} {r : Rd} (hj : l[j]? = some r) {i : Nat} (hi : i < nFilF q.kind) (v : Nat) :
    partE q l i (j + 1) v = partE q l i j v + if q.kind = 7 → v / 16 = i then termF q v r else 0 := by
  unfold partE
  rw [take_snocR hj, totalF_snoc]
  by_cases h7 : q.kind = 7
  · rw [if_pos h7, if_pos h7]
    by_cases h1 : v / 16 < i
    · rw [if_pos h1, if_pos h1, if_neg (fun h => by have := h h7; omega)]; omega
    · rw [if_neg h1, if_neg h1]
      by_cases h2 : v / 16 = i
      · rw [if_pos h2, if_pos h2, if_pos (fun _ => h2)]
      · rw [if_neg h2, if_neg h2, if_neg (fun h => h2 (h h7))]; omega
  · have hi0 : i = 0 := by unfold nFilF at hi; rw [if_neg h7] at hi; omega
    rw [if_neg h7, if_neg h7, if_pos hi0, if_pos hi0, if_pos (fun h => absurd h h7)]
theorem idx_lt {q : Qy} (hq : ValidQ q) (hw : wideB q = false) {r : Rd} (hr : ValidR r) {i : Nat} (hi : i < nFilF q.kind) : idxE q i r < nSums q := by
  obtain ⟨⟨hk1, hk7⟩, -⟩ := hq.head
  have hwho : 0 ≤ r.who ∧ r.who < 16 := hr.1
  unfold idxE
  by_cases h3 : q.kind ≤ 3
  · rw [if_pos h3, nSums_1 hq h3]; omega
  · by_cases h7 : q.kind = 7
    · have hi2 : i < 2 := by rw [h7] at hi; exact hi
      rw [if_neg h3, if_pos h7, nSums_32 hq h7]; omega
    · have hf := narrow_fld hq hw (by omega) (by omega) hr
      rw [if_neg h3, if_neg h7, nSums_16 hq h3 (by omega)]; omega
theorem acc_step {q : Qy} (hq : ValidQ q) (hw : wideB q = false) {l : List Rd} {j : Nat} {r : Rd} (hj : l[j]? = some r) (hr : ValidR r) {i : Nat} (hi : i < nFilF q.kind) :
    accE q l i (j + 1) = if matchB (fl q i) r = true then addE q i (accE q l i j) r else accE q l i j := by
  have hx := idx_lt hq hw hr hi
  refine List.ext_getElem? fun v => ?_
  by_cases hv : v < nSums q
  · rw [accE_get hv, part_step hj hi, term_idx hq hw hr hi hv]
    by_cases hm : matchB (fl q i) r = true
    · rw [if_pos hm]
      unfold addE
      rw [List.getElem?_set]
      by_cases he : idxE q i r = v
      · subst he
        rw [if_pos ⟨hm, rfl⟩, if_pos rfl, if_pos (by rw [accE_len]; exact hv), List.getD_eq_getElem?_getD, accE_get hv]; rfl
      · rw [if_neg (by rintro ⟨-, h⟩; exact he h), if_neg he, accE_get hv, Int.add_zero]
    · rw [if_neg (by rintro ⟨h, -⟩; exact hm h), if_neg hm, accE_get hv, Int.add_zero]
  · rw [List.getElem?_eq_none (by rw [accE_len]; omega)]
    split
    · rw [List.getElem?_eq_none (by unfold addE; rw [List.length_set, accE_len]; omega)]
    · rw [List.getElem?_eq_none (by rw [accE_len]; omega)]
theorem acc_next {q : Qy} {l : List Rd} {i : Nat} (hi : i < nFilF q.kind) : accE q l i l.length = accE q l (i + 1) 0 := by
  unfold accE
  refine List.map_congr_left fun v _ => ?_
  unfold partE
  rw [List.take_length, List.take_zero, totalF_nil]
  by_cases h7 : q.kind = 7
  · rw [if_pos h7, if_pos h7]
    by_cases h1 : v / 16 < i
    · rw [if_pos h1, if_pos (by omega)]
    · by_cases h2 : v / 16 = i
      · rw [if_neg h1, if_pos h2, if_pos (by omega)]
      · rw [if_neg h1, if_neg h2, if_neg (by omega)]; split <;> rfl
  · have hi0 : i = 0 := by unfold nFilF at hi; rw [if_neg h7] at hi; omega
    rw [if_neg h7, if_neg h7, if_pos hi0, if_neg (by omega)]
theorem acc_done {q : Qy} (hq : ValidQ q) (l : List Rd) : accE q l (nFilF q.kind) 0 = sumsF q l := by
  unfold accE sumsF
  refine List.map_congr_left fun v hv => ?_
  have hv' : v < nSums q := List.mem_range.1 hv
  unfold partE
  by_cases h7 : q.kind = 7
  · rw [nSums_32 hq h7] at hv'
    have h2 : nFilF q.kind = 2 := by unfold nFilF; rw [if_pos h7]
    rw [if_pos h7, h2, if_pos (by omega)]
  · have h2 : nFilF q.kind = 1 := by unfold nFilF; rw [if_neg h7]
    rw [if_neg h7, h2, if_neg (by omega)]
theorem take_valid {l : List Rd} (h : ∀ r ∈ l, ValidR r) (j : Nat) : ∀ r ∈ l.take j, ValidR r := fun r hr => h r (List.mem_of_mem_take hr)
theorem acc_bd {q : Qy} (hq : ValidQ q) {l : List Rd} (h : ∀ r ∈ l, ValidR r) (hl : l.length ≤ 1000) (i j : Nat) : ∀ x ∈ accE q l i j, 0 ≤ x ∧ x ≤ 274941996890625000 := by
  intro x hx
  unfold accE at hx
  obtain ⟨v, -, rfl⟩ := List.mem_map.1 hx
  have h1 := totalF_bd (q := q) v (k6_of hq) h
  have h2 := totalF_bd (q := q) v (k6_of hq) (take_valid h j)
  have h3 : (l.take j).length ≤ l.length := List.length_take_le' _ _
  unfold partE
  split
  · split
    · omega
    · split <;> omega
  · split <;> omega
theorem getD_bd {xs : List Int} {M : Int} (h : ∀ x ∈ xs, 0 ≤ x ∧ x ≤ M) (hM : 0 ≤ M) (k : Nat) : 0 ≤ xs.getD k 0 ∧ xs.getD k 0 ≤ M := by
  rw [List.getD_eq_getElem?_getD]
  cases hx : xs[k]? with
  | none => exact ⟨Int.le_refl _, hM⟩
  | some x => exact h x (List.mem_of_getElem? hx)
/-- What is counted is at most the number of readings. -/
theorem total_cnt {q : Qy} (h4 : 4 ≤ q.kind) (v : Nat) : ∀ (l : List Rd), 0 ≤ totalF q l v ∧ totalF q l v ≤ l.length
  | [] => by simp [totalF]
  | r :: l => by
    have h2 := total_cnt h4 v l
    have h3 : totalF q (r :: l) v = termF q v r + totalF q l v := by simp [totalF]
    have h1 : 0 ≤ termF q v r ∧ termF q v r ≤ 1 := by
      unfold termF
      have hu : unitF q v r = if fldI r (colQ q) = ((v % 16 : Nat) : Int) then 1 else 0 := by
        unfold unitF
        rw [if_neg (show ¬ q.kind = 1 by omega), if_neg (show ¬ q.kind = 2 by omega), if_neg (show ¬ q.kind = 3 by omega)]
      rw [hu]
      split
      · split <;> omega
      · omega
    rw [h3, List.length_cons, Int.natCast_add, Int.natCast_one]
    omega
theorem sums_cnt {q : Qy} (h4 : 4 ≤ q.kind) (l : List Rd) : ∀ x ∈ sumsF q l, 0 ≤ x ∧ x ≤ l.length := by
  intro x hx
  unfold sumsF at hx
  obtain ⟨v, -, rfl⟩ := List.mem_map.1 hx
  exact total_cnt h4 v l

/-! Results. -/
def nzF (xs : List Int) : Int := ((xs.filter fun x => x != 0).length : Nat)
def smallF (xs : List Int) (k : Int) : List Int := match (List.range xs.length).find? (fun v => decide (k ≤ (xs.take (v + 1)).sum)) with | some v => [(v : Int)] | none => []
def pairK (xs : List Int) (n : Nat) : Int := ((List.range n).map fun w => xs.getD w 0 * xs.getD (16 + w) 0).sum
def resF (q : Qy) (xs : List Int) : List Int := if q.kind = 5 then [nzF xs] else if q.kind = 6 then smallF xs q.k else if q.kind = 7 then [pairK xs 16] else xs
theorem nz_step {xs : List Int} {j : Nat} {x : Int} (h : xs[j]? = some x) : nzF (xs.take (j + 1)) = nzF (xs.take j) + if x = 0 then 0 else 1 := by
  unfold nzF
  rw [take_snocR h, List.filter_append, List.length_append]
  by_cases hx : x = 0
  · rw [if_pos hx]; simp [hx]
  · rw [if_neg hx]; simp [hx]
theorem nz_le (xs : List Int) : 0 ≤ nzF xs ∧ nzF xs ≤ xs.length := by
  unfold nzF
  have := List.length_filter_le (fun x : Int => x != 0) xs
  omega
theorem sum_snoc (xs : List Int) (x : Int) : (xs ++ [x]).sum = xs.sum + x := by simp
theorem sum_step {xs : List Int} {j : Nat} {x : Int} (h : xs[j]? = some x) : (xs.take (j + 1)).sum = (xs.take j).sum + x := by rw [take_snocR h, sum_snoc]
theorem sum_bd {M : Int} : ∀ {xs : List Int}, (∀ x ∈ xs, 0 ≤ x ∧ x ≤ M) → 0 ≤ xs.sum ∧ xs.sum ≤ xs.length * M
  | [], _ => by simp
  | x :: xs, h => by
    have h1 := h x (by simp)
    have h2 := sum_bd (xs := xs) fun y hy => h y (by simp [hy])
    rw [List.sum_cons, List.length_cons, Int.natCast_add, Int.natCast_one, Int.add_mul, Int.one_mul]
    omega
theorem small_none {xs : List Int} {k : Int} (h : ∀ v, v < xs.length → ¬ k ≤ (xs.take (v + 1)).sum) : smallF xs k = [] := by
  unfold smallF
  rw [List.find?_eq_none.2 (fun v hv => by simpa using h v (List.mem_range.1 hv))]
theorem find_range {p : Nat → Bool} : ∀ {n v : Nat}, v < n → p v = true → (∀ u, u < v → p u = false) → (List.range n).find? p = some v := by
  intro n v hv hp hlt
  rw [List.find?_range_eq_some]
  exact ⟨hp, List.mem_range.2 hv, fun u hu => by rw [hlt u hu]; rfl⟩
theorem small_some {xs : List Int} {k : Int} {v : Nat} (hv : v < xs.length) (hk : k ≤ (xs.take (v + 1)).sum) (h : ∀ u, u < v → ¬ k ≤ (xs.take (u + 1)).sum) : smallF xs k = [(v : Int)] := by
  unfold smallF
  rw [find_range (v := v) hv (by simpa using hk) (fun u hu => by simpa using h u hu)]
theorem pairK_step (xs : List Int) (n : Nat) : pairK xs (n + 1) = pairK xs n + xs.getD n 0 * xs.getD (16 + n) 0 := by
  unfold pairK
  rw [List.range_succ, List.map_append, List.map_singleton, sum_snoc]
theorem mul_bd {a b M : Int} (ha : 0 ≤ a ∧ a ≤ M) (hb : 0 ≤ b ∧ b ≤ M) : 0 ≤ a * b ∧ a * b ≤ M * M :=
  ⟨Int.mul_nonneg ha.1 hb.1, Int.mul_le_mul ha.2 hb.2 hb.1 (Int.le_trans ha.1 ha.2)⟩
theorem pairK_bd {xs : List Int} {M : Int} (h : ∀ x ∈ xs, 0 ≤ x ∧ x ≤ M) (hM : 0 ≤ M) : ∀ n : Nat, 0 ≤ pairK xs n ∧ pairK xs n ≤ n * (M * M)
  | 0 => by simp [pairK]
  | n + 1 => by
    have h1 := pairK_bd h hM n
    have h2 := mul_bd (getD_bd h hM n) (getD_bd h hM (16 + n))
    rw [pairK_step, Int.natCast_add, Int.natCast_one, Int.add_mul, Int.one_mul]
    omega
end Go.Proofs.YtagadbdbbglddaaGreatDoor
