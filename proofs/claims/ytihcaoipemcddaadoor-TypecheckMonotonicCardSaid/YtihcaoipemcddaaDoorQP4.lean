/-
  The law 'TypecheckMonotonic', in plain words: what the two queries compared have to do with each other. No program.
-/
import Derived.Test.YtihcaoipemcddaaDoorQP3
namespace Go.Proofs.YtihcaoipemcddaaDoor
open Go.RowKit

theorem ok_of_cap {q : Qy} {n : Int} (h : n * capF q 0 < two62) : (boundF q n).2 = true := by
  unfold boundF
  by_cases h3 : q.kind ≤ 3
  · have hf : filtF q 0 = fl q 0 := by unfold filtF; rw [if_neg (by omega)]
    unfold capF at h
    rw [if_pos h3, hf] at h
    rw [if_pos h3]
    cases hs : satB (fl q 0) with
    | true =>
      rw [hs] at h
      simp only [if_true] at h ⊢
      exact decide_eq_true h
    | false => rfl
  · rw [if_neg h3]
    split <;> rfl
theorem setQ_fl {x : Qy} (h : 0 < x.fs.length) (l : List Cd) : fl (setQ x l) 0 = l := by
  unfold fl setQ
  rw [List.getD_eq_getElem?_getD, List.getElem?_set_self h]; rfl
theorem setQ_twice (x : Qy) (l m : List Cd) : setQ (setQ x l) m = setQ x m := by simp [setQ]
theorem setQ_self {x : Qy} (h : 0 < x.fs.length) {l : List Cd} (hl : fl x 0 = l) : setQ x l = x := by
  subst hl
  obtain ⟨k, c, kk, fs⟩ := x
  cases fs with
  | nil => simp at h
  | cons y ys => rfl
theorem fs_pos {x : Qy} (h : ValidQ x) : 0 < x.fs.length := by rw [h.head.2.2.2.2.2.2]; unfold nFilF; split <;> omega
/-- X is the query behind the branch, Y the one with a condition more. -/
structure MonoR (x X Y : Qy) (m : Int) : Prop where
  vX : ValidQ X
  vY : ValidQ Y
  nX : wideB X = false
  nY : wideB Y = false
  kX : X.kind = x.kind
  kY : Y.kind = x.kind
  lX : X.fs.length = x.fs.length
  lY : Y.fs.length = x.fs.length
  cX : X.col = x.col
  cY : Y.col = x.col
  ok : (boundF X m).2 = true → (boundF Y m).2 = true
  cap : ∀ v, v < 32 → 0 ≤ capF Y v ∧ capF Y v ≤ capF X v
  low : (fl X 0).length < 2 → X = x
theorem mono_base {x : Qy} (hx : ValidQ x) (hw : wideB x = false) {c : Cd} {m : Int} (h0 : 0 ≤ m) (h1 : m ≤ 65536) (hc : ValidFlt (fl x 0 ++ [c])) :
    ValidQ (setQ x (fl x 0 ++ [c])) ∧ ((boundF x m).2 = true → (boundF (setQ x (fl x 0 ++ [c])) m).2 = true) ∧ ∀ v, v < 32 → 0 ≤ capF (setQ x (fl x 0 ++ [c])) v ∧ capF (setQ x (fl x 0 ++ [c])) v ≤ capF x v := by
  have hv := setQ_valid hx hc
  have _ := hw
  refine ⟨hv, fun hok => ?_, fun v hv32 => ⟨(cap_nn hv hv32).1, cap_sub hx hc hv32⟩⟩
  have hs := sums_le hx.head.1.1 hx.head.1.2
  have h3 : 0 < sumsC x.kind := by
    obtain ⟨⟨a, b⟩, -⟩ := hx.head
    unfold sumsC
    rcases (by omega : x.kind = 1 ∨ x.kind = 2 ∨ x.kind = 3 ∨ x.kind = 4 ∨ x.kind = 5 ∨ x.kind = 6 ∨ x.kind = 7) with e | e | e | e | e | e | e <;> rw [e] <;> decide
  have hb := bound_lt hx h0 h1 hok (v := 0) (by omega)
  have hm := Int.mul_le_mul_of_nonneg_left (cap_sub hx hc (v := 0) (by omega)) h0
  exact ok_of_cap (by unfold two62; omega)
theorem mono_more {x : Qy} (hx : ValidQ x) (hw : wideB x = false) {c : Cd} {m : Int} (h0 : 0 ≤ m) (h1 : m ≤ 65536) (hc : ValidCd c) (hl : (fl x 0).length ≠ 3) : MonoR x x (setQ x (fl x 0 ++ [c])) m := by
  have hf : ValidFlt (fl x 0) := hx.flt _ (by unfold fl; rw [List.getD_eq_getElem?_getD, List.getElem?_eq_getElem (fs_pos hx)]; exact List.getElem_mem _)
  have hc' : ValidFlt (fl x 0 ++ [c]) := ⟨by rw [List.length_append]; have := hf.1; simp; omega, fun d hd => by
    rcases List.mem_append.1 hd with h | h
    · exact hf.2 d h
    · simp at h; subst h; exact hc⟩
  obtain ⟨hv, ho, hcap⟩ := mono_base hx hw h0 h1 hc'
  exact ⟨hx, hv, hw, hw, rfl, rfl, rfl, by simp [setQ], rfl, rfl, ho, hcap, fun _ => rfl⟩
theorem mono_less {x : Qy} (hx : ValidQ x) (hw : wideB x = false) {m : Int} (h0 : 0 ≤ m) (h1 : m ≤ 65536) (hl : (fl x 0).length = 3) : MonoR x (setQ x ((fl x 0).take 2)) x m := by
  have hf : ValidFlt (fl x 0) := hx.flt _ (by unfold fl; rw [List.getD_eq_getElem?_getD, List.getElem?_eq_getElem (fs_pos hx)]; exact List.getElem_mem _)
  obtain ⟨c, hc⟩ : ∃ c, (fl x 0)[2]? = some c := ⟨_, List.getElem?_eq_getElem (by omega)⟩
  have e : fl x 0 = (fl x 0).take 2 ++ [c] := by rw [← take_snocR hc, List.take_of_length_le (by omega)]
  have hX : ValidQ (setQ x ((fl x 0).take 2)) := setQ_valid hx ⟨by rw [List.length_take]; omega, fun d hd => hf.2 d (List.mem_of_mem_take hd)⟩
  have hfl := setQ_fl (fs_pos hx) ((fl x 0).take 2)
  have hY : setQ (setQ x ((fl x 0).take 2)) (fl (setQ x ((fl x 0).take 2)) 0 ++ [c]) = x := by rw [hfl, setQ_twice, ← e]; exact setQ_self (fs_pos hx) rfl
  obtain ⟨_, ho, hcap⟩ := mono_base hX (show wideB (setQ x ((fl x 0).take 2)) = false from hw) (c := c) h0 h1 (by rw [hfl, ← e]; exact hf)
  rw [hY] at ho hcap
  exact ⟨hX, hx, hw, hw, rfl, rfl, by simp [setQ], rfl, rfl, rfl, ho, hcap, fun h => by rw [hfl, List.length_take] at h; omega⟩
end Go.Proofs.YtihcaoipemcddaaDoor
