/-
  More conditions, lower bounds: in plain words. No program.
-/
import Derived.Test.YtihcaoipemcddaaDoorQP2
namespace Go.Proofs.YtihcaoipemcddaaDoor
open Go.RowKit

theorem under_snoc (l : List Cd) (c : Cd) (col : Int) : underF (l ++ [c]) col = spanStep col (underF l col) c := by simp [underF]
theorem under_sub (l : List Cd) (c : Cd) (col : Int) : (underF l col).1 ≤ (underF (l ++ [c]) col).1 ∧ (underF (l ++ [c]) col).2 ≤ (underF l col).2 := by
  rw [under_snoc]
  unfold spanStep
  split
  · dsimp only; omega
  · exact ⟨Int.le_refl _, Int.le_refl _⟩
theorem sat_sub {l : List Cd} {c : Cd} (h : satB (l ++ [c]) = true) : satB l = true := by
  unfold satB at h ⊢
  rw [decide_eq_true_eq] at h ⊢
  have h0 := under_sub l c 0
  have h1 := under_sub l c 1
  have h2 := under_sub l c 2
  have h3 := under_sub l c 3
  omega
/-- The query with another first filter. -/
def setQ (x : Qy) (l : List Cd) : Qy := ⟨x.kind, x.col, x.k, x.fs.set 0 l⟩
theorem setQ_valid {x : Qy} (hx : ValidQ x) {l : List Cd} (hl : ValidFlt l) : ValidQ (setQ x l) := by
  refine ⟨?_, fun m hm => ?_⟩
  · obtain ⟨h1, h2, h3, h4, h5, h6, h7⟩ := hx.head
    exact ⟨h1, h2, h3, h4, h5, h6, by show (x.fs.set 0 _).length = _; rw [List.length_set]; exact h7⟩
  · rcases List.mem_or_eq_of_mem_set hm with h | h
    · exact hx.flt m h
    · subst h; exact hl
theorem setQ_filt {x : Qy} (h0 : 0 < x.fs.length) (l : List Cd) (v : Nat) : filtF (setQ x l) v = if x.kind = 7 ∧ v / 16 ≠ 0 then filtF x v else l := by
  unfold filtF fl setQ
  dsimp only
  by_cases h7 : x.kind = 7
  · rw [if_pos h7, if_pos h7]
    by_cases hv : v / 16 = 0
    · rw [if_neg (by rintro ⟨-, h⟩; exact h hv), hv, List.getD_eq_getElem?_getD, List.getElem?_set_self h0]; rfl
    · rw [if_pos ⟨h7, hv⟩, List.getD_eq_getElem?_getD, List.getD_eq_getElem?_getD, List.getElem?_set_ne (fun e => hv e.symm)]
  · rw [if_neg h7, if_neg h7, if_neg (by rintro ⟨h, -⟩; exact h7 h), List.getD_eq_getElem?_getD, List.getElem?_set_self h0]; rfl
theorem filt_first {x : Qy} {v : Nat} (h : ¬ (x.kind = 7 ∧ v / 16 ≠ 0)) : filtF x v = fl x 0 := by
  unfold filtF
  split
  · rename_i h7
    have : v / 16 = 0 := by
      rcases Nat.eq_zero_or_pos (v / 16) with e | e
      · exact e
      · exact absurd ⟨h7, by omega⟩ h
    rw [this]
  · rfl
/-- A condition more: no sum's bound grows. -/
theorem cap_sub {x : Qy} (hx : ValidQ x) {c : Cd} (hv2 : ValidFlt (fl x 0 ++ [c])) {v : Nat} (hv : v < 32) : capF (setQ x (fl x 0 ++ [c])) v ≤ capF x v := by
  have h0 : 0 < x.fs.length := by rw [hx.head.2.2.2.2.2.2]; unfold nFilF; split <;> omega
  have hf := setQ_filt h0 (fl x 0 ++ [c]) v
  by_cases h : x.kind = 7 ∧ v / 16 ≠ 0
  · rw [if_pos h] at hf
    unfold capF
    rw [hf]
    exact Int.le_refl _
  · rw [if_neg h] at hf
    have hf2 := filt_first h
    have hn := cap_nn hx hv
    have hs := fun col => under_sub (fl x 0) c col
    unfold capF at hn ⊢
    rw [hf2] at hn ⊢
    rw [hf]
    show (if x.kind ≤ 3 then (if satB (fl x 0 ++ [c]) then (underF (fl x 0 ++ [c]) x.col).2 ^ expF x else 0) else if inB_ (underF (fl x 0 ++ [c]) (colQ x)) ((v % 16 : Nat) : Int) && satB (fl x 0 ++ [c]) then 1 else 0) ≤ _
    by_cases h3 : x.kind ≤ 3
    · rw [if_pos h3, if_pos h3]
      rw [if_pos h3] at hn
      cases hs1 : satB (fl x 0 ++ [c]) with
      | true =>
        have hs2 := sat_sub hs1
        rw [hs2]
        simp only [if_true]
        exact (pow_mono (under_bd hv2.2 x.col).2.2.2 (hs x.col).2 _).2
      | false =>
        simp only [Bool.false_eq_true, if_false]
        exact hn.1
    · rw [if_neg h3, if_neg h3]
      rw [if_neg h3] at hn
      cases hs1 : satB (fl x 0 ++ [c]) with
      | true =>
        have hs2 := sat_sub hs1
        rw [hs2]
        cases hb : inB_ (underF (fl x 0 ++ [c]) (colQ x)) ((v % 16 : Nat) : Int) with
        | true =>
          have hb2 : inB_ (underF (fl x 0) (colQ x)) ((v % 16 : Nat) : Int) = true := by
            unfold inB_ at hb ⊢
            rw [decide_eq_true_eq] at hb ⊢
            have := hs (colQ x)
            omega
          rw [hb2]
          exact Int.le_refl _
        | false => simp; split <;> omega
      | false => simp; split <;> omega
end Go.Proofs.YtihcaoipemcddaaDoor
