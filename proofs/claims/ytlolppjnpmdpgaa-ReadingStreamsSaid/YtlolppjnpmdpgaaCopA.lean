/-
  append onto an empty slice without room ('append([]T{}, s...)'): a copy, in memory of its own. Of no program.
-/
import Derived.Test.YtlolppjnpmdpgaaRdF
import Derived.Test.YtlolppjnpmdpgaaRow
import Derived.Deep.Upon
namespace Go.Proofs.Ytlolppjnpmdpgaa
open Go.RowKit

section
variable {P : Program} {α : Type} {E : Enc α} {S : Nat → Prop} {w : World} {t ty e : TypeId} {bytes : Nat}
theorem run_append_copy (T : SlT P t e E bytes) (hE : E.Flat) {ys : List α} {A B : Option Addr} {c : Nat} (k : Sl E S w B c ys) (h63 : ys.length ≤ maxLen) (hbytes : ys.length * bytes ≤ 140737488355328) :
    ∃ A' c' w', (Builtin.append_ #[t, t] ty #[.slice A 0 0, .slice B ys.length c]).run P w = .ok (.slice A' ys.length c') w' ∧ Sl E (fun b => w.heap.size ≤ b) w' A' c' ys ∧ Below w.heap.size w w' := by
  cases hys : ys with
  | nil =>
    obtain ⟨i, z, hi, hz, hsz, hby, hzs⟩ := T.parts
    refine ⟨A, 0, w, ?_, Sl.nil_ _ _ _ _ (Nat.zero_le _), Below.refl _ _⟩
    refine run_append_nothing w t t ty e i T.und hi A 0 0 (Nat.le_refl _) (.slice B 0 c) ?_
    cases B with
    | none => exact Src.ofNil w T.und c
    | some a => exact Src.ofSlice w T.und a 0 c [] (by simp) (by simp) (by simp)
  | cons y l =>
    rw [← hys]
    have hne : ys ≠ [] := by rw [hys]; simp
    obtain ⟨v', w', hrun, ho, hb⟩ := run_append_full (ty := ty) T (xs := []) (A := A) (Sl.nil_ E S w A (Nat.zero_le _)) k hne (by simpa using h63) (by simpa using hbytes) (fun _ => trivial)
    rw [List.nil_append] at ho
    obtain ⟨A', c', rfl, _⟩ := ho.form
    exact ⟨A', c', w', hrun, ho.flatSl hE fun b hb => hb, hb⟩
theorem step_append_copy {ops : Array Oper} {o : Oper} {a : Act} {K : Act → World → Prop} {Q : Exit → Act → World → Prop} {F : Prop} (hgd : o.guard = none) (s x : Operand)
    (ho : o.op = .call { callee := .builtin .append, args := #[s, x], argTypes := #[t, t] }) (T : SlT P t e E bytes) (hE : E.Flat) {ys : List α} {A B : Option Addr} {c m : Nat}
    (hs : a.eval s = .slice A 0 0) (hx : a.eval x = .slice B m c) (hm : ys.length = m) (k : Sl E S w B c ys) (h63 : ys.length ≤ maxLen) (hbytes : ys.length * bytes ≤ 140737488355328)
    (H : ∀ A' c' w', Sl E (fun b => w.heap.size ≤ b) w' A' c' ys → Below w.heap.size w w' → K (a.put o.dst (.slice A' m c')) w') :
    if Region.wanted o (yielded ops a.tmps) = true then Oper.wp P o a w K Q else F := by
  subst hm
  obtain ⟨A', c', w', hrun, h1, h2⟩ := run_append_copy (ty := o.type) (A := A) T hE k h63 hbytes
  have hw : Region.wanted o (yielded ops a.tmps) = true := by simp [Region.wanted, hgd]
  rw [if_pos hw]
  exact wp_append_run ho hs hx hrun (H A' c' w' h1 h2)
theorem wpList_append_copy {ops : Array Oper} {rest : List Oper} {o : Oper} {a : Act} {Q : Exit → Act → World → Prop} (hgd : o.guard = none) (s x : Operand)
    (ho : o.op = .call { callee := .builtin .append, args := #[s, x], argTypes := #[t, t] }) (T : SlT P t e E bytes) (hE : E.Flat) {ys : List α} {A B : Option Addr} {c m : Nat}
    (hs : a.eval s = .slice A 0 0) (hx : a.eval x = .slice B m c) (hm : ys.length = m) (k : Sl E S w B c ys) (h63 : ys.length ≤ maxLen) (hbytes : ys.length * bytes ≤ 140737488355328)
    (H : ∀ A' c' w', Sl E (fun b => w.heap.size ≤ b) w' A' c' ys → Below w.heap.size w w' → wpList P ops Q rest (a.put o.dst (.slice A' m c')) w') : wpList P ops Q (o :: rest) a w := by
  subst hm
  obtain ⟨A', c', w', hrun, h1, h2⟩ := run_append_copy (ty := o.type) (A := A) T hE k h63 hbytes
  exact wpList_plain hgd fun _ hK => wp_append_run ho hs hx hrun (hK _ _ (H A' c' w' h1 h2))
end
end Go.Proofs.Ytlolppjnpmdpgaa
