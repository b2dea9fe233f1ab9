/-
  copy into a slice of the call's own.
-/
import Derived.Test.YtihcaoipemcddaaDoorStore
namespace Go.Proofs.YtihcaoipemcddaaDoor
open Go.RowKit

section
variable {α : Type} {E : Enc α} {P : Program} {t ty e : TypeId} {bytes : Nat} {S : Nat → Prop} {w : World} {base g n cap : Nat}

theorem run_copy_E (T : SlT P t e E bytes) {xs ys : List α} {i off dl dc m c : Nat} {B : Option Addr} (h : Own E S w base e (.slice (some ⟨g, 0, none⟩) n cap) xs) (k : Sl E S w B c ys) (hm : ys.length = m) (hid : i + dl ≤ n) (hS : ¬ S g) (hoff : i * E.size = off) :
    ∃ w', (Builtin.copy_ #[t, t] ty #[.slice (some ⟨g, off, none⟩) dl dc, .slice B m c]).run P w = .ok (.int .i64 (min m dl : Nat)) w' ∧
      Own E S w' base e (.slice (some ⟨g, 0, none⟩) n cap) (xs.take i ++ ys.take (min m dl) ++ xs.drop (i + min m dl)) ∧ w.grownBy w' (some g) := by
  have hn := h.len
  subst hn; subst hm; subst hoff
  obtain ⟨cs, hown, hel⟩ := h
  obtain ⟨_, _, ds, hr, hel2⟩ := k
  obtain ⟨ti, z, hi, hz, hsz, hby, hzs⟩ := T.parts
  have hK1 : min ys.length dl ≤ ys.length := Nat.min_le_left _ _
  have hK2 : min ys.length dl ≤ dl := Nat.min_le_right _ _
  generalize hK : min ys.length dl = K at hK1 hK2
  have hle : K * E.size ≤ ds.length := by rw [hel2.len]; exact Nat.mul_le_mul_right _ hK1
  have hl : (ds.take (K * E.size)).length = K * E.size := by rw [List.length_take]; omega
  have ho : i * E.size + (ds.take (K * E.size)).length ≤ xs.length * E.size := by rw [hl, ← Nat.add_mul]; exact Nat.mul_le_mul_right _ (by omega)
  obtain ⟨w', hst, hown', hgr, _⟩ := row_splice (P := P) hown ho (fun u hu => hel2.one u (List.mem_of_mem_take hu))
  have hfirst : (Builtin.firstCells E.size K (.slice B ys.length c)).run P w = .ok (ds.take (K * E.size)).toArray w := by
    by_cases hd : ds.take (K * E.size) = []
    · have h0 : K * E.size = 0 := by rw [← hl, hd]; rfl
      rw [hd]
      rcases B with _ | b
      · rfl
      · simp [Builtin.firstCells, loadCells, loadCellsFrom, h0]
    · obtain ⟨b, rfl, _, _, hc⟩ := (hr.take (K * E.size)) hd
      exact run_firstCells_some (P := P) w E.size K b ys.length c _ hl hc
  have hmin : Nat.min ys.length dl = K := hK
  have e1 : (xs.take i ++ ys.take K ++ xs.drop (i + K)).length = xs.length := by simp only [List.length_append, List.length_take, List.length_drop]; omega
  refine ⟨w', ?_, ⟨_, by rw [e1]; exact hown', ?_⟩, hgr⟩
  · simp [Builtin.copy_, run_underlying T.und, sizeOf, typeInfo, hi, hsz, Builtin.lenOf, hmin, hfirst, hst, goInt]
  · rw [hl, ← Nat.add_mul]
    exact (((hel.take i).append (hel2.take K)).append (hel.drop (i + K))).keep ((Agree.refl S w).grown hgr (by rintro _ ⟨⟩; exact hS))

theorem wp_copy_run {o : Oper} {a : Act} {K : Act → World → Prop} {Q : Exit → Act → World → Prop} {d s : Operand} {v u r : Value} {w' : World}
    (ho : o.op = .call { callee := .builtin .copy, args := #[d, s], argTypes := #[t, t] }) (hd : a.eval d = v) (hs : a.eval s = u)
    (hrun : (Builtin.copy_ #[t, t] o.type #[v, u]).run P w = .ok r w') (h : K (a.put o.dst r) w') : o.wp P a w K Q := by
  unfold Oper.wp execOp
  simp only [ho, resolve, invoke, builtin, Sem.run_bind, Sem.run_pure, Result.andThen_ok, List.map_toArray, List.map_cons, List.map_nil, hd, hs, hrun]
  exact h

theorem wpList_copy_E {ops : Array Oper} {rest : List Oper} {o : Oper} {a : Act} {Q : Exit → Act → World → Prop} (hgd : o.guard = none) (d s : Operand)
    (ho : o.op = .call { callee := .builtin .copy, args := #[d, s], argTypes := #[t, t] }) (T : SlT P t e E bytes) {xs ys : List α} {i off dl dc m c : Nat} {B : Option Addr}
    (h : Own E S w base e (.slice (some ⟨g, 0, none⟩) n cap) xs) (hd : a.eval d = .slice (some ⟨g, off, none⟩) dl dc) (hs : a.eval s = .slice B m c) (k : Sl E S w B c ys) (hm : ys.length = m) (hid : i + dl ≤ n) (hS : ¬ S g) (hoff : i * E.size = off)
    (H : ∀ w', Own E S w' base e (.slice (some ⟨g, 0, none⟩) n cap) (xs.take i ++ ys.take (min m dl) ++ xs.drop (i + min m dl)) → w.grownBy w' (some g) → wpList P ops Q rest (a.put o.dst (.int .i64 (min m dl : Nat))) w') : wpList P ops Q (o :: rest) a w := by
  obtain ⟨w', hrun, h1, h2⟩ := run_copy_E (ty := o.type) T h k hm hid hS hoff
  exact wpList_plain hgd fun _ hK => wp_copy_run ho hd hs hrun (hK _ _ (H w' h1 h2))
theorem step_copy_E {ops : Array Oper} {o : Oper} {a : Act} {K : Act → World → Prop} {Q : Exit → Act → World → Prop} {F : Prop} (hgd : o.guard = none) (d s : Operand)
    (ho : o.op = .call { callee := .builtin .copy, args := #[d, s], argTypes := #[t, t] }) (T : SlT P t e E bytes) {xs ys : List α} {i off dl dc m c : Nat} {B : Option Addr}
    (h : Own E S w base e (.slice (some ⟨g, 0, none⟩) n cap) xs) (hd : a.eval d = .slice (some ⟨g, off, none⟩) dl dc) (hs : a.eval s = .slice B m c) (k : Sl E S w B c ys) (hm : ys.length = m) (hid : i + dl ≤ n) (hS : ¬ S g) (hoff : i * E.size = off)
    (H : ∀ w', Own E S w' base e (.slice (some ⟨g, 0, none⟩) n cap) (xs.take i ++ ys.take (min m dl) ++ xs.drop (i + min m dl)) → w.grownBy w' (some g) → K (a.put o.dst (.int .i64 (min m dl : Nat))) w') :
    if Region.wanted o (yielded ops a.tmps) = true then Oper.wp P o a w K Q else F := by
  obtain ⟨w', hrun, h1, h2⟩ := run_copy_E (ty := o.type) T h k hm hid hS hoff
  have hw : Region.wanted o (yielded ops a.tmps) = true := by simp [Region.wanted, hgd]
  rw [if_pos hw]
  exact wp_copy_run ho hd hs hrun (H w' h1 h2)
end
end Go.Proofs.YtihcaoipemcddaaDoor
