/-
  append, said of slices that read as lists: onto a slice of the call's own, and onto a slice without spare capacity.
-/
import Derived.Test.YtihcaoipemcddaaDoorLib
import Derived.Laws.IdiomStrings
import Derived.Laws.BytesArg
namespace Go.Proofs.YtihcaoipemcddaaDoor
open Go.RowKit

/-- The slice type t has the element type e, whose values lie as E says. -/
structure SlT {α : Type} (P : Program) (t e : TypeId) (E : Enc α) (bytes : Nat) : Prop where
  und : P.underlying t = some (.slice e)
  info : (P.info? e).map (fun i => (i.zero.map (·.cells.size), i.size, i.bytes)) = some (some E.size, E.size, bytes)
  pos : 0 < E.size

theorem SlT.parts {α : Type} {P : Program} {t e : TypeId} {E : Enc α} {bytes : Nat} (T : SlT P t e E bytes) :
    ∃ (i : TypeInfo) (z : Value), P.info? e = some i ∧ i.zero = some z ∧ i.size = E.size ∧ i.bytes = bytes ∧ z.cells.size = E.size := by
  have h := T.info
  cases hi : P.info? e with
  | none => rw [hi] at h; cases h
  | some i =>
    rw [hi] at h
    simp only [Option.map_some, Option.some.injEq, Prod.mk.injEq] at h
    obtain ⟨hz, hs, hb⟩ := h
    cases hzz : i.zero with
    | none => rw [hzz] at hz; cases hz
    | some z =>
      rw [hzz] at hz
      simp only [Option.map_some, Option.some.injEq] at hz
      exact ⟨i, z, rfl, hzz, hs, hb, hz⟩

section
variable {α : Type} {E : Enc α} {S T : Nat → Prop} {w w' : World} {base : Nat} {e : TypeId} {v : Value} {xs : List α}
theorem Own.grown (h : Own E S w base e v xs) {row : Option Nat} (hg : w.grownBy w' row) (hv : v.ownBlock = none ∨ v.ownBlock ≠ row) (hS : ∀ g, row = some g → ¬ S g) : Own E S w' base e v xs := by
  obtain ⟨cs, hown, hel⟩ := h
  exact ⟨cs, hown.kept hg hv, hel.keep ((Agree.refl S w).grown hg hS)⟩
theorem Own.sub (h : Own E S w base e v xs) (hs : ∀ b, S b → b < w.heap.size → T b) : Own E T w base e v xs := by
  obtain ⟨cs, hown, hel⟩ := h
  exact ⟨cs, hown, hel.sub hs⟩
theorem Own.lt (h : Own E S w base e v xs) : ∀ k, v.ownBlock = some k → base ≤ k ∧ k < w.heap.size := by
  obtain ⟨cs, hown, _⟩ := h
  exact hown.lt
theorem Own.lower (h : Own E S w base e v xs) {base' : Nat} (hb : base' ≤ base) : Own E S w base' e v xs := by
  obtain ⟨cs, ⟨hl, h2⟩, hel⟩ := h
  refine ⟨cs, ⟨hl, ?_⟩, hel⟩
  rcases h2 with h2 | ⟨g, cap, cur, hv, hg, r⟩
  · exact .inl h2
  · exact .inr ⟨g, cap, cur, hv, Nat.le_trans hb hg, r⟩
theorem Own.alloc (h : Own E S w base e v xs) (o : Obj) : Own E S (w.alloc o) base e v xs := by
  obtain ⟨cs, hown, hel⟩ := h
  exact ⟨cs, hown.alloc o, hel.keep ((Agree.refl S w).alloc o)⟩
theorem Own.set (h : Own E S w base e v xs) {p : Addr} (hv : v.ownBlock ≠ some p.block) (hp : ¬ S p.block) (u : Value) : Own E S (w.setCell p u) base e v xs :=
  h.keep ((Agree.refl S w).set hp u) fun g hg => Below.heap_setCell _ _ _ _ (fun e => hv (by rw [hg, e]))
theorem Own.drewN (h : Own E S w base e v xs) (n : Nat) : Own E S (w.drewN n) base e v xs := by
  obtain ⟨cs, hown, hel⟩ := h
  exact ⟨cs, hown, hel.keep ((Agree.refl S w).drewN n)⟩
theorem Own.call (h : Own E S w base e v xs) (hb : Below w.heap.size w w') : Own E S w' base e v xs :=
  h.keep ((Agree.refl S w).call hb) fun g hg => hb.block g (h.lt g hg).2
theorem Own.only {g : Nat} (h : Own E S w base e v xs) (ha : Agree (fun b => b ≠ g) w w') (hg : g < base) (hS : ¬ S g) : Own E S w' base e v xs :=
  h.keep (ha.sub fun _ hb e => hS (e ▸ hb)) fun k hk => ha.2 k (by have := (h.lt k hk).1; omega) (h.lt k hk).2
theorem Sl.only {A : Option Addr} {c g : Nat} (h : Sl E S w A c xs) (ha : Agree (fun b => b ≠ g) w w') (hS : ¬ S g) : Sl E S w' A c xs := h.keep (ha.sub fun _ hb e => hS (e ▸ hb))
theorem Sl.drew {A : Option Addr} {c : Nat} (h : Sl E S w A c xs) : Sl E S w.drew A c xs := h.keep (Agree.refl S w).drew
theorem Own.drew (h : Own E S w base e v xs) : Own E S w.drew base e v xs := by
  obtain ⟨cs, hown, hel⟩ := h
  exact ⟨cs, hown, hel.keep (Agree.refl S w).drew⟩
theorem Own.litAt {α : Type} (E : Enc α) (S : Nat → Prop) (w : World) {base g : Nat} (e : TypeId) (hg : w.heap.size = g) (hb : base ≤ g) : Own E S (w.alloc (.cells #[] e)) base e (.slice (some ⟨g, 0, none⟩) 0 0) [] := by
  subst hg
  exact ⟨[], World.ownsRow_made w #[] 0 hb (by unfold maxLen; omega) (by simp), rfl⟩
/-- A literal of the elements xs, in a new block. -/
theorem Sl.lit {cs : List Value} (h : Elems E S w cs xs) (hm : xs.length ≤ maxLen) (hs : ∀ b, S b → b < w.heap.size → T b) (hT : T w.heap.size) :
    Sl E T (w.alloc (.cells cs.toArray e)) (some ⟨w.heap.size, 0, none⟩) xs.length xs :=
  ⟨Nat.le_refl _, hm, cs, fun _ => ⟨_, rfl, hT, by simp, fun j u hu => by rw [Addr.add_lit, cell_of_row _ _ _ _ _ _ (heap_alloc_new w _)]; simpa using hu⟩, (h.sub hs).keep ((Agree.refl T w).alloc _)⟩
theorem Below.agree (h : Below w.heap.size w w') : Agree S w w' := (Agree.refl S w).call h
/-- An empty literal, and what 'make' leaves at length 0. -/
theorem Own.lit0 {α : Type} (E : Enc α) (S : Nat → Prop) (w : World) {base : Nat} (e : TypeId) (hb : base ≤ w.heap.size) : Own E S (w.alloc (.cells #[] e)) base e (.slice (some ⟨w.heap.size, 0, none⟩) 0 0) [] :=
  ⟨[], World.ownsRow_made w #[] 0 hb (by unfold maxLen; omega) (by simp), rfl⟩
end

section
variable {α : Type} {E : Enc α} {P : Program} {t ty e : TypeId} {bytes : Nat} {S : Nat → Prop} {w : World}

theorem run_append_E (T : SlT P t e E bytes) {base : Nat} {v : Value} {xs ys : List α} {A : Option Addr} {c : Nat} (h : Own E S w base e v xs) (k : Sl E S w A c ys)
    (h63 : xs.length + ys.length ≤ maxLen) (hbytes : (xs.length + ys.length) * bytes ≤ 140737488355328) (hbase : base ≤ w.heap.size) (hS : ∀ g, v.ownBlock = some g → ¬ S g) :
    ∃ v' w', (Builtin.append_ #[t, t] ty #[v, .slice A ys.length c]).run P w = .ok v' w' ∧ Own E S w' base e v' (xs ++ ys) ∧ w.grownBy w' v.ownBlock ∧ (v'.ownBlock = v.ownBlock ∨ v'.ownBlock = some w.heap.size) := by
  obtain ⟨i, z, hi, hz, hsz, hby, hzs⟩ := T.parts
  obtain ⟨cs, hown, hel⟩ := h
  obtain ⟨_, _, ds, hr, hel2⟩ := k
  by_cases hne : ds = []
  · subst hne
    have hy : ys = [] := by
      have h1 := hel2.len
      have h2 := T.pos
      rcases ys with _ | ⟨y, ys⟩
      · rfl
      · simp [Nat.add_mul] at h1; omega
    subst hy
    refine ⟨v, w, ?_, ⟨cs, by simpa using hown, by simpa using hel⟩, World.grownBy.refl w _, .inl rfl⟩
    rcases A with _ | ad
    · rcases hown.2 with ⟨rfl, hn⟩ | ⟨g, cap, cur, rfl, _, _, hnc, _⟩
      · simp [Builtin.append_, run_underlying T.und, sizeOf, typeInfo, hi, Builtin.lenOf, Builtin.firstCells]
      · simp [Builtin.append_, run_underlying T.und, sizeOf, typeInfo, hi, Builtin.lenOf, Builtin.firstCells, hnc, storeCells]
    · rcases hown.2 with ⟨rfl, hn⟩ | ⟨g, cap, cur, rfl, _, _, hnc, _⟩
      · simp [Builtin.append_, run_underlying T.und, sizeOf, typeInfo, hi, Builtin.lenOf, Builtin.firstCells, loadCells, loadCellsFrom]
      · simp [Builtin.append_, run_underlying T.und, sizeOf, typeInfo, hi, Builtin.lenOf, Builtin.firstCells, hnc, storeCells, loadCells, loadCellsFrom]
  · obtain ⟨ad, rfl, hSa, hlt, hc⟩ := hr hne
    obtain ⟨v', w', hrun, h2, h3, _, h5⟩ := run_append_own_at (P := P) w base t ty e i z E.size bytes T.und hi hz hsz hby hzs T.pos v xs.length cs hown ad ys.length c ds hel2.len hc hel2.one h63 hbytes hbase
    have hag := (Agree.refl S w).grown h3 hS
    exact ⟨v', w', hrun, ⟨_, by rw [List.length_append]; exact h2, (hel.keep hag).append (hel2.keep hag)⟩, h3, h5⟩

/-- Onto a slice with no spare capacity: a new block, unless nothing is appended. -/
theorem run_append_full (T : SlT P t e E bytes) {xs ys : List α} {A B : Option Addr} {c : Nat} (h : Sl E S w A xs.length xs) (k : Sl E S w B c ys) (hy : ys ≠ [])
    (h63 : xs.length + ys.length ≤ maxLen) (hbytes : (xs.length + ys.length) * bytes ≤ 140737488355328) (hA : A = none → True) :
    ∃ v' w', (Builtin.append_ #[t, t] ty #[.slice A xs.length xs.length, .slice B ys.length c]).run P w = .ok v' w' ∧ Own E S w' w.heap.size e v' (xs ++ ys) ∧ Below w.heap.size w w' := by
  obtain ⟨i, z, hi, hz, hsz, hby, hzs⟩ := T.parts
  have _ := hA
  obtain ⟨_, _, cs, hrc, hel⟩ := h
  obtain ⟨_, _, ds, hr, hel2⟩ := k
  have hyl : 0 < ys.length := List.length_pos_iff.2 hy
  have hne : ds ≠ [] := fun e => by
    have h1 := hel2.len
    have h2 := Nat.mul_pos hyl T.pos
    rw [e] at h1; simp at h1; omega
  obtain ⟨b, rfl, hSb, hltb, hcb⟩ := hr hne
  have hsm : ((xs.length + ys.length : Nat) : Int) ≤ 9223372036854775807 := by unfold maxLen at h63; omega
  have fin : ∀ (old : Nat), old < xs.length + ys.length → 
      Own E S (w.drew.alloc (.cells (cs.toArray ++ ds.toArray ++ Builtin.zeroCells z.cells (grownCap w (xs.length + ys.length) old e - (xs.length + ys.length))) e)) w.heap.size e
        (.slice (some ⟨w.heap.size, 0, none⟩) (xs.length + ys.length) (grownCap w (xs.length + ys.length) old e)) (xs ++ ys) ∧
      Below w.heap.size w (w.drew.alloc (.cells (cs.toArray ++ ds.toArray ++ Builtin.zeroCells z.cells (grownCap w (xs.length + ys.length) old e - (xs.length + ys.length))) e)) := by
    intro old ho
    have hge := grownCap_ge w (xs.length + ys.length) old e
    have hcm : grownCap w (xs.length + ys.length) old e ≤ maxLen := grownCap_le_maxLen w (xs.length + ys.length) old e h63
    have hag : Agree S w (w.drew.alloc (.cells (cs.toArray ++ ds.toArray ++ Builtin.zeroCells z.cells (grownCap w (xs.length + ys.length) old e - (xs.length + ys.length))) e)) := ((Agree.refl S w).drew).alloc _
    have hlen : (cs ++ ds).length = (xs ++ ys).length * E.size := by rw [List.length_append, hel.len, hel2.len, List.length_append, Nat.add_mul]
    refine ⟨⟨cs ++ ds, ⟨hlen, .inr ⟨w.heap.size, _, _, by rw [List.length_append], Nat.le_refl _, heap_alloc_new w.drew _, by rw [List.length_append]; exact hge, hcm, ?_, ?_⟩⟩, (hel.keep hag).append (hel2.keep hag)⟩,
      ((Below.refl _ _).drew).alloc (Nat.le_refl _) _⟩
    · simp only [Array.size_append, List.size_toArray, size_zeroCells, hzs, hel.len, hel2.len, ← Nat.add_mul]
      congr 1
      omega
    · rw [← hlen]
      simp only [Array.toList_append, List.append_assoc]
      rw [← List.append_assoc]
      exact List.take_left
  rcases A with _ | a
  · have hcs : cs = [] := by
      rcases cs with _ | ⟨c0, cs⟩
      · rfl
      · obtain ⟨a, ha, _⟩ := hrc (by simp)
        cases ha
    have hx : xs = [] := by
      have h1 := hel.len
      have h2 := T.pos
      rcases xs with _ | ⟨x, xs⟩
      · rfl
      · subst hcs; simp [Nat.add_mul] at h1; omega
    subst hx; subst hcs
    have hrun := run_append_nil (P := P) w t ty e i z T.und hi hz b ys.length c ds (by rw [hsz]; exact hel2.len) hcb hyl (by simpa using hsm) (by rw [hby]; simp at hbytes; omega)
    have hf := fin 0 (by simp; omega)
    simp only [List.length_nil, Nat.zero_add, List.nil_append, Array.empty_append] at hf ⊢
    exact ⟨_, _, hrun, hf⟩
  · have hcc : ∀ j u, cs[j]? = some u → w.cell? (a.add j) = some u := by
      intro j u hu
      by_cases hcs : cs = []
      · subst hcs; simp at hu
      · obtain ⟨a', ha, _, _, hc⟩ := hrc hcs
        cases ha
        exact hc j u hu
    have hrun := run_append_grow (P := P) w t ty e i z T.und hi hz a xs.length xs.length cs (by rw [hsz]; exact hel.len) hcc b ys.length c ds (by rw [hsz]; exact hel2.len) hcb (by omega) hsm (growslice_fits (by omega) (by rw [hby]; exact hbytes))
    exact ⟨_, _, hrun, fin xs.length (by omega)⟩

theorem own_or {v v' : Value} {n g : Nat} (h3 : v'.ownBlock = v.ownBlock ∨ v'.ownBlock = some n) (hg : v'.ownBlock = some g) : v.ownBlock = some g ∨ n = g := by
  rcases h3 with h | h
  · exact .inl (h.symm.trans hg)
  · rw [hg] at h; injection h with h; exact .inr h.symm

/-! The same at an operation. -/
theorem wp_append_run {o : Oper} {a : Act} {K : Act → World → Prop} {Q : Exit → Act → World → Prop} {s x : Operand}
    (ho : o.op = .call { callee := .builtin .append, args := #[s, x], argTypes := #[t, t] }) {v u v' : Value} {w' : World} (hs : a.eval s = v) (hx : a.eval x = u)
    (hrun : (Builtin.append_ #[t, t] o.type #[v, u]).run P w = .ok v' w') (h : K (a.put o.dst v') w') : o.wp P a w K Q := by
  unfold Oper.wp execOp
  simp only [ho, resolve, invoke, builtin, Sem.run_bind, Sem.run_pure, Result.andThen_ok, List.map_toArray, List.map_cons, List.map_nil, hs, hx, hrun]
  exact h

theorem wpList_append_E {ops : Array Oper} {rest : List Oper} {o : Oper} {a : Act} {Q : Exit → Act → World → Prop} (hgd : o.guard = none) (s x : Operand)
    (ho : o.op = .call { callee := .builtin .append, args := #[s, x], argTypes := #[t, t] }) (T : SlT P t e E bytes) {base : Nat} {v : Value} {xs ys : List α} {A : Option Addr} {c : Nat}
    {m : Nat} (hs : a.eval s = v) (hx : a.eval x = .slice A m c) (hm : ys.length = m) {nz : Nat} (hnz : (xs ++ ys).length = nz) (h : Own E S w base e v xs) (k : Sl E S w A c ys)
    (h63 : xs.length + ys.length ≤ maxLen) (hbytes : (xs.length + ys.length) * bytes ≤ 140737488355328) (hbase : base ≤ w.heap.size) (hS : ∀ g, v.ownBlock = some g → ¬ S g)
    (H : ∀ A' c' w', Own E S w' base e (.slice A' nz c') (xs ++ ys) → w.grownBy w' v.ownBlock → (∀ g, (Value.slice A' nz c').ownBlock = some g → v.ownBlock = some g ∨ w.heap.size = g) → wpList P ops Q rest (a.put o.dst (.slice A' nz c')) w') : wpList P ops Q (o :: rest) a w := by
  subst hm; subst hnz
  obtain ⟨v', w', hrun, h1, h2, h3⟩ := run_append_E (ty := o.type) T h k h63 hbytes hbase hS
  obtain ⟨A', c', rfl, _⟩ := h1.form
  exact wpList_plain hgd fun _ hK => wp_append_run ho hs hx hrun (hK _ _ (H A' c' w' h1 h2 fun g hg => own_or h3 hg))
theorem step_append_E {ops : Array Oper} {o : Oper} {a : Act} {K : Act → World → Prop} {Q : Exit → Act → World → Prop} {F : Prop} (hgd : o.guard = none) (s x : Operand)
    (ho : o.op = .call { callee := .builtin .append, args := #[s, x], argTypes := #[t, t] }) (T : SlT P t e E bytes) {base : Nat} {v : Value} {xs ys : List α} {A : Option Addr} {c : Nat}
    {m : Nat} (hs : a.eval s = v) (hx : a.eval x = .slice A m c) (hm : ys.length = m) {nz : Nat} (hnz : (xs ++ ys).length = nz) (h : Own E S w base e v xs) (k : Sl E S w A c ys)
    (h63 : xs.length + ys.length ≤ maxLen) (hbytes : (xs.length + ys.length) * bytes ≤ 140737488355328) (hbase : base ≤ w.heap.size) (hS : ∀ g, v.ownBlock = some g → ¬ S g)
    (H : ∀ A' c' w', Own E S w' base e (.slice A' nz c') (xs ++ ys) → w.grownBy w' v.ownBlock → (∀ g, (Value.slice A' nz c').ownBlock = some g → v.ownBlock = some g ∨ w.heap.size = g) → K (a.put o.dst (.slice A' nz c')) w') :
    if Region.wanted o (yielded ops a.tmps) = true then Oper.wp P o a w K Q else F := by
  subst hm; subst hnz
  obtain ⟨v', w', hrun, h1, h2, h3⟩ := run_append_E (ty := o.type) T h k h63 hbytes hbase hS
  have hw : Region.wanted o (yielded ops a.tmps) = true := by simp [Region.wanted, hgd]
  rw [if_pos hw]
  obtain ⟨A', c', rfl, _⟩ := h1.form
  exact wp_append_run ho hs hx hrun (H A' c' w' h1 h2 fun g hg => own_or h3 hg)
theorem wpList_append_full {ops : Array Oper} {rest : List Oper} {o : Oper} {a : Act} {Q : Exit → Act → World → Prop} (hgd : o.guard = none) (s x : Operand)
    (ho : o.op = .call { callee := .builtin .append, args := #[s, x], argTypes := #[t, t] }) (T : SlT P t e E bytes) {xs ys : List α} {A B : Option Addr} {c : Nat}
    {n m : Nat} (hs : a.eval s = .slice A n n) (hn : xs.length = n) (hx : a.eval x = .slice B m c) (hm : ys.length = m) {nz : Nat} (hnz : (xs ++ ys).length = nz) (h : Sl E S w A xs.length xs) (k : Sl E S w B c ys) (hy : ys ≠ [])
    (h63 : xs.length + ys.length ≤ maxLen) (hbytes : (xs.length + ys.length) * bytes ≤ 140737488355328)
    (H : ∀ A' c' w', Own E S w' w.heap.size e (.slice A' nz c') (xs ++ ys) → Below w.heap.size w w' → wpList P ops Q rest (a.put o.dst (.slice A' nz c')) w') : wpList P ops Q (o :: rest) a w := by
  subst hm; subst hn; subst hnz
  obtain ⟨v', w', hrun, h1, h2⟩ := run_append_full (ty := o.type) T h k hy h63 hbytes (fun _ => trivial)
  obtain ⟨A', c', rfl, _⟩ := h1.form
  exact wpList_plain hgd fun _ hK => wp_append_run ho hs hx hrun (hK _ _ (H A' c' w' h1 h2))
theorem step_append_full {ops : Array Oper} {o : Oper} {a : Act} {K : Act → World → Prop} {Q : Exit → Act → World → Prop} {F : Prop} (hgd : o.guard = none) (s x : Operand)
    (ho : o.op = .call { callee := .builtin .append, args := #[s, x], argTypes := #[t, t] }) (T : SlT P t e E bytes) {xs ys : List α} {A B : Option Addr} {c : Nat}
    {n m : Nat} (hs : a.eval s = .slice A n n) (hn : xs.length = n) (hx : a.eval x = .slice B m c) (hm : ys.length = m) {nz : Nat} (hnz : (xs ++ ys).length = nz) (h : Sl E S w A xs.length xs) (k : Sl E S w B c ys) (hy : ys ≠ [])
    (h63 : xs.length + ys.length ≤ maxLen) (hbytes : (xs.length + ys.length) * bytes ≤ 140737488355328)
    (H : ∀ A' c' w', Own E S w' w.heap.size e (.slice A' nz c') (xs ++ ys) → Below w.heap.size w w' → K (a.put o.dst (.slice A' nz c')) w') :
    if Region.wanted o (yielded ops a.tmps) = true then Oper.wp P o a w K Q else F := by
  subst hm; subst hn; subst hnz
  obtain ⟨v', w', hrun, h1, h2⟩ := run_append_full (ty := o.type) T h k hy h63 hbytes (fun _ => trivial)
  have hw : Region.wanted o (yielded ops a.tmps) = true := by simp [Region.wanted, hgd]
  rw [if_pos hw]
  obtain ⟨A', c', rfl, _⟩ := h1.form
  exact wp_append_run ho hs hx hrun (H A' c' w' h1 h2)
end

theorem u8_cells {S : Nat → Prop} {w : World} : ∀ {l : List UInt8} {cs : List Value}, Elems .u8 S w cs l → cs = l.map fun b => .int .u8 (b.toNat : Int)
  | [], _, h => h
  | b :: l, _, ⟨c, d, e, h1, h2⟩ => by
    have h1' : c = [.int .u8 (b.toNat : Int)] := h1
    rw [e, h1', u8_cells h2]; rfl
theorem Elems.u8any {S T : Nat → Prop} {w w' : World} : ∀ {l : List UInt8} {cs : List Value}, Elems .u8 S w cs l → Elems .u8 T w' cs l
  | [], _, h => h
  | _ :: _, _, ⟨c, d, e, h1, h2⟩ => ⟨c, d, e, h1, h2.u8any⟩
theorem Own.u8any {S T : Nat → Prop} {w : World} {base : Nat} {e : TypeId} {v : Value} {xs : List UInt8} (h : Own .u8 S w base e v xs) : Own .u8 T w base e v xs := by
  obtain ⟨cs, hown, hel⟩ := h
  exact ⟨cs, hown, hel.u8any⟩
/-- 'string(b)' of bytes. -/
theorem conv_bytes {P : Program} {S : Nat → Prop} {w : World} {A : Option Addr} {c : Nat} {l : List UInt8} {src dst e : TypeId} (hs : P.underlying src = some (.slice e)) (he : P.underlying e = some (.int .u8)) (hd : P.underlying dst = some .string)
    (h : Sl .u8 S w A c l) : (convert src dst (.slice A l.length c)).run P w = .ok (.string ⟨l.toArray⟩) w := by
  obtain ⟨_, _, cs, hr, hel⟩ := h
  have hcs := u8_cells hel
  rcases A with _ | a
  · have hl : l = [] := by
      rcases l with _ | ⟨b, l⟩
      · rfl
      · obtain ⟨a, ha, _⟩ := hr (by rw [hcs]; simp)
        cases ha
    subst hl
    exact run_convert_bytes_nil w src e hs he _ _ dst hd
  · refine run_convert_bytes_back w src dst e a c l hs he hd fun j hj => ?_
    obtain ⟨a', ha, _, _, hc⟩ := hr (by rw [hcs]; intro e; rw [List.map_eq_nil_iff] at e; rw [e] at hj; simp at hj)
    injection ha with ha
    subst ha
    exact hc j _ (by rw [hcs, List.getElem?_map, List.getElem?_eq_getElem hj]; rfl)
end Go.Proofs.YtihcaoipemcddaaDoor
