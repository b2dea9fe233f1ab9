/-
  Texts of this claim, merged: Batch. Conditions: as each theorem says.
-/
import Derived.Test.YtpdblgchfkcgpaaV1
import Derived.Test.YtpdblgchfkcgpaaV2
import Derived.Test.YtpdblgchfkcgpaaV7
set_option linter.unusedSimpArgs false
set_option linter.unusedVariables false
namespace Go.Proofs.Ytpdblgchfkcgpaa
open Go.RowKit

structure LitOp where
  j : Nat
  d : Nat
  xs : List Int
def putAll : Act → List (LitOp × Nat) → Act
  | a, [] => a
  | a, p :: l => putAll (a.put (some p.1.d) (.slice (some ⟨p.2, 0, none⟩) p.1.xs.length p.1.xs.length)) l
def setAll : Array Bool → List LitOp → Array Bool
  | s, [] => s
  | s, p :: l => setAll (s.setIfInBounds p.j true) l
theorem putAll_mid (p : LitOp × Nat) : ∀ (l1 l2 : List (LitOp × Nat)) (a : Act), (∀ q ∈ l1, q.1.d ≠ p.1.d) →
    putAll (a.put (some p.1.d) (.slice (some ⟨p.2, 0, none⟩) p.1.xs.length p.1.xs.length)) (l1 ++ l2) = putAll a (l1 ++ p :: l2)
  | [], l2, a, _ => rfl
  | q :: l1, l2, a, h => by
    show putAll ((a.put _ _).put _ _) (l1 ++ l2) = putAll (a.put _ _) (l1 ++ p :: l2)
    rw [← putAll_mid p l1 l2 _ (fun r hr => h r (by simp [hr]))]
    congr 1
    exact (Act.put_comm a _ _ (fun d hd he => by cases hd; injection he with he; exact h q (by simp) he))
theorem setAll_mid (p : LitOp) : ∀ (l1 l2 : List LitOp) (s : Array Bool), (∀ q ∈ l1, q.j ≠ p.j) → setAll (s.setIfInBounds p.j true) (l1 ++ l2) = setAll s (l1 ++ p :: l2)
  | [], l2, s, _ => rfl
  | q :: l1, l2, s, h => by
    show setAll ((s.setIfInBounds _ true).setIfInBounds _ true) (l1 ++ l2) = setAll (s.setIfInBounds _ true) (l1 ++ p :: l2)
    rw [← setAll_mid p l1 l2 _ (fun r hr => h r (by simp [hr])), Array.setIfInBounds_comm _ _ (fun e => h q (by simp) e.symm)]

/-- What comes up next is of the batch. -/
def OnlyThese (md : Region.Mode) (ops : Array Oper) (listed : Array Bool) (js : List Nat) : Prop :=
  ∀ k o, ops[k]? = some o → listed.getD k true = false → k ∉ js →
    (∃ e ∈ o.after, Region.binds md e = true ∧ listed.getD e.on false = false ∧ e.on ∉ js) ∨ (∀ j ∈ js, ∃ e ∈ o.after, Region.binds md e = true ∧ e.on = j)
theorem getD_setT {s : Array Bool} {i j : Nat} {b : Bool} (h : i ≠ j) : (s.setIfInBounds i true).getD j b = s.getD j b := by
  simp [Array.getD_eq_getD_getElem?, Array.getElem?_setIfInBounds, h]
theorem OnlyThese.step {md : Region.Mode} {ops : Array Oper} {listed : Array Bool} {l1 l2 : List Nat} {p : Nat} (h : OnlyThese md ops listed (l1 ++ p :: l2)) (hp : p < listed.size) : OnlyThese md ops (listed.setIfInBounds p true) (l1 ++ l2) := by
  intro k o ho hl hk
  have hkp : p ≠ k := by
    rintro rfl
    simp [Array.getD_eq_getD_getElem?, Array.getElem?_setIfInBounds, hp] at hl
  rw [getD_setT hkp] at hl
  have hk' : k ∉ l1 ++ p :: l2 := by
    intro h'
    apply hk
    simp only [List.mem_append, List.mem_cons] at h' ⊢
    rcases h' with h' | h' | h'
    · exact .inl h'
    · exact absurd h'.symm hkp
    · exact .inr h'
  rcases h k o ho hl hk' with ⟨e, he, hb, hle, hn⟩ | hall
  · refine .inl ⟨e, he, hb, ?_, fun hm => hn ?_⟩
    · rw [getD_setT (fun e' => hn (by simp [e']))]; exact hle
    · simp only [List.mem_append, List.mem_cons] at hm ⊢; rcases hm with hm | hm; exact .inl hm; exact .inr (.inr hm)
  · refine .inr fun j hj => hall j ?_
    simp only [List.mem_append, List.mem_cons] at hj ⊢; rcases hj with hj | hj; exact .inl hj; exact .inr (.inr hj)

theorem u64_elems' : ∀ (l : List Int) {S : Nat → Prop} {w : World}, Elems .u64 S w (l.map (Value.int .u64)) l
  | [], _, _ => rfl
  | x :: l, _, _ => ⟨[_], _, rfl, rfl, u64_elems' l⟩

/-- **The batch.** -/
theorem wpAnyH_lits {P : Program} {md : Region.Mode} {ops : Array Oper} {Q : Exit → Act → World → Prop} {w0 : World} {e : TypeId} {fuel : Nat} (G : Act → Prop) :
    ∀ (n : Nat) (js : List LitOp), js.length = n → ∀ (listed : Array Bool) (a : Act) (w : World), listed.size = ops.size →
      (js.map (·.j)).Nodup → (js.map (·.d)).Nodup → (∀ p ∈ js, p.j ∈ Region.ready md ops listed) → OnlyThese md ops listed (js.map (·.j)) →
      (∀ p ∈ js, p.xs.length ≤ 1000 ∧ ∃ o, ops[p.j]? = some o ∧ o.dst = some p.d ∧ (∀ a : Act, G a → Region.wanted o (yielded ops a.tmps) = true) ∧ (∀ (a : Act) (v : Value), G a → G (a.put (some p.d) v)) ∧
        ∀ (a : Act) (w : World), (execOp a.eval o).run P w = .ok (.value (.slice (some ⟨w.heap.size, 0, none⟩) p.xs.length p.xs.length)) (w.alloc (.cells (p.xs.map (Value.int .u64)).toArray e))) →
      G a → Below w0.heap.size w0 w →
      (∀ (gs : List Nat) (w' : World), gs.length = js.length → Below w.heap.size w w' → Below w0.heap.size w0 w' → (∀ p ∈ js.zip gs, Sl .u64 (fun _ => True) w' (some ⟨p.2, 0, none⟩) p.1.xs.length p.1.xs) →
        wpAnyH P md ops Q (fun X => Below w0.heap.size w0 X) fuel (setAll listed js) (putAll a (js.zip gs)) w') →
      wpAnyH P md ops Q (fun X => Below w0.heap.size w0 X) (fuel + n) listed a w := by
  intro n
  induction n with
  | zero =>
    intro js hn listed a w _ _ _ _ _ _ _ hb0 H
    obtain rfl := List.length_eq_zero_iff.1 hn
    exact H [] w rfl (Below.refl _ _) hb0 (by simp)
  | succ n ih =>
    intro js hn listed a w hsz hnj hnd hr hot hop hG hb0 H
    obtain ⟨p0, l0, rfl⟩ : ∃ p l, js = p :: l := List.exists_cons_of_length_eq_add_one hn
    refine wpAnyH_all rfl (fun h0 => by have := hr p0 (by simp); rw [h0] at this; cases this) fun i hi => ?_
    have him : i ∈ ((p0 :: l0).map (·.j)) := by
      apply Classical.byContradiction
      intro hni
      obtain ⟨hun, o, ho, hall⟩ := mem_ready.1 hi
      rcases hot i o ho hun hni with ⟨e', he, hb, hle, _⟩ | h2
      · rw [hall e' he hb] at hle; cases hle
      · obtain ⟨e', he, hb, heq⟩ := h2 p0.j (by simp)
        have h3 := hall e' he hb
        have h4 := (mem_ready.1 (hr p0 (by simp))).1
        rw [heq] at h3
        simp only [Array.getD_eq_getD_getElem?] at h3 h4
        cases hx : listed[p0.j]? with
        | none => rw [hx] at h3; cases h3
        | some b => rw [hx] at h3 h4; simp at h3 h4; rw [h3] at h4; cases h4
    obtain ⟨p, hp, rfl⟩ := List.mem_map.1 him
    obtain ⟨l1, l2, hl⟩ := List.append_of_mem hp
    rw [hl] at hn hnj hnd hr hot hop H
    obtain ⟨hxl, o, ho, hd, hw, hG', hrun⟩ := hop p (by simp)
    have hne : ∀ q ∈ l1 ++ l2, q.j ≠ p.j := fun q hq e' => by
      simp only [List.map_append, List.map_cons] at hnj
      have h1 := List.perm_middle.nodup_iff.1 hnj
      exact (List.nodup_cons.1 h1).1 (by rw [← List.map_append, ← e']; exact List.mem_map_of_mem hq)
    have hned : ∀ q ∈ l1 ++ l2, q.d ≠ p.d := fun q hq e' => by
      simp only [List.map_append, List.map_cons] at hnd
      have h1 := List.perm_middle.nodup_iff.1 hnd
      exact (List.nodup_cons.1 h1).1 (by rw [← List.map_append, ← e']; exact List.mem_map_of_mem hq)
    have hplt : p.j < listed.size := by rw [hsz]; exact (Array.getElem?_eq_some_iff.1 ho).1
    unfold wpOp
    simp only [ho, hw a hG, if_true, Oper.wp, hrun a w, Oper.upon]
    refine .inl ⟨hb0.alloc hb0.size _, ?_⟩
    rw [hd]
    refine ih (l1 ++ l2) (by simp at hn ⊢; omega) _ _ _ (by simp [hsz]) ?_ ?_ ?_ ?_ ?_ (hG' a _ hG) (hb0.alloc hb0.size _) ?_
    · simp only [List.map_append, List.map_cons] at hnj
      rw [List.map_append]; exact (List.nodup_cons.1 (List.perm_middle.nodup_iff.1 hnj)).2
    · simp only [List.map_append, List.map_cons] at hnd
      rw [List.map_append]; exact (List.nodup_cons.1 (List.perm_middle.nodup_iff.1 hnd)).2
    · intro q hq
      refine ready_mono (hr q ?_) (hne q hq)
      simp only [List.mem_append, List.mem_cons] at hq ⊢; rcases hq with hq | hq; exact .inl hq; exact .inr (.inr hq)
    · rw [List.map_append, List.map_cons] at hot
      rw [List.map_append]
      exact hot.step hplt
    · intro q hq
      refine hop q ?_
      simp only [List.mem_append, List.mem_cons] at hq ⊢; rcases hq with hq | hq; exact .inl hq; exact .inr (.inr hq)
    · intro gs w' hgl hbw hbw0 hsl
      have hb1 : Below w.heap.size w (w.alloc (.cells (p.xs.map (Value.int .u64)).toArray e)) := (Below.refl _ _).alloc (Nat.le_refl _) _
      have hbw' : Below w.heap.size w w' := hb1.trans (hbw.mono hb1.size)
      have hlen : l1.length ≤ gs.length := by rw [hgl]; simp
      have hs1 : (gs.take l1.length).length = l1.length := by simp; omega
      have hgs : gs = gs.take l1.length ++ gs.drop l1.length := (List.take_append_drop _ _).symm
      have hz0 : (l1 ++ l2).zip gs = l1.zip (gs.take l1.length) ++ l2.zip (gs.drop l1.length) := by
        conv => lhs; rw [hgs]
        exact List.zip_append hs1.symm
      have hz1 : (l1 ++ p :: l2).zip (gs.take l1.length ++ w.heap.size :: gs.drop l1.length) = l1.zip (gs.take l1.length) ++ (p, w.heap.size) :: l2.zip (gs.drop l1.length) := by
        rw [List.zip_append hs1.symm]; rfl
      have h1 := H (gs.take l1.length ++ w.heap.size :: gs.drop l1.length) w' (by simp at hgl ⊢; omega) hbw' hbw0 (by
        intro q hq
        rw [hz1] at hq
        rw [hz0] at hsl
        simp only [List.mem_append, List.mem_cons] at hq
        rcases hq with hq | rfl | hq
        · exact hsl q (by simp [hq])
        · exact ((Sl.litAt (S := fun _ => True) (E := .u64) rfl (u64_elems' p.xs) (by unfold maxLen; omega) (fun _ _ _ => trivial) trivial).keep (Below.agree hbw))
        · exact hsl q (by simp [hq]))
      rw [hz1] at h1
      rw [hz0, setAll_mid p l1 l2 _ (fun q hq => hne q (by simp [hq])), putAll_mid (p, w.heap.size) _ _ _ (fun q hq => hned q.1 (by simp [(List.of_mem_zip hq).1]))]
      exact h1

theorem wanted_of {ops : Array Oper} {o : Oper} {g dg : Nat} {b : Bool} {a : Act} (hg : o.guard = some (g, b)) (hd : (ops[g]?).bind (·.dst) = some dg) (h : a.tmps[dg]? = some (.bool b)) : Region.wanted o (yielded ops a.tmps) = true := by
  unfold Region.wanted yielded
  rw [hg]
  simp only [hd, Option.bind_some, h]
  simp
/-- **The batch, all of it under one guard.** -/
theorem wpAnyH_lits1 {P : Program} {md : Region.Mode} {ops : Array Oper} {Q : Exit → Act → World → Prop} {w0 : World} {e : TypeId} {fuel g dg : Nat} {b : Bool} (n : Nat) (js : List LitOp) {listed : Array Bool} {a : Act} {w : World}
    (hn : js.length = n) (hsz : listed.size = ops.size) (hnj : (js.map (·.j)).Nodup) (hnd : (js.map (·.d)).Nodup) (hr : Region.ready md ops listed = js.map (·.j)) (hot : OnlyThese md ops listed (js.map (·.j)))
    (hdg : (ops[g]?).bind (·.dst) = some dg)
    (hop : ∀ p ∈ js, p.xs.length ≤ 1000 ∧ p.d ≠ dg ∧ ∃ o, ops[p.j]? = some o ∧ o.dst = some p.d ∧ o.guard = some (g, b) ∧
        ∀ (a : Act) (w : World), (execOp a.eval o).run P w = .ok (.value (.slice (some ⟨w.heap.size, 0, none⟩) p.xs.length p.xs.length)) (w.alloc (.cells (p.xs.map (Value.int .u64)).toArray e)))
    (ha : a.tmps[dg]? = some (.bool b)) (hb0 : Below w0.heap.size w0 w)
    (H : ∀ (gs : List Nat) (w' : World), gs.length = js.length → Below w.heap.size w w' → Below w0.heap.size w0 w' → (∀ p ∈ js.zip gs, Sl .u64 (fun _ => True) w' (some ⟨p.2, 0, none⟩) p.1.xs.length p.1.xs) →
        wpAnyH P md ops Q (fun X => Below w0.heap.size w0 X) fuel (setAll listed js) (putAll a (js.zip gs)) w') :
    wpAnyH P md ops Q (fun X => Below w0.heap.size w0 X) (fuel + n) listed a w := by
  refine wpAnyH_lits (e := e) (fun a => a.tmps[dg]? = some (.bool b)) n js hn listed a w hsz hnj hnd (fun p hp => by rw [hr]; exact List.mem_map_of_mem hp) hot (fun p hp => ?_) ha hb0 H
  obtain ⟨h1, h2, o, ho, hd, hg, hrun⟩ := hop p hp
  exact ⟨h1, o, ho, hd, fun a h => wanted_of hg hdg h, fun a v h => by simpa [Act.put, Array.getElem?_setIfInBounds, h2] using h, hrun⟩
def batchM (T : List FRow) (m : Nat) (js : List Nat) : Bool :=
  T.all fun r => upM m r.1 || js.any (Nat.beq r.1) || r.2.1.any (fun j => !upM m j && !js.any (Nat.beq j)) || js.all fun j => r.2.1.any (Nat.beq j)
theorem RegOk.batch {md : Region.Mode} {ops : Array Oper} {n m : Nat} {T : List FRow} (h : RegOk md ops n T) {js : List Nat} (hb : batchM T m js = true) : OnlyThese md ops (bitsA n m) js := by
  intro k o ho hl hk
  have hlt : k < ops.size := (Array.getElem?_eq_some_iff.1 ho).1
  have hn : k < n := by rw [← h.size]; exact hlt
  unfold batchM at hb
  rw [List.all_eq_true] at hb
  have h1 := hb _ (h.mem hn)
  rw [tabRow_some ho] at h1
  rw [bitsA_get hn] at hl
  simp only [hl, nbeq, Bool.false_or, Bool.or_eq_true, List.any_eq_true, List.all_eq_true, decide_eq_true_eq, Bool.and_eq_true, Bool.not_eq_true', List.any_eq_false, List.mem_map, List.mem_filter] at h1
  rcases h1 with (⟨j, hj, e⟩ | ⟨j, ⟨e, ⟨he, hbd⟩, rfl⟩, h2, h3⟩) | h1
  · exact absurd (e ▸ hj) hk
  · have he' : e ∈ o.after := by simpa using he
    exact .inl ⟨e, he', hbd, by rw [bitsA_get (h.on_lt ho he' hbd)]; exact h2, fun hm => h3 _ hm rfl⟩
  · refine .inr fun j hj => ?_
    obtain ⟨_, ⟨e, ⟨he, hbd⟩, rfl⟩, h2⟩ := h1 j hj
    exact ⟨e, by simpa using he, hbd, h2.symm⟩
def orAll : Nat → List LitOp → Nat
  | m, [] => m
  | m, p :: l => orAll (m ||| 2 ^ p.j) l
theorem setAll_bits_eq (n : Nat) : ∀ (js : List LitOp) (m : Nat), setAll (bitsA n m) js = bitsA n (orAll m js)
  | [], m => rfl
  | p :: l, m => by rw [setAll, bitsA_set, setAll_bits_eq n l, orAll]
theorem setAll_bits {P : Program} {md : Region.Mode} {ops : Array Oper} {Q : Exit → Act → World → Prop} {S : World → Prop} {fuel n m m' : Nat} {js : List LitOp} {a : Act} {w : World} (h : orAll m js = m') (H : wpAnyH P md ops Q S fuel (bitsA n m') a w) : wpAnyH P md ops Q S fuel (setAll (bitsA n m) js) a w := by
  rw [setAll_bits_eq, h]; exact H
theorem wp_of_run {P : Program} {o : Oper} {a : Act} {w w' : World} {v : Value} {K : Act → World → Prop} {Q : Exit → Act → World → Prop} (h : (execOp a.eval o).run P w = .ok (.value v) w') (hK : K (a.put o.dst v) w') : Oper.wp P o a w K Q := by
  simp only [Oper.wp, h, Oper.upon]; exact hK
theorem eight {gs : List Nat} (h : gs.length = 8) : ∃ a b c d e f g i, gs = [a, b, c, d, e, f, g, i] := by
  match gs, h with
  | [a, b, c, d, e, f, g, i], _ => exact ⟨a, b, c, d, e, f, g, i, rfl⟩
end Go.Proofs.Ytpdblgchfkcgpaa
