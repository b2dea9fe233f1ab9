/-
  A row of the call's own, written in its middle: append in place, clear, a store.
-/
import Derived.Test.YtihcaoipemcddaaDoorApp
namespace Go.Proofs.YtihcaoipemcddaaDoor
open Go.RowKit

section
variable {P : Program} {base : Nat} {e : TypeId} {size g n cap : Nat} {w : World} {cs vs : List Value}

theorem row_cur (h : w.ownsRow base e size (.slice (some ⟨g, 0, none⟩) n cap) n cs) :
    ∃ cur : Array Value, base ≤ g ∧ w.heap[g]? = some (.cells cur e (0, 0)) ∧ n ≤ cap ∧ cap ≤ maxLen ∧ cur.size = cap * size ∧ cur.toList.take (n * size) = cs ∧ cs.length = n * size := by
  rcases h.2 with ⟨hv, _⟩ | ⟨g', cap', cur, hv, hb, hg, h1, h2, h3, h4⟩
  · cases hv
  · injection hv with e1 e2 e3
    injection e1 with e1
    injection e1 with e1
    subst e1; subst e3
    exact ⟨cur, hb, hg, h1, h2, h3, h4, h.1⟩

theorem row_prefix (h : w.ownsRow base e size (.slice (some ⟨g, 0, none⟩) n cap) n cs) {k : Nat} (hk : k ≤ n) : w.ownsRow base e size (.slice (some ⟨g, 0, none⟩) k cap) k (cs.take (k * size)) := by
  obtain ⟨cur, hb, hg, h1, h2, h3, h4, h5⟩ := row_cur h
  have hle : k * size ≤ n * size := Nat.mul_le_mul_right _ hk
  refine ⟨by rw [List.length_take, h5]; omega, .inr ⟨g, cap, cur, rfl, hb, hg, Nat.le_trans hk h1, h2, h3, ?_⟩⟩
  rw [← h4, List.take_take]
  congr 1; omega

/-- Cells written into the row from o on. -/
theorem row_splice (h : w.ownsRow base e size (.slice (some ⟨g, 0, none⟩) n cap) n cs) {o : Nat} (ho : o + vs.length ≤ n * size) (h1 : ∀ v ∈ vs, v.oneCell' = true) :
    ∃ w', (storeCells ⟨g, o, none⟩ vs).run P w = .ok () w' ∧ w'.ownsRow base e size (.slice (some ⟨g, 0, none⟩) n cap) n (cs.take o ++ vs ++ cs.drop (o + vs.length)) ∧ w.grownBy w' (some g) ∧ w'.heap.size = w.heap.size := by
  obtain ⟨cur, hb, hg, hn, hm, hs, ht, hl⟩ := row_cur h
  have hle : n * size ≤ cap * size := Nat.mul_le_mul_right _ hn
  have hr := run_storeCells_at P g o e vs 0 cur w hg (by omega) h1
  simp only [Nat.add_zero] at hr
  refine ⟨_, hr, ⟨by simp only [List.length_append, List.length_take, List.length_drop, hl]; omega, .inr ⟨g, cap, _, rfl, hb, setRow_heap w g cur _ e _ hg, hn, hm, ?_, ?_⟩⟩, ⟨rfl, rfl, rfl, by simp, fun k _ hk => setRow_other w g k _ (fun e => hk (by rw [e]))⟩, by simp⟩
  · simp only [List.size_toArray, List.length_append, List.length_take, List.length_drop, Array.length_toList]; omega
  · have e1 : cs.take o = cur.toList.take o := by rw [← ht, List.take_take]; congr 1; omega
    have e2 : cs.drop (o + vs.length) = (cur.toList.drop (o + vs.length)).take (n * size - (o + vs.length)) := by rw [← ht, List.drop_take]
    rw [e1, e2, List.append_assoc, List.append_assoc]
    have hlen : cur.toList.length = cap * size := by simpa using hs
    rw [List.take_append, List.length_take, hlen, Nat.min_eq_left (by omega), List.take_of_length_le (l := cur.toList.take o) (by rw [List.length_take]; omega)]
    congr 1
    rw [List.take_append, List.take_of_length_le (l := vs) (by omega)]
    congr 2
    omega
end

section
variable {α : Type} {E : Enc α} {P : Program} {t ty e : TypeId} {bytes : Nat} {S : Nat → Prop} {w : World} {base g n cap : Nat} {cs : List Value}

/-- 'append(s[:i], ys...)' where the row has room for it within its own elements: in place. -/
theorem run_append_in (T : SlT P t e E bytes) (h : w.ownsRow base e E.size (.slice (some ⟨g, 0, none⟩) n cap) n cs) {i m c : Nat} {B : Option Addr} {ds : List Value} (hr : RowAt S w B ds) (hl : ds.length = m * E.size)
    (h1 : ∀ u ∈ ds, u.oneCell' = true) (him : i + m ≤ n) :
    ∃ w', (Builtin.append_ #[t, t] ty #[.slice (some ⟨g, 0, none⟩) i cap, .slice B m c]).run P w = .ok (.slice (some ⟨g, 0, none⟩) (i + m) cap) w' ∧
      w'.ownsRow base e E.size (.slice (some ⟨g, 0, none⟩) n cap) n (cs.take (i * E.size) ++ ds ++ cs.drop ((i + m) * E.size)) ∧ w.grownBy w' (some g) ∧ w'.heap.size = w.heap.size := by
  obtain ⟨ti, z, hi, hz, hsz, hby, hzs⟩ := T.parts
  obtain ⟨cur, hb, hg, hn, hm, hs, ht, hcl⟩ := row_cur h
  have hle : i * E.size + ds.length ≤ n * E.size := by rw [hl, ← Nat.add_mul]; exact Nat.mul_le_mul_right _ him
  obtain ⟨w', hst, hown, hgr, hsize⟩ := row_splice (P := P) h hle h1
  rw [hl, ← Nat.add_mul] at hown
  refine ⟨w', ?_, hown, hgr, hsize⟩
  have hcap : i + m ≤ cap := by omega
  have hfirst : (Builtin.firstCells E.size m (.slice B m c)).run P w = .ok ds.toArray w := by
    by_cases hd : ds = []
    · subst hd
      have hm0 : m * E.size = 0 := by simpa using hl.symm
      rcases B with _ | b
      · rfl
      · simp [Builtin.firstCells, loadCells, loadCellsFrom, hm0]
    · obtain ⟨b, rfl, _, _, hc⟩ := hr hd
      exact run_firstCells_some (P := P) w E.size m b m c ds hl hc
  simp [Builtin.append_, run_underlying T.und, sizeOf, typeInfo, hi, hsz, Builtin.lenOf, hcap, hfirst, Addr.add_lit, hst]

theorem wpList_append_in {ops : Array Oper} {rest : List Oper} {o : Oper} {a : Act} {Q : Exit → Act → World → Prop} (hgd : o.guard = none) (s x : Operand)
    (ho : o.op = .call { callee := .builtin .append, args := #[s, x], argTypes := #[t, t] }) (T : SlT P t e E bytes) (h : w.ownsRow base e E.size (.slice (some ⟨g, 0, none⟩) n cap) n cs) {i m c : Nat} {B : Option Addr} {ds : List Value}
    (hs : a.eval s = .slice (some ⟨g, 0, none⟩) i cap) (hx : a.eval x = .slice B m c) (hr : RowAt S w B ds) (hl : ds.length = m * E.size) (h1 : ∀ u ∈ ds, u.oneCell' = true) (him : i + m ≤ n)
    (H : ∀ w', w'.ownsRow base e E.size (.slice (some ⟨g, 0, none⟩) n cap) n (cs.take (i * E.size) ++ ds ++ cs.drop ((i + m) * E.size)) → w.grownBy w' (some g) → wpList P ops Q rest (a.put o.dst (.slice (some ⟨g, 0, none⟩) (i + m) cap)) w') : wpList P ops Q (o :: rest) a w := by
  obtain ⟨w', hrun, h1, h2, _⟩ := run_append_in (ty := o.type) T h hr hl h1 him
  exact wpList_plain hgd fun _ hK => wp_append_run ho hs hx hrun (hK _ _ (H w' h1 h2))
theorem step_append_in {ops : Array Oper} {o : Oper} {a : Act} {K : Act → World → Prop} {Q : Exit → Act → World → Prop} {F : Prop} (hgd : o.guard = none) (s x : Operand)
    (ho : o.op = .call { callee := .builtin .append, args := #[s, x], argTypes := #[t, t] }) (T : SlT P t e E bytes) (h : w.ownsRow base e E.size (.slice (some ⟨g, 0, none⟩) n cap) n cs) {i m c : Nat} {B : Option Addr} {ds : List Value}
    (hs : a.eval s = .slice (some ⟨g, 0, none⟩) i cap) (hx : a.eval x = .slice B m c) (hr : RowAt S w B ds) (hl : ds.length = m * E.size) (h1 : ∀ u ∈ ds, u.oneCell' = true) (him : i + m ≤ n)
    (H : ∀ w', w'.ownsRow base e E.size (.slice (some ⟨g, 0, none⟩) n cap) n (cs.take (i * E.size) ++ ds ++ cs.drop ((i + m) * E.size)) → w.grownBy w' (some g) → K (a.put o.dst (.slice (some ⟨g, 0, none⟩) (i + m) cap)) w') :
    if Region.wanted o (yielded ops a.tmps) = true then Oper.wp P o a w K Q else F := by
  obtain ⟨w', hrun, h1, h2, _⟩ := run_append_in (ty := o.type) T h hr hl h1 him
  have hw : Region.wanted o (yielded ops a.tmps) = true := by simp [Region.wanted, hgd]
  rw [if_pos hw]
  exact wp_append_run ho hs hx hrun (H w' h1 h2)

/-- 'clear(s[i:k])' of a row of the call's own. -/
theorem run_clear_in (T : SlT P t e E bytes) (hz1 : ∀ (i : TypeInfo) (z : Value), P.info? e = some i → i.zero = some z → ∀ u ∈ z.cells, u.oneCell' = true)
    (h : w.ownsRow base e E.size (.slice (some ⟨g, 0, none⟩) n cap) n cs) {i k c : Nat} {B : Option Addr} (hB : 0 < k → B = some ⟨g, i * E.size, none⟩) (hik : i + k ≤ n) :
    ∃ w' ds, (Builtin.clear_ #[t] ty #[.slice B k c]).run P w = .ok (.tuple #[]) w' ∧ w'.ownsRow base e E.size (.slice (some ⟨g, 0, none⟩) n cap) n (cs.take (i * E.size) ++ ds) ∧ w.grownBy w' (some g) ∧ w'.heap.size = w.heap.size := by
  obtain ⟨ti, z, hi, hz, hsz, hby, hzs⟩ := T.parts
  rcases Nat.eq_zero_or_pos k with rfl | hk
  · refine ⟨w, cs.drop (i * E.size), ?_, by rw [List.take_append_drop]; exact h, World.grownBy.refl w _, rfl⟩
    rcases B with _ | b <;> simp [Builtin.clear_, run_underlying T.und]
  · obtain rfl := hB hk
    have hl : (Builtin.zeroCells z.cells k).toList.length = k * E.size := by rw [Array.length_toList, size_zeroCells, hzs]
    have hle : i * E.size + (Builtin.zeroCells z.cells k).toList.length ≤ n * E.size := by rw [hl, ← Nat.add_mul]; exact Nat.mul_le_mul_right _ hik
    have h1 : ∀ u ∈ (Builtin.zeroCells z.cells k).toList, u.oneCell' = true := by
      intro u hu
      simp only [Builtin.zeroCells, Array.toList_map, List.mem_map] at hu
      obtain ⟨j, hj, rfl⟩ := hu
      have hpos : 0 < z.cells.size := by rw [hzs]; exact T.pos
      have hlt : j % z.cells.size < z.cells.size := Nat.mod_lt _ hpos
      have : z.cells[j % z.cells.size]! = z.cells[j % z.cells.size] := getElem!_pos z.cells _ hlt
      rw [this]
      exact hz1 ti z hi hz _ (Array.getElem_mem _)
    obtain ⟨w', hst, hown, hgr, hsize⟩ := row_splice (P := P) h hle h1
    refine ⟨w', _, ?_, by rw [List.append_assoc] at hown; exact hown, hgr, hsize⟩
    have hk' : k ≠ 0 := by omega
    simp [Builtin.clear_, run_underlying T.und, zeroValue, typeInfo, hi, hz, hk', hst]

theorem wpList_clear_in {ops : Array Oper} {rest : List Oper} {o : Oper} {a : Act} {Q : Exit → Act → World → Prop} (hgd : o.guard = none) (s : Operand)
    (ho : o.op = .call { callee := .builtin .clear, args := #[s], argTypes := #[t] }) (T : SlT P t e E bytes) (hz1 : ∀ (i : TypeInfo) (z : Value), P.info? e = some i → i.zero = some z → ∀ u ∈ z.cells, u.oneCell' = true)
    (h : w.ownsRow base e E.size (.slice (some ⟨g, 0, none⟩) n cap) n cs) {i k c : Nat} {B : Option Addr} (hs : a.eval s = .slice B k c) (hB : 0 < k → B = some ⟨g, i * E.size, none⟩) (hik : i + k ≤ n)
    (H : ∀ w' ds, w'.ownsRow base e E.size (.slice (some ⟨g, 0, none⟩) n cap) n (cs.take (i * E.size) ++ ds) → w.grownBy w' (some g) → wpList P ops Q rest (a.put o.dst (.tuple #[])) w') : wpList P ops Q (o :: rest) a w := by
  obtain ⟨w', ds, hrun, h1, h2, _⟩ := run_clear_in (ty := o.type) T hz1 h hB hik
  refine wpList_plain hgd fun K hK => ?_
  unfold Oper.wp execOp
  simp only [ho, resolve, invoke, builtin, Sem.run_bind, Sem.run_pure, Result.andThen_ok, List.map_toArray, List.map_cons, List.map_nil, hs]
  rw [show (Builtin.clear_ #[t] o.type #[.slice B k c]).run P w = _ from hrun]
  exact hK _ _ (H w' ds h1 h2)
end
end Go.Proofs.YtihcaoipemcddaaDoor
