/-
  A store into a slice of the call's own.
-/
import Derived.Test.YtihcaoipemcddaaDoorRow
namespace Go.Proofs.YtihcaoipemcddaaDoor
open Go.RowKit

section
variable {α : Type} {E : Enc α} {S : Nat → Prop} {w : World} {base n c g : Nat} {e : TypeId} {xs : List α}
theorem Own.block {A : Option Addr} (h : Own E S w base e (.slice A n c) xs) (hn : 0 < n) : ∃ g, A = some ⟨g, 0, none⟩ ∧ base ≤ g ∧ g < w.heap.size ∧ n = xs.length := by
  obtain ⟨cs, hown, _⟩ := h
  rcases hown.2 with ⟨hv, _⟩ | ⟨g, cap, cur, hv, hb, hg, _⟩
  · injection hv with h1 h2 h3; omega
  · injection hv with h1 h2 h3
    exact ⟨g, h1, hb, heap_lt hg, h2⟩
theorem Own.len {A : Option Addr} (h : Own E S w base e (.slice A n c) xs) : n = xs.length := by
  obtain ⟨A', c', hv, _⟩ := h.form
  injection hv
theorem Own.frozen (h : Own E S w base e (.slice (some ⟨g, 0, none⟩) n c) xs) (j : Nat) : w.frozen? ⟨g, j, none⟩ = false := by
  obtain ⟨cs, hown, _⟩ := h
  obtain ⟨cur, _, hg, _⟩ := row_cur (by have := hown; rw [(show n = xs.length from by rcases hown.2 with ⟨hv, _⟩ | ⟨_, _, _, hv, _⟩; cases hv; injection hv)] at this; exact this)
  simp [World.frozen?, hg]
theorem Own.toSl {T : Nat → Prop} {A : Option Addr} (h : Own E S w base e (.slice A n c) xs) (hs : ∀ b, S b → b < w.heap.size → T b) (hT : ∀ b, base ≤ b → b < w.heap.size → (Value.slice A n c).ownBlock = some b → T b) : Sl E T w A c xs := by
  have hn := h.len
  subst hn
  exact h.sl hs fun b hb hv => hT b hb (h.lt b hv).2 hv
/-- Element k's cells. -/
theorem Own.at_ {k : Nat} {x : α} (h : Own E S w base e (.slice (some ⟨g, 0, none⟩) n c) xs) (hx : xs[k]? = some x) :
    ∃ cs : List Value, E.rep S w cs x ∧ ∀ j u, cs[j]? = some u → w.cell? ⟨g, k * E.size + j, none⟩ = some u := by
  obtain ⟨cs, hown, hel⟩ := h
  refine ⟨_, hel.at_ hx, fun j u hu => ?_⟩
  rw [List.getElem?_take] at hu
  split at hu
  · rw [List.getElem?_drop] at hu
    have h1 := hown.cells (g := g) rfl _ u hu
    rw [Addr.add_lit] at h1
    simpa using h1
  · cases hu
/-- One cell written: the row of cells. -/
theorem Own.stored {j : Nat} {u : Value} {ys : List α} (h : Own E S w base e (.slice (some ⟨g, 0, none⟩) n c) xs) (hS : ¬ S g) (hl : ys.length = xs.length)
    (hset : ∀ cs, Elems E S w cs xs → Elems E S w (cs.set j u) ys) (hu : u.oneCell' = true) : Own E S (w.setCell ⟨g, j, none⟩ u) base e (.slice (some ⟨g, 0, none⟩) n c) ys := by
  have hn := h.len
  obtain ⟨cs, hown, hel⟩ := h
  subst hn
  have _ := hu
  refine ⟨cs.set j u, ?_, (hset cs hel).keep ((Agree.refl S w).set hS u)⟩
  rw [hl]
  exact (hown.stored j u).1
end

theorem run_store_E {α : Type} {E : Enc α} {P : Program} {t e : TypeId} {bytes : Nat} {S : Nat → Prop} {w : World} {base n c g k : Nat} {xs : List α} {y : α} {cs : List Value} {v : Value} (T : SlT P t e E bytes)
    (h : Own E S w base e (.slice (some ⟨g, 0, none⟩) n c) xs) (hk : k < n) (hcs : v.cells = cs.toArray) (hrep : E.rep S w cs y) (hS : ¬ S g) :
    ∃ w', (Instr.storeAt e (.pointer (some ⟨g, k * E.size, none⟩)) v).run P w = .ok () w' ∧ Own E S w' base e (.slice (some ⟨g, 0, none⟩) n c) (xs.set k y) ∧ w.grownBy w' (some g) := by
  have hn := h.len
  subst hn
  obtain ⟨ds, hown, hel⟩ := h
  obtain ⟨i, z, hi, hz, hsz, hby, hzs⟩ := T.parts
  have hl := E.len hrep
  have hle : k * E.size + cs.length ≤ xs.length * E.size := by
    rw [hl]
    have := Nat.mul_le_mul_right E.size (show k + 1 ≤ xs.length from hk)
    rw [Nat.add_mul, Nat.one_mul] at this
    exact this
  obtain ⟨w', hst, ho, hgr, _⟩ := row_splice (P := P) hown hle (E.one hrep)
  refine ⟨w', ?_, ⟨_, by rw [List.length_set]; exact ho, ?_⟩, hgr⟩
  · simp [Instr.storeAt, Instr.sureAddr, storeVar, hcs, sizeOf, typeInfo, hi, hsz, hl, hst]
  · have h1 := Elems.set hel hk hrep
    rw [hl, ← Nat.one_mul E.size, ← Nat.mul_assoc, Nat.mul_one, ← Nat.add_mul]
    exact h1.keep ((Agree.refl S w).grown hgr (by rintro _ ⟨⟩; exact hS))
theorem wp_store_run {P : Program} {o : Oper} {a : Act} {w w' : World} {K : Act → World → Prop} {Q : Exit → Act → World → Prop} {e : TypeId} {ad x : Operand} (ho : o.op = .store e ad x) {p v : Value} (had : a.eval ad = p) (hx : a.eval x = v)
    (hrun : (Instr.storeAt e p v).run P w = .ok () w') (H : K (a.put o.dst undef) w') : o.wp P a w K Q := by
  unfold Oper.wp execOp
  simp only [ho, had, hx, Sem.run_bind, hrun, Result.andThen_ok]
  exact H
theorem wpList_store_E {α : Type} {E : Enc α} {P : Program} {t e : TypeId} {bytes : Nat} {S : Nat → Prop} {w : World} {base n c g k off : Nat} {xs : List α} {y : α} {cs : List Value} {v : Value} {ops : Array Oper} {rest : List Oper} {o : Oper} {a : Act} {Q : Exit → Act → World → Prop}
    (hgd : o.guard = none) (ad x : Operand) (ho : o.op = .store e ad x) (T : SlT P t e E bytes) (h : Own E S w base e (.slice (some ⟨g, 0, none⟩) n c) xs) (hk : k < n) (hoff : k * E.size = off)
    (had : a.eval ad = .pointer (some ⟨g, off, none⟩)) (hv : a.eval x = v) (hcs : v.cells = cs.toArray) (hrep : E.rep S w cs y) (hS : ¬ S g)
    (H : ∀ w', Own E S w' base e (.slice (some ⟨g, 0, none⟩) n c) (xs.set k y) → w.grownBy w' (some g) → wpList P ops Q rest (a.put o.dst undef) w') : wpList P ops Q (o :: rest) a w := by
  subst hoff
  obtain ⟨w', hrun, h1, h2⟩ := run_store_E T h hk hcs hrep hS
  exact wpList_plain hgd fun _ hK => wp_store_run ho had hv hrun (hK _ _ (H w' h1 h2))

theorem u8_elems {S : Nat → Prop} {w : World} : ∀ (l : List UInt8), Elems .u8 S w (l.map fun b => .int .u8 (b.toNat : Int)) l
  | [] => rfl
  | _ :: l => ⟨[_], _, rfl, rfl, u8_elems l⟩
theorem u8_cell {S : Nat → Prop} {w : World} {base n c g k : Nat} {e : TypeId} {l : List UInt8} (h : Own .u8 S w base e (.slice (some ⟨g, 0, none⟩) n c) l) (hk : k < l.length) :
    w.cell? ⟨g, k, none⟩ = some (.int .u8 ((l.getD k 0).toNat : Int)) := by
  obtain ⟨cs, hr, hc⟩ := h.at_ (k := k) (List.getElem?_eq_getElem hk)
  cases hr
  have h1 := hc 0 _ rfl
  simp only [List.getD_eq_getElem?_getD, List.getElem?_eq_getElem hk, Option.getD_some]
  simpa [Enc.u8] using h1
theorem u8_store {S : Nat → Prop} {w : World} {base n c g k : Nat} {e : TypeId} {l : List UInt8} (h : Own .u8 S w base e (.slice (some ⟨g, 0, none⟩) n c) l) (u : UInt8) :
    Own .u8 S (w.setCell ⟨g, k, none⟩ (.int .u8 (u.toNat : Int))) base e (.slice (some ⟨g, 0, none⟩) n c) (l.set k u) := by
  refine ((h.u8any (T := fun _ => False)).stored (ys := l.set k u) (fun h => h) (by simp) (fun cs hel => ?_) rfl).u8any
  rw [u8_cells hel, ← List.map_set]
  exact u8_elems _
end Go.Proofs.YtihcaoipemcddaaDoor
