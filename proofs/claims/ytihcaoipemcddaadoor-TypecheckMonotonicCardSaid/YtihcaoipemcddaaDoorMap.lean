/-
  Maps from numbers that a call makes and asks: their entries said plainly. Of no program.
-/
import Derived.Test.YtihcaoipemcddaaDoorRdF
import Derived.MapKept
import Derived.Carry
namespace Go.Proofs.YtihcaoipemcddaaDoor
open Go.RowKit

/-! A map in the making: a store of a key that it lacks, a lookup. -/
def MapIs (w : World) (b : Nat) (es : List MapEntry) : Prop := w.heap[b]? = some (.map es.toArray es.length)
theorem MapIs.made (w : World) : MapIs (w.alloc (.map #[] 0)) w.heap.size [] := heap_alloc_new _ _
theorem MapIs.below {w w' : World} {b : Nat} {es : List MapEntry} (h : MapIs w b es) (hb : Below w.heap.size w w') : MapIs w' b es := (hb.block b (heap_lt h)).trans h
def keyI (n : Int) (v : Value) (i : Nat) : MapEntry := { key := .int .i64 n, val := v, born := i }
def findI (x : Int) : List MapEntry → Option Value
  | [] => none
  | e :: es => match e.key with
    | .int .i64 n => if x = n then some e.val else findI x es
    | _ => none
def intKeys : List MapEntry → Bool
  | [] => true
  | e :: es => (match e.key with | .int .i64 _ => true | _ => false) && intKeys es
theorem findNow_I {P : Program} {kt : TypeId} (hk : P.underlying kt = some (.int .i64)) (x : Int) : ∀ (es : List MapEntry) (i : Nat), intKeys es = true → ∃ r, Instr.findNow (.int .i64) (.int .i64 x) es i = some r ∧ r.map (·.2) = findI x es
  | [], _, _ => ⟨none, rfl, rfl⟩
  | e :: es, i, h => by
    obtain ⟨key, val, born⟩ := e
    simp only [intKeys, Bool.and_eq_true] at h
    obtain ⟨h1, h2⟩ := h
    split at h1
    · rename_i n
      by_cases hx : x = n
      · subst hx
        exact ⟨some (i, val), by simp [Instr.findNow, Instr.sameNow], by simp [findI]⟩
      · obtain ⟨r, hr, hf⟩ := findNow_I hk x es (i + 1) h2
        refine ⟨r, ?_, by simp [findI, hx, hf]⟩
        have hb : (x == n) = false := by simpa using hx
        simp only [Instr.findNow, Instr.sameNow, if_true, hb]
        exact hr
    · cases h1
theorem findNow_none {P : Program} {kt : TypeId} (hk : P.underlying kt = some (.int .i64)) (x : Int) (es : List MapEntry) (h : intKeys es = true) (hf : findI x es = none) : Instr.findNow (.int .i64) (.int .i64 x) es 0 = some none := by
  obtain ⟨r, hr, hm⟩ := findNow_I hk x es 0 h
  rw [hf, Option.map_eq_none_iff] at hm
  rw [hr, hm]
theorem intKeys_snoc (x : Int) (v : Value) : ∀ (es : List MapEntry) (i : Nat), intKeys es = true → intKeys (es ++ [keyI x v i]) = true
  | [], _, _ => rfl
  | e :: es, i, h => by
    simp only [List.cons_append, intKeys, Bool.and_eq_true] at h ⊢
    exact ⟨h.1, intKeys_snoc x v es i h.2⟩
section
variable {P : Program} {t kt et : TypeId} {w : World} {b : Nat} {es : List MapEntry}
theorem run_lookup_I (ht : P.underlying t = some (.map kt et)) (hk : P.underlying kt = some (.int .i64)) (h : MapIs w b es) (hi : intKeys es = true) {z : Value} (hz : (zeroValue et).run P w = .ok z w) (x : Int) (ok : Bool) :
    (Instr.lookup t (.map (some b)) (.int .i64 x) ok).run P w = .ok (if ok then .tuple #[(findI x es).getD z, .bool (findI x es).isSome] else (findI x es).getD z) w := by
  obtain ⟨r, hr, hm⟩ := findNow_I hk x es 0 hi
  have hq : ∀ e, (Instr.checkKey e 10000 kt (.int .i64 x)).run P w = .ok () w := fun e => MapKept.run_checkKey hk (d := .int .i64) (k := .int .i64 x) rfl e 9999
  have hf := MapKept.run_findKey (w := w) (k := .int .i64 x) hk (l := es) hr
  rw [← hm]
  cases r with
  | none => cases ok <;> simp [Instr.lookup, run_underlying ht, MapKept.run_getObj_map h, hq, hf, hz, Result.andThen]
  | some v => cases ok <;> simp [Instr.lookup, run_underlying ht, MapKept.run_getObj_map h, hq, hf, Result.andThen]
theorem run_insert_I (ht : P.underlying t = some (.map kt et)) (hk : P.underlying kt = some (.int .i64)) (h : MapIs w b es) (hi : intKeys es = true) (x : Int) (v : Value) (hn : findI x es = none) :
    ∃ w', (Instr.mapUpdate t (.map (some b)) (.int .i64 x) v).run P w = .ok () w' ∧ MapIs w' b (es ++ [keyI x v es.length]) ∧ w.grownBy w' (some b) := by
  have hq : ∀ e, (Instr.checkKey e 10000 kt (.int .i64 x)).run P w = .ok () w := fun e => MapKept.run_checkKey hk (d := .int .i64) (k := .int .i64 x) rfl e 9999
  have hf := MapKept.run_findKey (w := w) (k := .int .i64 x) hk (l := es) (findNow_none hk x es hi hn)
  refine ⟨{ w with heap := w.heap.setIfInBounds b (.map (es.toArray.push { key := .int .i64 x, val := v, born := es.length }) (es.length + 1)) }, ?_, ?_, ?_⟩
  · simp [Instr.mapUpdate, run_underlying ht, MapKept.run_getObj_map h, hq, hf, MapKept.run_setObj_map _ h, Result.andThen]
  · unfold MapIs
    rw [Array.getElem?_setIfInBounds_self_of_lt (heap_lt h)]
    simp [keyI]
  · exact ⟨rfl, rfl, rfl, by simp, fun k _ hne => by simp only [Array.getElem?_setIfInBounds]; rw [if_neg (fun e => hne (by rw [e]))]⟩
/-- A lookup within a drawn region, at the world as it stands. -/
theorem step_lookup {ops : Array Oper} {o : Oper} {a : Act} {K : Act → World → Prop} {Q : Exit → Act → World → Prop} {F : Prop} (hgd : o.guard = none) {m x : Operand} {ok : Bool} (ho : o.op = .lookup t m x ok) {u k v : Value} (hm : a.eval m = u) (hx : a.eval x = k)
    (hrun : (Instr.lookup t u k ok).run P w = .ok v w) (H : K (a.put o.dst v) w) : if Region.wanted o (yielded ops a.tmps) = true then Oper.wp P o a w K Q else F := by
  have hw : Region.wanted o (yielded ops a.tmps) = true := by simp [Region.wanted, hgd]
  rw [if_pos hw]
  unfold Oper.wp execOp
  simp only [ho, hm, hx, Sem.run_bind, hrun, Result.andThen_ok]
  exact H
theorem wpList_insert_I {ops : Array Oper} {rest : List Oper} {o : Oper} {a : Act} {Q : Exit → Act → World → Prop} (hg : o.guard = none) (m x v : Operand) (hop : o.op = Op.insert t m x v)
    (ht : P.underlying t = some (.map kt et)) (hk : P.underlying kt = some (.int .i64)) (h : MapIs w b es) (hi : intKeys es = true) (hm : a.eval m = .map (some b)) {n : Int} (hx : a.eval x = .int .i64 n) {u : Value} (hv : a.eval v = u) (hn : findI n es = none)
    (H : ∀ w', MapIs w' b (es ++ [keyI n u es.length]) → w.grownBy w' (some b) → wpList P ops Q rest (a.put o.dst undef) w') : wpList P ops Q (o :: rest) a w := by
  refine wpList_plain hg fun K' hK' => ?_
  obtain ⟨w', hrun, r1, r2⟩ := run_insert_I ht hk h hi n u hn
  unfold Oper.wp
  simp [execOp, hop, hm, hx, hv, hrun, Result.andThen]
  exact hK' _ _ (H w' r1 r2)
end
end Go.Proofs.YtihcaoipemcddaaDoor
