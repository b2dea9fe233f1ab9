/-
  Texts of this claim, merged: Map, Q3. Conditions: as each theorem says.
-/
import Derived.MapKept
import Derived.Carry
import Derived.Test.YtagadbdbbglddaaGreatDoorT1
import Derived.Test.YtagadbdbbglddaaGreatDoorT2
import Derived.Test.YtagadbdbbglddaaGreatDoorT3
import Derived.Test.YtagadbdbbglddaaGreatDoorT4
set_option linter.unusedSimpArgs false
set_option linter.unusedVariables false
namespace Go.Proofs.YtagadbdbbglddaaGreatDoor
open Go.RowKit

/-! A map in the making: a store of a key that it lacks, a lookup. -/
def MapIs (w : World) (b : Nat) (es : List MapEntry) : Prop := w.heap[b]? = some (.map es.toArray es.length)
theorem MapIs.made (w : World) : MapIs (w.alloc (.map #[] 0)) w.heap.size [] := heap_alloc_new _ _
theorem MapIs.below {w w' : World} {b : Nat} {es : List MapEntry} (h : MapIs w b es) (hb : Below w.heap.size w w') : MapIs w' b es := (hb.block b (heap_lt h)).trans h
def keyI (n : Int) (v : Value) (i : Nat) : MapEntry := { key := .int .i64 n, val := v, born := i }
def findI (x : Int) : List MapEntry → Option Value
  | [] => none
  | e :: es => match e.key with
    | .int .i64 n => if x = n then some e.val else findI x es
    | _ => none
def intKeys : List MapEntry → Bool
  | [] => true
  | e :: es => (match e.key with | .int .i64 _ => true | _ => false) && intKeys es
theorem findNow_I {P : Program} {kt : TypeId} (hk : P.underlying kt = some (.int .i64)) (x : Int) : ∀ (es : List MapEntry) (i : Nat), intKeys es = true → ∃ r, Instr.findNow (.int .i64) (.int .i64 x) es i = some r ∧ r.map (·.2) = findI x es
  | [], _, _ => ⟨none, rfl, rfl⟩
  | e :: es, i, h => by
    obtain ⟨key, val, born⟩ := e
    simp only [intKeys, Bool.and_eq_true] at h
    obtain ⟨h1, h2⟩ := h
    split at h1
    · rename_i n
      by_cases hx : x = n
      · subst hx
        exact ⟨some (i, val), by simp [Instr.findNow, Instr.sameNow], by simp [findI]⟩
      · obtain ⟨r, hr, hf⟩ := findNow_I hk x es (i + 1) h2
        refine ⟨r, ?_, by simp [findI, hx, hf]⟩
        have hb : (x == n) = false := by simpa using hx
        simp only [Instr.findNow, Instr.sameNow, if_true, hb]
        exact hr
    · cases h1
theorem findNow_none {P : Program} {kt : TypeId} (hk : P.underlying kt = some (.int .i64)) (x : Int) (es : List MapEntry) (h : intKeys es = true) (hf : findI x es = none) : Instr.findNow (.int .i64) (.int .i64 x) es 0 = some none := by
  obtain ⟨r, hr, hm⟩ := findNow_I hk x es 0 h
  rw [hf, Option.map_eq_none_iff] at hm
  rw [hr, hm]
section
variable {P : Program} {t kt et : TypeId} {w : World} {b : Nat} {es : List MapEntry}
theorem run_lookup_I (ht : P.underlying t = some (.map kt et)) (hk : P.underlying kt = some (.int .i64)) (h : MapIs w b es) (hi : intKeys es = true) {z : Value} (hz : (zeroValue et).run P w = .ok z w) (x : Int) (ok : Bool) :
    (Instr.lookup t (.map (some b)) (.int .i64 x) ok).run P w = .ok (if ok then .tuple #[(findI x es).getD z, .bool (findI x es).isSome] else (findI x es).getD z) w := by
  obtain ⟨r, hr, hm⟩ := findNow_I hk x es 0 hi
  have hq : ∀ e, (Instr.checkKey e 10000 kt (.int .i64 x)).run P w = .ok () w := fun e => MapKept.run_checkKey hk (d := .int .i64) (k := .int .i64 x) rfl e 9999
  have hf := MapKept.run_findKey (w := w) (k := .int .i64 x) hk (l := es) hr
  rw [← hm]
  cases r with
  | none => cases ok <;> simp [Instr.lookup, run_underlying ht, MapKept.run_getObj_map h, hq, hf, hz, Result.andThen]
  | some v => cases ok <;> simp [Instr.lookup, run_underlying ht, MapKept.run_getObj_map h, hq, hf, Result.andThen]
theorem run_insert_I (ht : P.underlying t = some (.map kt et)) (hk : P.underlying kt = some (.int .i64)) (h : MapIs w b es) (hi : intKeys es = true) (x : Int) (v : Value) (hn : findI x es = none) :
    ∃ w', (Instr.mapUpdate t (.map (some b)) (.int .i64 x) v).run P w = .ok () w' ∧ MapIs w' b (es ++ [keyI x v es.length]) ∧ w.grownBy w' (some b) := by
  have hq : ∀ e, (Instr.checkKey e 10000 kt (.int .i64 x)).run P w = .ok () w := fun e => MapKept.run_checkKey hk (d := .int .i64) (k := .int .i64 x) rfl e 9999
  have hf := MapKept.run_findKey (w := w) (k := .int .i64 x) hk (l := es) (findNow_none hk x es hi hn)
  refine ⟨{ w with heap := w.heap.setIfInBounds b (.map (es.toArray.push { key := .int .i64 x, val := v, born := es.length }) (es.length + 1)) }, ?_, ?_, ?_⟩
  · simp [Instr.mapUpdate, run_underlying ht, MapKept.run_getObj_map h, hq, hf, MapKept.run_setObj_map _ h, Result.andThen]
  · unfold MapIs
    rw [Array.getElem?_setIfInBounds_self_of_lt (heap_lt h)]
    simp [keyI]
  · exact ⟨rfl, rfl, rfl, by simp, fun k _ hne => by simp only [Array.getElem?_setIfInBounds]; rw [if_neg (fun e => hne (by rw [e]))]⟩
/-- A lookup within a drawn region, at the world as it stands. -/
theorem step_lookup {ops : Array Oper} {o : Oper} {a : Act} {K : Act → World → Prop} {Q : Exit → Act → World → Prop} {F : Prop} (hgd : o.guard = none) {m x : Operand} {ok : Bool} (ho : o.op = .lookup t m x ok) {u k v : Value} (hm : a.eval m = u) (hx : a.eval x = k)
    (hrun : (Instr.lookup t u k ok).run P w = .ok v w) (H : K (a.put o.dst v) w) : if Region.wanted o (yielded ops a.tmps) = true then Oper.wp P o a w K Q else F := by
  have hw : Region.wanted o (yielded ops a.tmps) = true := by simp [Region.wanted, hgd]
  rw [if_pos hw]
  unfold Oper.wp execOp
  simp only [ho, hm, hx, Sem.run_bind, hrun, Result.andThen_ok]
  exact H
theorem wpList_insert_I {ops : Array Oper} {rest : List Oper} {o : Oper} {a : Act} {Q : Exit → Act → World → Prop} (hg : o.guard = none) (m x v : Operand) (hop : o.op = Op.insert t m x v)
    (ht : P.underlying t = some (.map kt et)) (hk : P.underlying kt = some (.int .i64)) (h : MapIs w b es) (hi : intKeys es = true) (hm : a.eval m = .map (some b)) {n : Int} (hx : a.eval x = .int .i64 n) {u : Value} (hv : a.eval v = u) (hn : findI n es = none)
    (H : ∀ w', MapIs w' b (es ++ [keyI n u es.length]) → w.grownBy w' (some b) → wpList P ops Q rest (a.put o.dst undef) w') : wpList P ops Q (o :: rest) a w := by
  refine wpList_plain hg fun K' hK' => ?_
  obtain ⟨w', hrun, r1, r2⟩ := run_insert_I ht hk h hi n u hn
  unfold Oper.wp
  simp [execOp, hop, hm, hx, hv, hrun, Result.andThen]
  exact hK' _ _ (H w' r1 r2)
end
end Go.Proofs.YtagadbdbbglddaaGreatDoor
namespace Go.Proofs.YtagadbdbbglddaaGreatDoor
open Go.RowKit

def formV (kw : ByteArray) (col : Bool) (mk n : Int) : Value := .agg #[.string kw, .bool col, .int .i64 mk, .int .i64 n]
def formsE : List MapEntry := [keyI 1 (formV ⟨#[99, 111, 117, 110, 116]⟩ false 0 1) 0, keyI 2 (formV ⟨#[116, 111, 116, 97, 108]⟩ true 0 1) 1, keyI 3 (formV ⟨#[109, 111, 109, 101, 110, 116]⟩ true 6 1) 2, keyI 4 (formV ⟨#[103, 114, 111, 117, 112, 115]⟩ true 0 1) 3,
  keyI 5 (formV ⟨#[100, 105, 115, 116, 105, 110, 99, 116]⟩ true 0 1) 4, keyI 6 (formV ⟨#[115, 109, 97, 108, 108, 101, 115, 116]⟩ true 65536 1) 5, keyI 7 (formV ⟨#[112, 97, 105, 114, 115]⟩ false 0 2) 6]
def kwF (k : Int) : ByteArray := if k = 1 then ⟨#[99, 111, 117, 110, 116]⟩ else if k = 2 then ⟨#[116, 111, 116, 97, 108]⟩ else if k = 3 then ⟨#[109, 111, 109, 101, 110, 116]⟩ else if k = 4 then ⟨#[103, 114, 111, 117, 112, 115]⟩ else if k = 5 then ⟨#[100, 105, 115, 116, 105, 110, 99, 116]⟩ else if k = 6 then ⟨#[115, 109, 97, 108, 108, 101, 115, 116]⟩ else if k = 7 then ⟨#[112, 97, 105, 114, 115]⟩ else ⟨#[]⟩
def knownB (k : Int) : Bool := decide (1 ≤ k ∧ k ≤ 7)
def nFormF (k : Int) : Int := if k = 7 then 2 else if 1 ≤ k ∧ k ≤ 6 then 1 else 0
set_option maxRecDepth 100000 in
theorem forms_find (k : Int) : (findI k formsE).getD (formV ⟨#[]⟩ false 0 0) = formV (kwF k) (hasColB k) (maxKF k) (nFormF k) ∧ (findI k formsE).isSome = knownB k := by
  by_cases h : 1 ≤ k ∧ k ≤ 7
  · rcases (by omega : k = 1 ∨ k = 2 ∨ k = 3 ∨ k = 4 ∨ k = 5 ∨ k = 6 ∨ k = 7) with rfl | rfl | rfl | rfl | rfl | rfl | rfl <;> exact ⟨rfl, rfl⟩
  · have hn : findI k formsE = none := by
      unfold formsE keyI
      simp only [findI]
      repeat (rw [if_neg (by omega)])
    rw [hn]
    refine ⟨?_, ?_⟩
    · unfold kwF hasColB maxKF nFormF
      rw [if_neg (by omega), if_neg (by omega), if_neg (by omega), if_neg (by omega), if_neg (by omega), if_neg (by omega), if_neg (by omega), if_neg (by omega), if_neg (by omega), if_neg (by omega), if_neg (by omega), decide_eq_false (by omega)]
      rfl
    · unfold knownB
      rw [decide_eq_false h]; rfl
set_option maxRecDepth 100000 in
theorem formsP (w : World) : Calls Tryz.prog 31 #[] w fun e w' => ∃ b, e = .returned (.map (some b)) ∧ w.heap.size ≤ b ∧ MapIs w' b formsE ∧ Below w.heap.size w w' := by
  have hmm := @run_makeMap Tryz.prog
  have hM := MapIs.made w
  have hB : Below w.heap.size w (w.alloc (.map #[] 0)) := (by repeat' (first | with_reducible exact Below.refl _ _ | with_reducible assumption | with_reducible refine Below.setCell ?_ ?_ _ | with_reducible refine Below.drew ?_ | with_reducible refine below_drewN ?_ _ | with_reducible refine Below.alloc ?_ ?_ _ | (rintro _ ⟨⟩; simp <;> omega) | omega | (simp <;> omega)))
  have hz0 : w.heap.size < (w.alloc (.map #[] 0)).heap.size := by simp
  go_enter Tryz.func31, Tryz.ntmps31
  go_wp2_with (refine wpList_insert_I (by rfl) (.tmp 1) _ _ rfl Tryz.underlying84 Tryz.underlying3 hM (by rfl) rfl (by rfl) (by rfl) (by rfl) ?_; clear hM; intro w1 hM hg; replace hB := hB.grown hg (Nat.le_of_lt hz0) (by rintro k ⟨⟩; exact Nat.le_refl _); replace hz0 := Nat.lt_of_lt_of_le hz0 hg.size; clear hg)
  go_ret
  exact ⟨w.heap.size, rfl, Nat.le_refl _, hM, hB⟩
end Go.Proofs.YtagadbdbbglddaaGreatDoor
