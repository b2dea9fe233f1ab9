/-
  Texts of this claim, merged: Q16, Map, Q3. Conditions: as each theorem says.
-/
import Derived.MapKept
import Derived.Carry
import Derived.Test.YtagadbdbbglddaaGreatDoorU1
import Derived.Test.YtagadbdbbglddaaGreatDoorU2
import Derived.Test.YtagadbdbbglddaaGreatDoorU3
import Derived.Test.YtagadbdbbglddaaGreatDoorU4
import Derived.Test.YtagadbdbbglddaaGreatDoorU5
set_option linter.unusedSimpArgs false
set_option linter.unusedVariables false
namespace Go.Proofs.YtagadbdbbglddaaGreatDoor
open Go.RowKit

theorem times_no {a b : Nat} (ha : a ≠ 0) : 4611686018427387903 / a < b ↔ ¬ a * b < 4611686018427387904 := by
  rw [Nat.div_lt_iff_lt_mul (by omega), Nat.mul_comm]
  omega
theorem timesRef {a b z : Nat} (w : World) (hz : a * b = z) (ha : a < 4611686018427387904) (hb : b ≤ 255) :
    Calls Tryz.prog 83 #[.int .i64 a, .int .i64 b] w fun e w' => e = .returned (.tuple #[.int .i64 ((if under62 z then z else 0 : Nat) : Int), .bool (under62 z)]) ∧ w = w' := by
  rcases Nat.eq_zero_or_pos a with rfl | hpos
  · obtain rfl : z = 0 := by omega
    rw [show under62 0 = true from rfl, if_pos rfl]
    go_enter Tryz.func83, Tryz.ntmps83
    go_wp2_with fail
    go_ret2
    exact ⟨by simp, rfl⟩
  · have hne : ((a : Int) != 0) = true := by simp; omega
    have hne' : ¬ (a : Int) = 0 := by omega
    have hdiv : (4611686018427387903 : Int).tdiv (a : Int) = ((4611686018427387903 / a : Nat) : Int) := rfl
    have hno := times_no (a := a) (b := b) (by omega)
    rw [hz] at hno
    obtain ⟨d, hd⟩ : ∃ d, 4611686018427387903 / a = d := ⟨_, rfl⟩
    have hdb : d ≤ 4611686018427387903 := by rw [← hd]; exact Nat.div_le_self _ _
    have hwr : wrap64 (d : Int) = (d : Int) := IntWalk.wrap64_in _ (by omega)
    clear hdb
    rw [hd] at hno hdiv
    have HZ := Lib.hid hz
    clear hz hd
    by_cases hu : z < 4611686018427387904
    · have hlt : ¬ (d : Int) < (b : Int) := by omega
      rw [show under62 z = true from decide_eq_true hu, if_pos rfl]
      have hzz : ((a : Int) * (b : Int)) = (z : Int) := by rw [← HZ.out, Int.natCast_mul]
      clear hno
      go_enter Tryz.func83, Tryz.ntmps83
      go_wp2_with fail
      go_ret2
      exact ⟨rfl, rfl⟩
    · have hlt : (d : Int) < (b : Int) := by omega
      rw [show under62 z = false from decide_eq_false hu, if_neg (by simp)]
      clear hno
      go_enter Tryz.func83, Tryz.ntmps83
      go_wp2_with fail
      go_ret2
      exact ⟨rfl, rfl⟩
theorem timesI {a b : Int} {x y z : Nat} (w : World) (hx : a = x) (hy : b = y) (hz : x * y = z) (ha : x < 4611686018427387904) (hb : y ≤ 255) :
    Calls Tryz.prog 83 #[.int .i64 a, .int .i64 b] w fun e w' => e = .returned (.tuple #[.int .i64 ((if under62 z then z else 0 : Nat) : Int), .bool (under62 z)]) ∧ w = w' := by
  subst hx; subst hy
  exact timesRef w hz ha hb
/-- What power keeps: the product, while it is below the limit. -/
def PowOk (n m j : Nat) (z : Nat) (o : Bool) : Prop := okTo n m j = o ∧ z < 4611686018427387904 ∧ (o = true → z = n * m ^ j)
set_option maxHeartbeats 2000000 in
theorem powerRef {n m k P : Nat} (w : World) (hn : n ≤ 65536) (hm : m ≤ 255) (hk : k ≤ 6) (hP : n * m ^ k = P) :
    Calls Tryz.prog 44 #[.int .i64 n, .int .i64 m, .int .i64 k] w fun e w' => (∃ z : Nat, e = .returned (.tuple #[.int .i64 z, .bool (under62 P)]) ∧ (under62 P = true → z = P)) ∧ w = w' := by
  have HO := Lib.hid (okTo_eq (m := m) hn k)
  have HP := Lib.hid hP
  clear hP
  go_enter Tryz.func44, Tryz.ntmps44
  go_wp2_with fail
  go_loop [8, 9, 10] (fun v b i => ∃ (j z : Nat) (o : Bool), j ≤ k ∧ i = .int .i64 j ∧ v = .int .i64 z ∧ b = .bool o ∧ PowOk n m j z o) (fun _ _ i => k - (intOf i).toNat)
  case atStart => exact ⟨0, n, true, Nat.zero_le _, rfl, rfl, rfl, decide_eq_true (by omega), by omega, fun _ => by simp⟩
  case round =>
    obtain ⟨j, z, o, hj, rfl, rfl, rfl, hok⟩ := hrel
    have Hok := Lib.hid hok
    clear hok
    have hj0 : (0 : Int) ≤ (j : Int) := by omega
    by_cases hlt : j < k
    · have hj1 : (j : Int) < (k : Int) := by omega
      obtain ⟨y, hy⟩ : ∃ y, z * m = y := ⟨_, rfl⟩
      obtain ⟨x, hx⟩ : ∃ x : Nat, (if under62 y then y else 0) = x := ⟨_, rfl⟩
      have HY := Lib.hid hy
      have HX := Lib.hid hx
      clear hy hx
      cases o with
      | true =>
        go_wp2_with (go_at_call 83; refine (timesI (z := y) _ rfl rfl HY.out Hok.out.2.1 hm).mono ?_; rw [HX.out]; rintro e w3 ⟨rfl, rfl⟩)
        go_round
        case rel =>
          obtain ⟨h1, h2, h3⟩ := Hok.out
          have hz := h3 rfl
          have hyy : y = n * m ^ (j + 1) := by rw [← HY.out, hz, Nat.pow_succ, Nat.mul_assoc]
          refine ⟨j + 1, x, under62 y, by omega, by go_num, rfl, rfl, ?_, ?_, ?_⟩
          · rw [okTo, h1, hyy]; rfl
          · rw [← HX.out]; split
            · rename_i h; exact of_decide_eq_true h
            · omega
          · intro h; rw [← HX.out, if_pos h, hyy]
        case measure => simp [intOf]; omega
      | false =>
        go_wp2_with (go_at_call 83; refine (timesI (z := y) _ rfl rfl HY.out Hok.out.2.1 hm).mono ?_; rw [HX.out]; rintro e w3 ⟨rfl, rfl⟩)
        go_round
        case rel =>
          obtain ⟨h1, h2, h3⟩ := Hok.out
          refine ⟨j + 1, x, false, by omega, by go_num, rfl, rfl, ?_, ?_, ?_⟩
          · rw [okTo, h1]; rfl
          · rw [← HX.out]; split
            · rename_i h; exact of_decide_eq_true h
            · omega
          · intro h; cases h
        case measure => simp [intOf]; omega
    · have hj1 : ¬ (j : Int) < (k : Int) := by omega
      obtain rfl : j = k := by omega
      obtain ⟨h1, h2, h3⟩ := Hok.out
      obtain rfl : o = under62 P := by rw [← h1, HO.out, HP.out]
      have H3 := Lib.hid h3
      clear h1 h2 h3
      go_wp2_with fail
      go_ret2
      exact ⟨⟨z, rfl, fun h => by rw [H3.out h, HP.out]⟩, rfl⟩
/-- Numbers in a slice that the call made. -/
def NumRes (w : World) (xs : List Int) (e : Ending) (w' : World) : Prop := ∃ B d, e = .returned (.slice B xs.length d) ∧ Own Enc.i64 (fun _ => False) w' w.heap.size 2 (.slice B xs.length d) xs ∧ Below w.heap.size w w'
theorem bucketsF_at (l : List Cd) (col rows : Int) {j : Nat} (h : j < 16) : (bucketsF l col rows)[j]? = some (bucketF l col rows j) := by unfold bucketsF; rw [List.getElem?_map, List.getElem?_range h]; rfl
set_option maxRecDepth 100000 in
set_option maxHeartbeats 4000000 in
theorem bucketsRef {l : List Cd} {A : Option Addr} {c : Nat} {S : Nat → Prop} {col : Int} (rows : Int) (w : World) (h : Sl cdE S w A c l) (hv : ∀ x ∈ l, ValidCd x) (h0 : 0 ≤ col) (h3 : col ≤ 3) :
    Calls Tryz.prog 42 #[.slice A l.length c, .int .i64 col, .int .i64 rows] w (NumRes w (bucketsF l col rows)) := by
  have H := Lib.hid h
  have HV := Lib.hid hv
  clear h hv
  go_enter Tryz.func42, Tryz.ntmps42
  go_wp2_with fail
  go_loopw [7, 8] (fun v i wr => ∃ (j : Nat) (B : Option Addr) (d : Nat) (ys : List Int), j ≤ 16 ∧ i = .int .i64 j ∧ ys = (bucketsF l col rows).take j ∧ v = .slice B ys.length d ∧ Own Enc.i64 (fun _ => False) wr w.heap.size 2 (.slice B ys.length d) ys ∧ Below w.heap.size w wr) (fun _ i _ => 16 - (intOf i).toNat)
  case atStart => exact ⟨0, some ⟨w.heap.size, 0, none⟩, 0, [], Nat.zero_le _, rfl, rfl, rfl, Own.litAt _ _ _ _ rfl (Nat.le_refl _), (Below.refl _ _).alloc (Nat.le_refl _) _⟩
  case round =>
    obtain ⟨j, B, d, ys, hj, rfl, hys, rfl, ho, hb⟩ := hrel
    have Hys := Lib.hid hys
    have HO := Lib.hid ho
    have HB := Lib.hid hb
    have hzr := hb.size
    have lo := ho.lt
    have hl16 : ys.length ≤ 16 := by rw [hys, List.length_take]; omega
    have H2 := Lib.hid (H.out.keep (Below.agree hb))
    have hj0 : (0 : Int) ≤ (j : Int) := by omega
    clear hys ho hb
    by_cases hlt : j < 16
    · have hj1 : (j : Int) < 16 := by omega
      have hS := Lib.hid (take_snocR (bucketsF_at l col rows hlt))
      cases hsat : satB l with
      | false =>
        have HVV := Lib.hid (show bucketF l col rows j = 0 by unfold bucketF; rw [hsat, Bool.and_false]; rfl)
        go_wp2_with (first | (go_at_call 43; refine (satRef _ H2.out HV.out).mono ?_; rw [hsat]; rintro e w4 ⟨rfl, rfl⟩) | (at_builtin; go_must ((refine wpList_append_E (S := fun b => b = wr.heap.size) rfl (.tmp 24) (.tmp 26) rfl i64sT (base := w.heap.size) (v := .slice B ys.length d) (xs := ys) (ys := [0]) (by rfl) (by rfl) rfl (nz := ys.length + 1) (by simp) ((HO.out.flat i64_flat).alloc _) (Sl.litAt (S := fun b => b = wr.heap.size) rfl (.single rfl) (by unfold maxLen; simp) (fun _ h _ => h) rfl) (by unfold maxLen; simp; omega) (by simp; omega) (by simp; omega) (fun g hg (hs : g = wr.heap.size) => absurd (lo g hg).2 (by omega)) ?_; intro A6 c6 w6 hown6 hg6 hor6))))
        go_roundw
        case rel => exact ⟨j + 1, A6, c6, ys ++ [0], by omega, by go_num, by rw [hS.out, Hys.out, HVV.out], by simp, by rw [List.length_append]; exact hown6.flat i64_flat, (HB.out.alloc hzr _).grown hg6 (by simp; omega) (fun k hk => (lo k hk).1)⟩
        case measure => simp [intOf]; omega
      | true =>
        cases hpos : possB l col j with
        | false =>
          have HVV := Lib.hid (show bucketF l col rows j = 0 by unfold bucketF; rw [← possB_in h0 h3, hpos]; rfl)
          go_wp2_with (first | (go_at_call 43; refine (satRef _ H2.out HV.out).mono ?_; rw [hsat]; rintro e w4 ⟨rfl, rfl⟩) | (go_at_call 82; refine (possRef _ _ _ H2.out).mono ?_; rw [hpos]; rintro e w5 ⟨rfl, rfl⟩) | (at_builtin; go_must ((refine wpList_append_E (S := fun b => b = wr.heap.size) rfl (.tmp 24) (.tmp 26) rfl i64sT (base := w.heap.size) (v := .slice B ys.length d) (xs := ys) (ys := [0]) (by rfl) (by rfl) rfl (nz := ys.length + 1) (by simp) ((HO.out.flat i64_flat).alloc _) (Sl.litAt (S := fun b => b = wr.heap.size) rfl (.single rfl) (by unfold maxLen; simp) (fun _ h _ => h) rfl) (by unfold maxLen; simp; omega) (by simp; omega) (by simp; omega) (fun g hg (hs : g = wr.heap.size) => absurd (lo g hg).2 (by omega)) ?_; intro A6 c6 w6 hown6 hg6 hor6))))
          go_roundw
          case rel => exact ⟨j + 1, A6, c6, ys ++ [0], by omega, by go_num, by rw [hS.out, Hys.out, HVV.out], by simp, by rw [List.length_append]; exact hown6.flat i64_flat, (HB.out.alloc hzr _).grown hg6 (by simp; omega) (fun k hk => (lo k hk).1)⟩
          case measure => simp [intOf]; omega
        | true =>
          have HVV := Lib.hid (show bucketF l col rows j = rows by unfold bucketF; rw [← possB_in h0 h3, hpos, hsat]; rfl)
          go_wp2_with (first | (go_at_call 43; refine (satRef _ H2.out HV.out).mono ?_; rw [hsat]; rintro e w4 ⟨rfl, rfl⟩) | (go_at_call 82; refine (possRef _ _ _ H2.out).mono ?_; rw [hpos]; rintro e w5 ⟨rfl, rfl⟩) | (at_builtin; go_must ((refine wpList_append_E (S := fun b => b = wr.heap.size) rfl (.tmp 24) (.tmp 26) rfl i64sT (base := w.heap.size) (v := .slice B ys.length d) (xs := ys) (ys := [rows]) (by rfl) (by rfl) rfl (nz := ys.length + 1) (by simp) ((HO.out.flat i64_flat).alloc _) (Sl.litAt (S := fun b => b = wr.heap.size) rfl (.single rfl) (by unfold maxLen; simp) (fun _ h _ => h) rfl) (by unfold maxLen; simp; omega) (by simp; omega) (by simp; omega) (fun g hg (hs : g = wr.heap.size) => absurd (lo g hg).2 (by omega)) ?_; intro A6 c6 w6 hown6 hg6 hor6))))
          go_roundw
          case rel => exact ⟨j + 1, A6, c6, ys ++ [rows], by omega, by go_num, by rw [hS.out, Hys.out, HVV.out], by simp, by rw [List.length_append]; exact hown6.flat i64_flat, (HB.out.alloc hzr _).grown hg6 (by simp; omega) (fun k hk => (lo k hk).1)⟩
          case measure => simp [intOf]; omega
    · have hj1 : ¬ (j : Int) < 16 := by omega
      obtain rfl : j = 16 := by omega
      have e16 : ys = bucketsF l col rows := by rw [Hys.out, List.take_of_length_le (by simp [bucketsF])]
      go_wp2_with fail
      go_ret
      exact ⟨B, d, by first | rfl | rw [e16], by rw [← e16]; exact HO.out, HB.out⟩
end Go.Proofs.YtagadbdbbglddaaGreatDoor
namespace Go.Proofs.YtagadbdbbglddaaGreatDoor
open Go.RowKit

/-! A map in the making: a store of a key that it lacks, a lookup. -/
def MapIs (w : World) (b : Nat) (es : List MapEntry) : Prop := w.heap[b]? = some (.map es.toArray es.length)
theorem MapIs.made (w : World) : MapIs (w.alloc (.map #[] 0)) w.heap.size [] := heap_alloc_new _ _
theorem MapIs.below {w w' : World} {b : Nat} {es : List MapEntry} (h : MapIs w b es) (hb : Below w.heap.size w w') : MapIs w' b es := (hb.block b (heap_lt h)).trans h
def keyI (n : Int) (v : Value) (i : Nat) : MapEntry := { key := .int .i64 n, val := v, born := i }
def findI (x : Int) : List MapEntry → Option Value
  | [] => none
  | e :: es => match e.key with
    | .int .i64 n => if x = n then some e.val else findI x es
    | _ => none
def intKeys : List MapEntry → Bool
  | [] => true
  | e :: es => (match e.key with | .int .i64 _ => true | _ => false) && intKeys es
theorem findNow_I {P : Program} {kt : TypeId} (hk : P.underlying kt = some (.int .i64)) (x : Int) : ∀ (es : List MapEntry) (i : Nat), intKeys es = true → ∃ r, Instr.findNow (.int .i64) (.int .i64 x) es i = some r ∧ r.map (·.2) = findI x es
  | [], _, _ => ⟨none, rfl, rfl⟩
  | e :: es, i, h => by
    obtain ⟨key, val, born⟩ := e
    simp only [intKeys, Bool.and_eq_true] at h
    obtain ⟨h1, h2⟩ := h
    split at h1
    · rename_i n
      by_cases hx : x = n
      · subst hx
        exact ⟨some (i, val), by simp [Instr.findNow, Instr.sameNow], by simp [findI]⟩
      · obtain ⟨r, hr, hf⟩ := findNow_I hk x es (i + 1) h2
        refine ⟨r, ?_, by simp [findI, hx, hf]⟩
        have hb : (x == n) = false := by simpa using hx
        simp only [Instr.findNow, Instr.sameNow, if_true, hb]
        exact hr
    · cases h1
theorem findNow_none {P : Program} {kt : TypeId} (hk : P.underlying kt = some (.int .i64)) (x : Int) (es : List MapEntry) (h : intKeys es = true) (hf : findI x es = none) : Instr.findNow (.int .i64) (.int .i64 x) es 0 = some none := by
  obtain ⟨r, hr, hm⟩ := findNow_I hk x es 0 h
  rw [hf, Option.map_eq_none_iff] at hm
  rw [hr, hm]
section
variable {P : Program} {t kt et : TypeId} {w : World} {b : Nat} {es : List MapEntry}
theorem run_lookup_I (ht : P.underlying t = some (.map kt et)) (hk : P.underlying kt = some (.int .i64)) (h : MapIs w b es) (hi : intKeys es = true) {z : Value} (hz : (zeroValue et).run P w = .ok z w) (x : Int) (ok : Bool) :
    (Instr.lookup t (.map (some b)) (.int .i64 x) ok).run P w = .ok (if ok then .tuple #[(findI x es).getD z, .bool (findI x es).isSome] else (findI x es).getD z) w := by
  obtain ⟨r, hr, hm⟩ := findNow_I hk x es 0 hi
  have hq : ∀ e, (Instr.checkKey e 10000 kt (.int .i64 x)).run P w = .ok () w := fun e => MapKept.run_checkKey hk (d := .int .i64) (k := .int .i64 x) rfl e 9999
  have hf := MapKept.run_findKey (w := w) (k := .int .i64 x) hk (l := es) hr
  rw [← hm]
  cases r with
  | none => cases ok <;> simp [Instr.lookup, run_underlying ht, MapKept.run_getObj_map h, hq, hf, hz, Result.andThen]
  | some v => cases ok <;> simp [Instr.lookup, run_underlying ht, MapKept.run_getObj_map h, hq, hf, Result.andThen]
theorem run_insert_I (ht : P.underlying t = some (.map kt et)) (hk : P.underlying kt = some (.int .i64)) (h : MapIs w b es) (hi : intKeys es = true) (x : Int) (v : Value) (hn : findI x es = none) :
    ∃ w', (Instr.mapUpdate t (.map (some b)) (.int .i64 x) v).run P w = .ok () w' ∧ MapIs w' b (es ++ [keyI x v es.length]) ∧ w.grownBy w' (some b) := by
  have hq : ∀ e, (Instr.checkKey e 10000 kt (.int .i64 x)).run P w = .ok () w := fun e => MapKept.run_checkKey hk (d := .int .i64) (k := .int .i64 x) rfl e 9999
  have hf := MapKept.run_findKey (w := w) (k := .int .i64 x) hk (l := es) (findNow_none hk x es hi hn)
  refine ⟨{ w with heap := w.heap.setIfInBounds b (.map (es.toArray.push { key := .int .i64 x, val := v, born := es.length }) (es.length + 1)) }, ?_, ?_, ?_⟩
  · simp [Instr.mapUpdate, run_underlying ht, MapKept.run_getObj_map h, hq, hf, MapKept.run_setObj_map _ h, Result.andThen]
  · unfold MapIs
    rw [Array.getElem?_setIfInBounds_self_of_lt (heap_lt h)]
    simp [keyI]
  · exact ⟨rfl, rfl, rfl, by simp, fun k _ hne => by simp only [Array.getElem?_setIfInBounds]; rw [if_neg (fun e => hne (by rw [e]))]⟩
/-- A lookup within a drawn region, at the world as it stands. -/
theorem step_lookup {ops : Array Oper} {o : Oper} {a : Act} {K : Act → World → Prop} {Q : Exit → Act → World → Prop} {F : Prop} (hgd : o.guard = none) {m x : Operand} {ok : Bool} (ho : o.op = .lookup t m x ok) {u k v : Value} (hm : a.eval m = u) (hx : a.eval x = k)
    (hrun : (Instr.lookup t u k ok).run P w = .ok v w) (H : K (a.put o.dst v) w) : if Region.wanted o (yielded ops a.tmps) = true then Oper.wp P o a w K Q else F := by
  have hw : Region.wanted o (yielded ops a.tmps) = true := by simp [Region.wanted, hgd]
  rw [if_pos hw]
  unfold Oper.wp execOp
  simp only [ho, hm, hx, Sem.run_bind, hrun, Result.andThen_ok]
  exact H
theorem wpList_insert_I {ops : Array Oper} {rest : List Oper} {o : Oper} {a : Act} {Q : Exit → Act → World → Prop} (hg : o.guard = none) (m x v : Operand) (hop : o.op = Op.insert t m x v)
    (ht : P.underlying t = some (.map kt et)) (hk : P.underlying kt = some (.int .i64)) (h : MapIs w b es) (hi : intKeys es = true) (hm : a.eval m = .map (some b)) {n : Int} (hx : a.eval x = .int .i64 n) {u : Value} (hv : a.eval v = u) (hn : findI n es = none)
    (H : ∀ w', MapIs w' b (es ++ [keyI n u es.length]) → w.grownBy w' (some b) → wpList P ops Q rest (a.put o.dst undef) w') : wpList P ops Q (o :: rest) a w := by
  refine wpList_plain hg fun K' hK' => ?_
  obtain ⟨w', hrun, r1, r2⟩ := run_insert_I ht hk h hi n u hn
  unfold Oper.wp
  simp [execOp, hop, hm, hx, hv, hrun, Result.andThen]
  exact hK' _ _ (H w' r1 r2)
end
end Go.Proofs.YtagadbdbbglddaaGreatDoor
namespace Go.Proofs.YtagadbdbbglddaaGreatDoor
open Go.RowKit

def formV (kw : ByteArray) (col : Bool) (mk n : Int) : Value := .agg #[.string kw, .bool col, .int .i64 mk, .int .i64 n]
def formsE : List MapEntry := [keyI 1 (formV ⟨#[99, 111, 117, 110, 116]⟩ false 0 1) 0, keyI 2 (formV ⟨#[116, 111, 116, 97, 108]⟩ true 0 1) 1, keyI 3 (formV ⟨#[109, 111, 109, 101, 110, 116]⟩ true 6 1) 2, keyI 4 (formV ⟨#[103, 114, 111, 117, 112, 115]⟩ true 0 1) 3,
  keyI 5 (formV ⟨#[100, 105, 115, 116, 105, 110, 99, 116]⟩ true 0 1) 4, keyI 6 (formV ⟨#[115, 109, 97, 108, 108, 101, 115, 116]⟩ true 65536 1) 5, keyI 7 (formV ⟨#[112, 97, 105, 114, 115]⟩ false 0 2) 6]
def kwF (k : Int) : ByteArray := if k = 1 then ⟨#[99, 111, 117, 110, 116]⟩ else if k = 2 then ⟨#[116, 111, 116, 97, 108]⟩ else if k = 3 then ⟨#[109, 111, 109, 101, 110, 116]⟩ else if k = 4 then ⟨#[103, 114, 111, 117, 112, 115]⟩ else if k = 5 then ⟨#[100, 105, 115, 116, 105, 110, 99, 116]⟩ else if k = 6 then ⟨#[115, 109, 97, 108, 108, 101, 115, 116]⟩ else if k = 7 then ⟨#[112, 97, 105, 114, 115]⟩ else ⟨#[]⟩
def knownB (k : Int) : Bool := decide (1 ≤ k ∧ k ≤ 7)
def nFormF (k : Int) : Int := if k = 7 then 2 else if 1 ≤ k ∧ k ≤ 6 then 1 else 0
set_option maxRecDepth 100000 in
theorem forms_find (k : Int) : (findI k formsE).getD (formV ⟨#[]⟩ false 0 0) = formV (kwF k) (hasColB k) (maxKF k) (nFormF k) ∧ (findI k formsE).isSome = knownB k := by
  by_cases h : 1 ≤ k ∧ k ≤ 7
  · rcases (by omega : k = 1 ∨ k = 2 ∨ k = 3 ∨ k = 4 ∨ k = 5 ∨ k = 6 ∨ k = 7) with rfl | rfl | rfl | rfl | rfl | rfl | rfl <;> exact ⟨rfl, rfl⟩
  · have hn : findI k formsE = none := by
      unfold formsE keyI
      simp only [findI]
      repeat (rw [if_neg (by omega)])
    rw [hn]
    refine ⟨?_, ?_⟩
    · unfold kwF hasColB maxKF nFormF
      rw [if_neg (by omega), if_neg (by omega), if_neg (by omega), if_neg (by omega), if_neg (by omega), if_neg (by omega), if_neg (by omega), if_neg (by omega), if_neg (by omega), if_neg (by omega), if_neg (by omega), decide_eq_false (by omega)]
      rfl
    · unfold knownB
      rw [decide_eq_false h]; rfl
set_option maxRecDepth 100000 in
theorem formsP (w : World) : Calls Tryz.prog 31 #[] w fun e w' => ∃ b, e = .returned (.map (some b)) ∧ w.heap.size ≤ b ∧ MapIs w' b formsE ∧ Below w.heap.size w w' := by
  have hmm := @run_makeMap Tryz.prog
  have hM := MapIs.made w
  have hB : Below w.heap.size w (w.alloc (.map #[] 0)) := (by repeat' (first | with_reducible exact Below.refl _ _ | with_reducible assumption | with_reducible refine Below.setCell ?_ ?_ _ | with_reducible refine Below.drew ?_ | with_reducible refine below_drewN ?_ _ | with_reducible refine Below.alloc ?_ ?_ _ | (rintro _ ⟨⟩; simp <;> omega) | omega | (simp <;> omega)))
  have hz0 : w.heap.size < (w.alloc (.map #[] 0)).heap.size := by simp
  go_enter Tryz.func31, Tryz.ntmps31
  go_wp2_with (refine wpList_insert_I (by rfl) (.tmp 1) _ _ rfl Tryz.underlying84 Tryz.underlying3 hM (by rfl) rfl (by rfl) (by rfl) (by rfl) ?_; clear hM; intro w1 hM hg; replace hB := hB.grown hg (Nat.le_of_lt hz0) (by rintro k ⟨⟩; exact Nat.le_refl _); replace hz0 := Nat.lt_of_lt_of_le hz0 hg.size; clear hg)
  go_ret
  exact ⟨w.heap.size, rfl, Nat.le_refl _, hM, hB⟩
end Go.Proofs.YtagadbdbbglddaaGreatDoor
