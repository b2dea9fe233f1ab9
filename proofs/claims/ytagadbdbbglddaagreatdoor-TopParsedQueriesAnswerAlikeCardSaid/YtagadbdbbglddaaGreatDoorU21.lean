/-
  Texts of this claim, merged: Card, Card6, Rd18, RdRow. Conditions: as each theorem says.
-/
import Derived.Test.YtagadbdbbglddaaGreatDoorRows
import Derived.ProofKit
import Derived.LaidMore
import Derived.OpenShut
import Derived.Stop.Joined
import Derived.Maps.Keyed
import Derived.Lib.LaidTab
import Derived.Lib.ItoaNum
import Derived.Test.YtagadbdbbglddaaGreatDoorU1
import Derived.Test.YtagadbdbbglddaaGreatDoorU2
import Derived.Test.YtagadbdbbglddaaGreatDoorU3
import Derived.Test.YtagadbdbbglddaaGreatDoorU4
import Derived.Test.YtagadbdbbglddaaGreatDoorU20
import Derived.Test.YtagadbdbbglddaaGreatDoorU17
import Derived.Test.YtagadbdbbglddaaGreatDoorU18
set_option linter.unusedSimpArgs false
set_option linter.unusedVariables false
namespace Go.Proofs.YtagadbdbbglddaaGreatDoor
open Go.ChangeShapes Go.WideShapes Go.ChangeAt Go.WideMaps Go.WideElems Go.RowKit Go.Maps
set_option maxRecDepth 100000

theorem gWid : Tryz.prog.globalNamed "attestor/typecheck.widths" = some 0 := by kernel_rfl
theorem tWid : (Tryz.prog.globals[0]?).map (·.type) = some 106 := by kernel_rfl
theorem wid_key {H : Type} (k : Int) (zd : DataW H) : (Rows.laid_attestor_typecheck_widths (H := H)).atKey (.int .i64 k) zd = if 0 ≤ k ∧ k ≤ 4 then .lit (.int .i64 (bitsC k)) else zd := by
  by_cases h : 0 ≤ k ∧ k ≤ 4
  · rw [if_pos h]
    rcases (by omega : k = 0 ∨ k = 1 ∨ k = 2 ∨ k = 3 ∨ k = 4) with rfl | rfl | rfl | rfl | rfl <;> rfl
  · rw [if_neg h]
    have f : ∀ a : Int, (0 ≤ a ∧ a ≤ 4) → (Lit.int .i64 a).sameKey (.int .i64 k) = false := fun a ha => by
      show decide (IntKind.i64 = IntKind.i64 ∧ a = k) = false
      exact decide_eq_false fun e => h (by rw [← e.2]; exact ha)
    unfold Rows.laid_attestor_typecheck_widths DataW.atKey
    simp only [List.find?, f 0 (by omega), f 1 (by omega), f 2 (by omega), f 3 (by omega), f 4 (by omega)]
def Enc.i64r : Enc Int := ⟨1, fun _ _ cs x => cs = [.int .i64 x] ∧ -9223372036854775808 ≤ x ∧ x ≤ 9223372036854775807, by rintro _ _ _ _ ⟨rfl, _⟩; rfl, fun h _ => h, fun h _ => h, by rintro _ _ _ _ ⟨rfl, _⟩ u hu; simp at hu; subst hu; rfl⟩
theorem Reads.i64r {P : Program} {t : TypeId} (ht : P.underlying t = some (.int .i64)) : Reads P t Enc.i64r := by
  intro H enc w base sp held n cs y h
  obtain ⟨k, rfl, _, hw⟩ := DataW.trod_int ht h
  have e1 : IntKind.i64.min = -9223372036854775808 := by decide
  have e2 : IntKind.i64.max = 9223372036854775807 := by decide
  simp [Lit.wf, e1, e2] at hw
  exact ⟨k, rfl, hw⟩
theorem cd_reads : Reads Tryz.prog 90 cdE :=
  Reads.via (fun x => ⟨x.1, x.2.1, x.2.2⟩) (fun _ => rfl) (Reads.struct Tryz.underlying90 (by kernel_rfl) (.cons rfl (Reads.i64 Tryz.underlying3) (by kernel_rfl) (.cons rfl (Reads.i64 Tryz.underlying3) (by kernel_rfl) (.last rfl (Reads.i64 Tryz.underlying3) (by kernel_rfl)))))
theorem cds_reads : Reads Tryz.prog 55 cdE.slice := Reads.slice Tryz.underlying55 (by kernel_rfl) cd_reads
def qyE : Enc Qy := (Enc.i64r.pair (Enc.i64r.pair (Enc.i64r.pair cdE.slice.slice))).via fun q => (q.kind, q.col, q.k, q.fs)
theorem qy_reads : Reads Tryz.prog 24 qyE :=
  Reads.via (fun x => ⟨x.1, x.2.1, x.2.2.1, x.2.2.2⟩) (fun _ => rfl) (Reads.struct Tryz.underlying24 (by kernel_rfl)
    (.cons rfl (Reads.i64r Tryz.underlying3) (by kernel_rfl) (.cons rfl (Reads.i64r Tryz.underlying3) (by kernel_rfl) (.cons rfl (Reads.i64r Tryz.underlying3) (by kernel_rfl) (.last rfl (Reads.slice Tryz.underlying22 (by kernel_rfl) cds_reads) (by kernel_rfl))))))
theorem qy_arg {H : Type} {enc : TypeId × Value → H} {W : World} {base b0 : Nat} {sp : Nat → Bool} {held : Bool} {r : Reach} {v : Value} {d : DataW H} {p : List MemPlace}
    (hv : Value.okWide Tryz.prog W r b0 24 v) (h : DataW.Trod enc Tryz.prog W base sp held 24 v d p) :
    ∃ (x : Qy) (A : Option Addr) (c : Nat), v = .agg #[.int .i64 x.kind, .int .i64 x.col, .int .i64 x.k, .slice A x.fs.length c] ∧ (-9223372036854775808 ≤ x.col ∧ x.col ≤ 9223372036854775807) ∧ Sl cdE.slice (fun _ => True) W A c x.fs := by
  obtain ⟨cs, rfl, _⟩ := okWide_struct Tryz.underlying24 hv
  obtain ⟨x, c1, d1, he, ⟨rfl, _⟩, c2, d2, rfl, ⟨rfl, hr⟩, c3, d3, rfl, ⟨rfl, _⟩, A, c, rfl, hs⟩ := qy_reads.arg h
  exact ⟨x, A, c, congrArg Value.agg (Array.ext' (by simpa [Value.cells] using he)), hr, hs⟩
end Go.Proofs.YtagadbdbbglddaaGreatDoor
namespace Go.Proofs.YtagadbdbbglddaaGreatDoor
open Go.ChangeShapes Go.WideShapes Go.ChangeAt Go.WideMaps Go.WideElems Go.RowKit Go.Maps
set_option maxRecDepth 100000

def laid6 : List (String × DataW Unit) := [("math/bits.deBruijn32tab", Rows.laid_math_bits_deBruijn32tab), ("math/bits.deBruijn64tab", Rows.laid_math_bits_deBruijn64tab), ("internal/strconv.uint64pow10", Rows.laid_internal_strconv_uint64pow10), ("strconv.ErrRange", Rows.laid_strconv_ErrRange), ("strconv.ErrSyntax", Rows.laid_strconv_ErrSyntax), ("attestor/typecheck.widths", Rows.laid_attestor_typecheck_widths)]
theorem tab10 {H : Type} : (Rows.laid_internal_strconv_uint64pow10 (H := H)) = Go.Lib.tabData .u64 Go.Lib.pow10Tab := by kernel_rfl
theorem gTab : Tryz.prog.globalNamed "internal/strconv.uint64pow10" = some 2 := by kernel_rfl
theorem tTab : (Tryz.prog.globals[2]?).map (·.type) = some 169 := by kernel_rfl
/-- What a walk takes from the row. -/
structure Laid6 (W : World) : Prop where
  wid : WidOk W
  tab : Go.Lib.TabIs Tryz.prog W "internal/strconv.uint64pow10" .u64 Go.Lib.pow10Tab
theorem of_laid6 {W : World} (h : laidMetH Tryz.prog laid6 W) : Laid6 W := by
  rw [MakeChecks.laidMetH_plain _ _ _ (by kernel_rfl)] at h
  obtain ⟨ps, ⟨-, -, -, -, -, -, -, -, -, -, ⟨-, -, -, -, -, -, -, -, -, -, ⟨g3, t3, cs3, f3, p3, q3, hg3, ht3, hv3, hd3, ⟨-, -, -, -, -, -, -, -, -, -, ⟨-, -, -, -, -, -, -, -, -, -, ⟨g0, t0, cs0, f0, p0, q0, hg0, ht0, hv0, hd0, -, -⟩, -⟩, -⟩, -⟩, -⟩, -⟩, -, -⟩ := h
  obtain rfl := Option.some.inj (gTab.symm.trans hg3)
  obtain rfl := Option.some.inj (tTab.symm.trans ht3)
  rw [tab10] at hd3
  have hT : Go.Lib.TabIs Tryz.prog W "internal/strconv.uint64pow10" .u64 Go.Lib.pow10Tab := by
    unfold Go.Lib.TabIs
    rw [hv3, ← Go.Lib.cells_of_tab Tryz.underlying169 Tryz.underlying151 (by kernel_rfl) (by kernel_rfl) hd3]
  clear hd3 hv3 ht3 hg3
  refine ⟨?_, hT⟩
  clear hT
  obtain rfl := Option.some.inj (gWid.symm.trans hg0)
  obtain rfl := Option.some.inj (tWid.symm.trans ht0)
  rcases open_map Tryz.underlying106 hd0 with ⟨_, hx⟩ | ⟨bm, es, clock, m, rfl, hcs, hb, _, F, hx⟩
  · simp [Rows.laid_attestor_typecheck_widths] at hx
  simp only [Prod.mk.injEq] at hx
  have hcell : W.cell? ⟨0, 0, none⟩ = some (.map (some bm)) := by
    have := World.var?_cell hg0 hv0 0
    rw [Array.eq_one_of_toList hcs] at this
    simpa using this
  refine ⟨bm, es, clock, hcell, hb, fun W' hb' k h0 h1 => ?_⟩
  have zero : (zeroValue 3).run Tryz.prog W' = .ok (.int .i64 0) W' := by kernel_rfl
  have hw : (Lit.int .i64 k).wf = true := by
    have e1 : IntKind.i64.min = -9223372036854775808 := by decide
    have e2 : IntKind.i64.max = 9223372036854775807 := by decide
    simp [Lit.wf, e1, e2, h0, h1]
  rcases fit_look (w := W') false (int_keyed Tryz.underlying3) Tryz.underlying106 zero hb' F (keyOf_int_mk Tryz.underlying3 hw) with ⟨hrun, _, hat⟩ | ⟨e0, y, _, _, hrun, hR, hat, _⟩
  · have ha := hat .nil
    rw [← hx.1, wid_key] at ha
    have hno : ¬ (0 ≤ k ∧ k ≤ 4) := fun hk => by rw [if_pos hk] at ha; cases ha
    have hz : bitsC k = 0 := by unfold bitsC; rw [if_neg (by omega), if_neg (by omega), if_neg (by omega)]
    rw [hz]
    exact hrun
  · obtain ⟨r, hv, rfl, _⟩ := elemAt_int Tryz.underlying3 hR
    have ha := hat .nil
    rw [← hx.1, wid_key] at ha
    have hk : 0 ≤ k ∧ k ≤ 4 := by
      rcases Decidable.em (0 ≤ k ∧ k ≤ 4) with hk | hk
      · exact hk
      · rw [if_neg hk] at ha; cases ha
    rw [if_pos hk] at ha
    simp only [DataW.lit.injEq, Lit.int.injEq, true_and] at ha
    have hr : bitsC k = r := ha
    rw [hv] at hrun
    rw [hr]
    exact hrun
/-- The door's own heap meets the condition. -/
theorem door_met6 (os : Os) (args : Array Value) : laidMetH Tryz.prog laid6 ((World.doorLaid Tryz.prog 400 os).forCall (fun _ _ => 0) ⟨#[], args, []⟩).memory :=
  laidMetH_of_parts3 (fuel := 8) (laidMet_of_run' 8 (by kernel_rfl) (by kernel_rfl)) (by kernel_rfl) (by kernel_rfl)
end Go.Proofs.YtagadbdbbglddaaGreatDoor
namespace Go.Proofs.YtagadbdbbglddaaGreatDoor
open Go.RowKit

/-- A slice of numbers and the number of an error. -/
def TabRes (w : World) (p : List Int × Int) (e : Ending) (w' : World) : Prop :=
  ∃ A c, e = .returned (.tuple #[.slice A p.1.length c, .int .i64 p.2]) ∧ Sl .u64 (fun b => w.heap.size ≤ b) w' A c p.1 ∧ Below w.heap.size w w'
theorem TabRes.none {w w' : World} {k : Int} {e : Ending} (he : e = .returned (.tuple #[.slice none 0 0, .int .i64 k])) (hb : Below w.heap.size w w') : TabRes w ([], k) e w' :=
  ⟨_, 0, he, Sl.nil_ _ _ _ _ (Nat.zero_le _), hb⟩

end Go.Proofs.YtagadbdbbglddaaGreatDoor
namespace Go.Proofs.YtagadbdbbglddaaGreatDoor
open Go.RowKit Go.ChangeShapes Go.WideShapes Go.Deep
set_option maxRecDepth 100000

theorem Reads.u64 {P : Program} {t : TypeId} (ht : P.underlying t = some (.int .u64)) : Reads P t Enc.u64 := by
  intro H enc w base sp held n cs y h
  obtain ⟨k, rfl, _, _⟩ := DataW.trod_int ht h
  exact ⟨k, rfl⟩
theorem Reads.array3 {P : Program} {t e : TypeId} {α : Type} {E : Enc α} (ht : P.underlying t = some (.array 3 e)) (hC : P.cellsOf t = E.size + (E.size + E.size)) (hc : P.cellsOf e = E.size) (he : Reads P e E) : Reads P t (E.pair (E.pair E)) := by
  intro H enc w base sp held n cs y h
  obtain ⟨xs, m, _, _, hcl, hxl, hf⟩ := DataW.trod_array ht h
  have get : ∀ i, i < 3 → ∃ x, E.rep (fun _ => True) w ((cs.drop (i * E.size)).take E.size) x := by
    intro i hi
    have h1 := hf i hi
    rw [List.getElem?_eq_getElem (by omega), hc] at h1
    exact he _ _ _ _ _ _ _ _ _ h1
  obtain ⟨x, hx⟩ := get 0 (by omega)
  obtain ⟨y', hy⟩ := get 1 (by omega)
  obtain ⟨z, hz⟩ := get 2 (by omega)
  rw [Nat.zero_mul, List.drop_zero] at hx
  rw [Nat.one_mul] at hy
  refine ⟨(x, y', z), cs.take E.size, cs.drop E.size, (List.take_append_drop _ _).symm, hx, (cs.drop E.size).take E.size, (cs.drop E.size).drop E.size, (List.take_append_drop _ _).symm, hy, ?_⟩
  rw [List.take_of_length_le (by rw [List.length_drop, hcl, hC]; omega)] at hz
  rw [List.drop_drop, show E.size + E.size = 2 * E.size from by omega]
  exact hz
theorem rop_reads : Reads Tryz.prog 58 ropE := by
  intro H enc w base sp held n cs y h
  obtain ⟨x, us, bs, hab, ha, hb⟩ := (Reads.struct (E := (Enc.u8.pair (Enc.u8.pair Enc.u8)).pair Enc.bool) Tryz.underlying58 (by kernel_rfl)
    (.cons rfl (Reads.array3 Tryz.underlying56 (by kernel_rfl) (by kernel_rfl) (Reads.u8 Tryz.underlying5)) (by kernel_rfl) (.last rfl (Reads.bool Tryz.underlying4) (by kernel_rfl)))) _ _ _ _ _ _ _ _ _ h
  obtain ⟨c0, c1, h0, r0, c2, c3, h1, r1, r2⟩ := ha
  exact ⟨⟨x.1.1, x.1.2.1, x.1.2.2, x.2⟩, c0, c1 ++ bs, by rw [hab, h0, List.append_assoc], r0, c2, c3 ++ bs, by rw [h1, List.append_assoc], r1, c3, bs, rfl, r2, hb⟩
theorem rops_reads : Reads Tryz.prog 25 ropE.slice := Reads.slice Tryz.underlying25 (by kernel_rfl) rop_reads
end Go.Proofs.YtagadbdbbglddaaGreatDoor
