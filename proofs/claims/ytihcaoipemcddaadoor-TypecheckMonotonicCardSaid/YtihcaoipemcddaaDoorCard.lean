/-
  The card's parts: the package's map as laid gives 'WidOk'; queries and conditions read as data. No law walked.
-/
import Derived.Test.YtihcaoipemcddaaDoorRows
import Derived.Test.YtihcaoipemcddaaDoorQ7
import Derived.Test.YtihcaoipemcddaaDoorQF
import Derived.Test.YtihcaoipemcddaaDoorRead
import Derived.ProofKit
import Derived.LaidMore
import Derived.OpenShut
import Derived.Stop.Joined
import Derived.Maps.Keyed
namespace Go.Proofs.YtihcaoipemcddaaDoor
open Go.ChangeShapes Go.WideShapes Go.ChangeAt Go.WideMaps Go.WideElems Go.RowKit Go.Maps

def laid1 : List (String × DataW Unit) := [("attestor/typecheck.widths", Rows.laid_attestor_typecheck_widths)]
theorem gWid : Tryd.prog.globalNamed "attestor/typecheck.widths" = some 0 := by kernel_rfl
theorem tWid : (Tryd.prog.globals[0]?).map (·.type) = some 72 := by kernel_rfl
theorem wid_key {H : Type} (k : Int) (zd : DataW H) : (Rows.laid_attestor_typecheck_widths (H := H)).atKey (.int .i64 k) zd = if 0 ≤ k ∧ k ≤ 4 then .lit (.int .i64 (bitsC k)) else zd := by
  by_cases h : 0 ≤ k ∧ k ≤ 4
  · rw [if_pos h]
    rcases (by omega : k = 0 ∨ k = 1 ∨ k = 2 ∨ k = 3 ∨ k = 4) with rfl | rfl | rfl | rfl | rfl <;> rfl
  · rw [if_neg h]
    have f : ∀ a : Int, (0 ≤ a ∧ a ≤ 4) → (Lit.int .i64 a).sameKey (.int .i64 k) = false := fun a ha => by
      show decide (IntKind.i64 = IntKind.i64 ∧ a = k) = false
      exact decide_eq_false fun e => h (by rw [← e.2]; exact ha)
    unfold Rows.laid_attestor_typecheck_widths DataW.atKey
    simp only [List.find?, f 0 (by omega), f 1 (by omega), f 2 (by omega), f 3 (by omega), f 4 (by omega)]
theorem of_laid {W : World} (h : laidMetH Tryd.prog laid1 W) : WidOk W := by
  rw [MakeChecks.laidMetH_plain _ _ _ (by kernel_rfl)] at h
  obtain ⟨ps, ⟨g0, t0, cs0, f0, p0, q0, hg0, ht0, hv0, hd0, _, _⟩, _, _⟩ := h
  obtain rfl := Option.some.inj (gWid.symm.trans hg0)
  obtain rfl := Option.some.inj (tWid.symm.trans ht0)
  rcases open_map Tryd.underlying72 hd0 with ⟨_, hx⟩ | ⟨bm, es, clock, m, rfl, hcs, hb, _, F, hx⟩
  · simp [Rows.laid_attestor_typecheck_widths] at hx
  simp only [Prod.mk.injEq] at hx
  have hcell : W.cell? ⟨0, 0, none⟩ = some (.map (some bm)) := by
    have := World.var?_cell hg0 hv0 0
    rw [Array.eq_one_of_toList hcs] at this
    simpa using this
  refine ⟨bm, es, clock, hcell, hb, fun W' hb' k h0 h1 => ?_⟩
  have zero : (zeroValue 3).run Tryd.prog W' = .ok (.int .i64 0) W' := by kernel_rfl
  have hw : (Lit.int .i64 k).wf = true := by
    have e1 : IntKind.i64.min = -9223372036854775808 := by decide
    have e2 : IntKind.i64.max = 9223372036854775807 := by decide
    simp [Lit.wf, e1, e2, h0, h1]
  rcases fit_look (w := W') false (int_keyed Tryd.underlying3) Tryd.underlying72 zero hb' F (keyOf_int_mk Tryd.underlying3 hw) with ⟨hrun, _, hat⟩ | ⟨e0, y, _, _, hrun, hR, hat, _⟩
  · have ha := hat .nil
    rw [← hx.1, wid_key] at ha
    have hno : ¬ (0 ≤ k ∧ k ≤ 4) := fun hk => by rw [if_pos hk] at ha; cases ha
    have hz : bitsC k = 0 := by unfold bitsC; rw [if_neg (by omega), if_neg (by omega), if_neg (by omega)]
    rw [hz]
    exact hrun
  · obtain ⟨r, hv, rfl, _⟩ := elemAt_int Tryd.underlying3 hR
    have ha := hat .nil
    rw [← hx.1, wid_key] at ha
    have hk : 0 ≤ k ∧ k ≤ 4 := by
      rcases Decidable.em (0 ≤ k ∧ k ≤ 4) with hk | hk
      · exact hk
      · rw [if_neg hk] at ha; cases ha
    rw [if_pos hk] at ha
    simp only [DataW.lit.injEq, Lit.int.injEq, true_and] at ha
    have hr : bitsC k = r := ha
    rw [hv] at hrun
    rw [hr]
    exact hrun
/-- The door's own heap meets the condition. -/
theorem door_met (os : Os) (args : Array Value) : laidMetH Tryd.prog laid1 ((World.doorLaid Tryd.prog 400 os).forCall (fun _ _ => 0) ⟨#[], args, []⟩).memory :=
  laidMetH_of_parts3 (fuel := 8) (laidMet_of_run' 8 (by kernel_rfl) (by kernel_rfl)) (by kernel_rfl) (by kernel_rfl)

def Enc.i64r : Enc Int := ⟨1, fun _ _ cs x => cs = [.int .i64 x] ∧ -9223372036854775808 ≤ x ∧ x ≤ 9223372036854775807, by rintro _ _ _ _ ⟨rfl, _⟩; rfl, fun h _ => h, fun h _ => h, by rintro _ _ _ _ ⟨rfl, _⟩ u hu; simp at hu; subst hu; rfl⟩
theorem Reads.i64r {P : Program} {t : TypeId} (ht : P.underlying t = some (.int .i64)) : Reads P t Enc.i64r := by
  intro H enc w base sp held n cs y h
  obtain ⟨k, rfl, _, hw⟩ := DataW.trod_int ht h
  have e1 : IntKind.i64.min = -9223372036854775808 := by decide
  have e2 : IntKind.i64.max = 9223372036854775807 := by decide
  simp [Lit.wf, e1, e2] at hw
  exact ⟨k, rfl, hw⟩
theorem cd_reads : Reads Tryd.prog 49 cdE :=
  Reads.via (fun x => ⟨x.1, x.2.1, x.2.2⟩) (fun _ => rfl) (Reads.struct Tryd.underlying49 (by kernel_rfl) (.cons rfl (Reads.i64 Tryd.underlying3) (by kernel_rfl) (.cons rfl (Reads.i64 Tryd.underlying3) (by kernel_rfl) (.last rfl (Reads.i64 Tryd.underlying3) (by kernel_rfl)))))
theorem cds_reads : Reads Tryd.prog 44 cdE.slice := Reads.slice Tryd.underlying44 (by kernel_rfl) cd_reads
def qyE : Enc Qy := (Enc.i64r.pair (Enc.i64r.pair (Enc.i64r.pair cdE.slice.slice))).via fun q => (q.kind, q.col, q.k, q.fs)
theorem qy_reads : Reads Tryd.prog 24 qyE :=
  Reads.via (fun x => ⟨x.1, x.2.1, x.2.2.1, x.2.2.2⟩) (fun _ => rfl) (Reads.struct Tryd.underlying24 (by kernel_rfl)
    (.cons rfl (Reads.i64r Tryd.underlying3) (by kernel_rfl) (.cons rfl (Reads.i64r Tryd.underlying3) (by kernel_rfl) (.cons rfl (Reads.i64r Tryd.underlying3) (by kernel_rfl) (.last rfl (Reads.slice Tryd.underlying22 (by kernel_rfl) cds_reads) (by kernel_rfl))))))
theorem qy_arg {H : Type} {enc : TypeId × Value → H} {W : World} {base b0 : Nat} {sp : Nat → Bool} {held : Bool} {r : Reach} {v : Value} {d : DataW H} {p : List MemPlace}
    (hv : Value.okWide Tryd.prog W r b0 24 v) (h : DataW.Trod enc Tryd.prog W base sp held 24 v d p) :
    ∃ (x : Qy) (A : Option Addr) (c : Nat), v = .agg #[.int .i64 x.kind, .int .i64 x.col, .int .i64 x.k, .slice A x.fs.length c] ∧ (-9223372036854775808 ≤ x.col ∧ x.col ≤ 9223372036854775807) ∧ Sl cdE.slice (fun _ => True) W A c x.fs := by
  obtain ⟨cs, rfl, _⟩ := okWide_struct Tryd.underlying24 hv
  obtain ⟨x, c1, d1, he, ⟨rfl, _⟩, c2, d2, rfl, ⟨rfl, hr⟩, c3, d3, rfl, ⟨rfl, _⟩, A, c, rfl, hs⟩ := qy_reads.arg h
  exact ⟨x, A, c, congrArg Value.agg (Array.ext' (by simpa [Value.cells] using he)), hr, hs⟩
theorem cd_arg {H : Type} {enc : TypeId × Value → H} {W : World} {base b0 : Nat} {sp : Nat → Bool} {held : Bool} {r : Reach} {v : Value} {d : DataW H} {p : List MemPlace}
    (hv : Value.okWide Tryd.prog W r b0 49 v) (h : DataW.Trod enc Tryd.prog W base sp held 49 v d p) : ∃ x : Cd, v = .agg #[.int .i64 x.col, .int .i64 x.lo, .int .i64 x.hi] := by
  obtain ⟨cs, rfl, _⟩ := okWide_struct Tryd.underlying49 hv
  obtain ⟨x, hx⟩ := cd_reads.arg h
  have := cdE_open hx
  exact ⟨x, by congr 1; exact Array.ext' (by simpa [Value.cells] using this)⟩
theorem u16_rng {k : Int} (h : (Lit.int .u16 k).wf = true) : 0 ≤ k ∧ k ≤ 65535 := by
  have h1 : IntKind.u16.min = 0 := by decide
  have h2 : IntKind.u16.max = 65535 := by decide
  simp [Lit.wf, h1, h2] at h
  exact h
theorem u8_rng {k : Int} (h : (Lit.int .u8 k).wf = true) : 0 ≤ k ∧ k ≤ 255 := by
  have h1 : IntKind.u8.min = 0 := by decide
  have h2 : IntKind.u8.max = 255 := by decide
  simp [Lit.wf, h1, h2] at h
  exact h
theorem rd_reads14 : Reads Tryd.prog 40 rdE :=
  Reads.via (fun x => ⟨x.1, x.2.1, x.2.2.1, x.2.2.2⟩) (fun _ => rfl) (Reads.struct Tryd.underlying40 (by kernel_rfl)
    (.cons rfl (Reads.i64 Tryd.underlying3) (by kernel_rfl) (.cons rfl (Reads.i64 Tryd.underlying3) (by kernel_rfl) (.cons rfl (Reads.i64 Tryd.underlying3) (by kernel_rfl) (.last rfl (Reads.i64 Tryd.underlying3) (by kernel_rfl))))))
theorem rds_reads14 : Reads Tryd.prog 38 rdE.slice := Reads.slice Tryd.underlying38 (by kernel_rfl) rd_reads14
theorem rd_arg14 {H : Type} {enc : TypeId × Value → H} {W : World} {base b0 : Nat} {sp : Nat → Bool} {held : Bool} {r : Reach} {v : Value} {d : DataW H} {p : List MemPlace}
    (hv : Value.okWide Tryd.prog W r b0 40 v) (h : DataW.Trod enc Tryd.prog W base sp held 40 v d p) :
    ∃ x : Rd, v = .agg #[.int .i64 x.who, .int .i64 x.whn, .int .i64 x.knd, .int .i64 x.val] := by
  obtain ⟨cs, rfl, _⟩ := okWide_struct Tryd.underlying40 hv
  obtain ⟨x, hx⟩ := rd_reads14.arg h
  have := rdE_open hx
  exact ⟨x, by congr 1; exact Array.ext' (by simpa [Value.cells] using this)⟩
theorem okWide_array14 {P : Program} {w : World} {r : Reach} {base : Nat} {t : TypeId} {v : Value} {n : Nat} {e : TypeId} (ht : P.underlying t = some (.array n e)) (h : Value.okWide P w r base t v) : ∃ cs, v = .agg cs ∧ cs.size = P.cellsOf t := by
  simp only [Value.okWide, ht] at h
  obtain ⟨cs, h1, h2, _⟩ := h
  exact ⟨cs, h1, h2⟩
theorem a2_arg {H : Type} {enc : TypeId × Value → H} {W : World} {base b0 : Nat} {sp : Nat → Bool} {held : Bool} {r : Reach} {v : Value} {d : DataW H} {p : List MemPlace}
    (hv : Value.okWide Tryd.prog W r b0 47 v) (h : DataW.Trod enc Tryd.prog W base sp held 47 v d p) :
    ∃ x y : Int, v = .agg #[.int .u16 x, .int .u16 y] ∧ (0 ≤ x ∧ x ≤ 65535) ∧ 0 ≤ y ∧ y ≤ 65535 := by
  obtain ⟨cs, rfl, _⟩ := okWide_array14 Tryd.underlying47 hv
  obtain ⟨n, hn⟩ := h
  obtain ⟨xs, m, _, _, hcl, hxl, hf⟩ := DataW.trod_array Tryd.underlying47 hn
  have c1 : Tryd.prog.cellsOf 25 = 1 := by kernel_rfl
  have c2 : Tryd.prog.cellsOf 47 = 2 := by kernel_rfl
  have get : ∀ i, i < 2 → ∃ k : Int, ((Value.agg cs).cells.toList.drop i).take 1 = [.int .u16 k] ∧ 0 ≤ k ∧ k ≤ 65535 := by
    intro i hi
    have h1 := hf i hi
    rw [List.getElem?_eq_getElem (by omega), c1, Nat.mul_one] at h1
    obtain ⟨k, e1, _, hw⟩ := DataW.trod_int Tryd.underlying25 h1
    exact ⟨k, e1, u16_rng hw⟩
  obtain ⟨x, hx, hx1⟩ := get 0 (by omega)
  obtain ⟨y, hy, hy1⟩ := get 1 (by omega)
  refine ⟨x, y, congrArg Value.agg (Array.ext' ?_), hx1, hy1⟩
  rw [c2] at hcl
  have hcs : (Value.agg cs).cells.toList = cs.toList := rfl
  rw [hcs] at hx hy hcl
  match hl : cs.toList, hcl with
  | [u, z], _ =>
    rw [hl] at hx hy
    simp at hx hy
    rw [hx, hy]
end Go.Proofs.YtihcaoipemcddaaDoor
