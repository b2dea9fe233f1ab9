/-
  The readings' arguments, read as data. No program walked.
-/
import Derived.Test.YtlolppjnpmdpgaaRd20
import Derived.Test.YtlolppjnpmdpgaaRead
import Derived.OpenShut
namespace Go.Proofs.Ytlolppjnpmdpgaa
open Go.RowKit Go.ChangeShapes Go.WideShapes Go.Deep

theorem okWide_array {P : Program} {w : World} {r : Reach} {base : Nat} {t : TypeId} {v : Value} {n : Nat} {e : TypeId} (ht : P.underlying t = some (.array n e)) (h : Value.okWide P w r base t v) : ∃ cs, v = .agg cs ∧ cs.size = P.cellsOf t := by
  simp only [Value.okWide, ht] at h
  obtain ⟨cs, h1, h2, _⟩ := h
  exact ⟨cs, h1, h2⟩
theorem Reads.u64 {P : Program} {t : TypeId} (ht : P.underlying t = some (.int .u64)) : Reads P t Enc.u64 := by
  intro H enc w base sp held n cs y h
  obtain ⟨k, rfl, _, _⟩ := DataW.trod_int ht h
  exact ⟨k, rfl⟩
theorem Reads.array3 {P : Program} {t e : TypeId} {α : Type} {E : Enc α} (ht : P.underlying t = some (.array 3 e)) (hC : P.cellsOf t = E.size + (E.size + E.size)) (hc : P.cellsOf e = E.size) (he : Reads P e E) : Reads P t (E.pair (E.pair E)) := by
  intro H enc w base sp held n cs y h
  obtain ⟨xs, m, _, _, hcl, hxl, hf⟩ := DataW.trod_array ht h
  have get : ∀ i, i < 3 → ∃ x, E.rep (fun _ => True) w ((cs.drop (i * E.size)).take E.size) x := by
    intro i hi
    have h1 := hf i hi
    rw [List.getElem?_eq_getElem (by omega), hc] at h1
    exact he _ _ _ _ _ _ _ _ _ h1
  obtain ⟨x, hx⟩ := get 0 (by omega)
  obtain ⟨y', hy⟩ := get 1 (by omega)
  obtain ⟨z, hz⟩ := get 2 (by omega)
  rw [Nat.zero_mul, List.drop_zero] at hx
  rw [Nat.one_mul] at hy
  refine ⟨(x, y', z), cs.take E.size, cs.drop E.size, (List.take_append_drop _ _).symm, hx, (cs.drop E.size).take E.size, (cs.drop E.size).drop E.size, (List.take_append_drop _ _).symm, hy, ?_⟩
  rw [List.take_of_length_le (by rw [List.length_drop, hcl, hC]; omega)] at hz
  rw [List.drop_drop, show E.size + E.size = 2 * E.size from by omega]
  exact hz
theorem rd_reads : Reads Try.prog 24 rdE :=
  Reads.via (fun x => ⟨x.1, x.2.1, x.2.2.1, x.2.2.2⟩) (fun _ => rfl) (Reads.struct Try.underlying24 (by kernel_rfl)
    (.cons rfl (Reads.i64 Try.underlying3) (by kernel_rfl) (.cons rfl (Reads.i64 Try.underlying3) (by kernel_rfl) (.cons rfl (Reads.i64 Try.underlying3) (by kernel_rfl) (.last rfl (Reads.i64 Try.underlying3) (by kernel_rfl))))))
theorem rd_arg {H : Type} {enc : TypeId × Value → H} {W : World} {base b0 : Nat} {sp : Nat → Bool} {held : Bool} {r : Reach} {v : Value} {d : DataW H} {p : List MemPlace}
    (hv : Value.okWide Try.prog W r b0 24 v) (h : DataW.Trod enc Try.prog W base sp held 24 v d p) :
    ∃ x : Rd, v = .agg #[.int .i64 x.who, .int .i64 x.whn, .int .i64 x.knd, .int .i64 x.val] := by
  obtain ⟨cs, rfl, _⟩ := okWide_struct Try.underlying24 hv
  obtain ⟨x, hx⟩ := rd_reads.arg h
  have := rdE_open hx
  exact ⟨x, by congr 1; exact Array.ext' (by simpa [Value.cells] using this)⟩
theorem arr3_arg {H : Type} {enc : TypeId × Value → H} {W : World} {base b0 : Nat} {sp : Nat → Bool} {held : Bool} {r : Reach} {v : Value} {d : DataW H} {p : List MemPlace}
    (hv : Value.okWide Try.prog W r b0 44 v) (h : DataW.Trod enc Try.prog W base sp held 44 v d p) :
    ∃ x : UInt8 × UInt8 × UInt8, v = .agg #[.int .u8 (x.1.toNat : Int), .int .u8 (x.2.1.toNat : Int), .int .u8 (x.2.2.toNat : Int)] := by
  obtain ⟨cs, rfl, _⟩ := okWide_array Try.underlying44 hv
  obtain ⟨x, hx⟩ := (Reads.array3 Try.underlying44 (by kernel_rfl) (by kernel_rfl) (Reads.u8 Try.underlying5)).arg h
  obtain ⟨us, bs, hab, ha, cs', ds, hcd, hb, hd⟩ := hx
  refine ⟨x, congrArg Value.agg (Array.ext' ?_)⟩
  have ha' : us = [.int .u8 (x.1.toNat : Int)] := ha
  have hb' : cs' = [.int .u8 (x.2.1.toNat : Int)] := hb
  have hd' : ds = [.int .u8 (x.2.2.toNat : Int)] := hd
  subst ha' hb' hd'
  rw [hcd] at hab
  simpa [Value.cells] using hab
theorem rop_reads : Reads Try.prog 72 ropE := by
  intro H enc w base sp held n cs y h
  obtain ⟨x, us, bs, hab, ha, hb⟩ := (Reads.struct (E := (Enc.u8.pair (Enc.u8.pair Enc.u8)).pair Enc.bool) Try.underlying72 (by kernel_rfl)
    (.cons rfl (Reads.array3 Try.underlying44 (by kernel_rfl) (by kernel_rfl) (Reads.u8 Try.underlying5)) (by kernel_rfl) (.last rfl (Reads.bool Try.underlying4) (by kernel_rfl)))) _ _ _ _ _ _ _ _ _ h
  obtain ⟨c0, c1, h0, r0, c2, c3, h1, r1, r2⟩ := ha
  exact ⟨⟨x.1.1, x.1.2.1, x.1.2.2, x.2⟩, c0, c1 ++ bs, by rw [hab, h0, List.append_assoc], r0, c2, c3 ++ bs, by rw [h1, List.append_assoc], r1, c3, bs, rfl, r2, hb⟩
theorem rops_reads : Reads Try.prog 22 ropE.slice := Reads.slice Try.underlying22 (by kernel_rfl) rop_reads
theorem u8_lit {k : Int} (h : (Lit.int .u8 k).wf = true) : ∃ n : UInt8, k = (n.toNat : Int) := by
  have h1 : IntKind.u8.min = 0 := by decide
  have h2 : IntKind.u8.max = 255 := by decide
  simp [Lit.wf, h1, h2] at h
  exact ⟨UInt8.ofNat k.toNat, by simp; omega⟩
theorem u8s_reads : Reads Try.prog 25 Enc.u8.slice := Reads.slice Try.underlying25 (by kernel_rfl) (Reads.u8 Try.underlying5)
theorem cols_reads : Reads Try.prog 38 Enc.u64.slice.slice := Reads.slice Try.underlying38 (by kernel_rfl) (Reads.slice Try.underlying48 (by kernel_rfl) (Reads.u64 Try.underlying50))
end Go.Proofs.Ytlolppjnpmdpgaa
