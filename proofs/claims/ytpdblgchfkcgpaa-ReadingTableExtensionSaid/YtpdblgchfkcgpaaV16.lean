/-
  Texts of this claim, merged: Read, RdRow, TeR. Conditions: as each theorem says.
-/
import Derived.Deep.Slices
import Derived.Deep.Fields
import Derived.ChangeArms
import Derived.ChangeSame
import Derived.OpenShut
import Derived.Deep.Upon
import Derived.Test.YtpdblgchfkcgpaaV1
import Derived.Test.YtpdblgchfkcgpaaV2
import Derived.Test.YtpdblgchfkcgpaaV3
import Derived.Test.YtpdblgchfkcgpaaV4
import Derived.Test.YtpdblgchfkcgpaaV5
import Derived.Test.YtpdblgchfkcgpaaV6
import Derived.Test.YtpdblgchfkcgpaaV7
import Derived.Test.YtpdblgchfkcgpaaV10
import Derived.Test.YtpdblgchfkcgpaaV11
import Derived.Test.YtpdblgchfkcgpaaV12
import Derived.Test.YtpdblgchfkcgpaaV13
import Derived.Test.YtpdblgchfkcgpaaV14
set_option linter.unusedSimpArgs false
set_option linter.unusedVariables false
namespace Go.Proofs.Ytpdblgchfkcgpaa
open Go.RowKit Go.ChangeShapes Go.WideShapes Go.Deep

theorem cell_lt {w : World} {a : Addr} {u : Value} (h : w.cell? a = some u) : a.block < w.heap.size := by
  rcases Nat.lt_or_ge a.block w.heap.size with h' | h'
  · exact h'
  · unfold World.cell? at h
    rw [Array.getElem?_eq_none h'] at h
    simp at h

/-- Whatever reads as a value of type t is a value of E's. -/
def Reads {α : Type} (P : Program) (t : TypeId) (E : Enc α) : Prop :=
  ∀ (H : Type) (enc : TypeId × Value → H) (w : World) (base : Nat) (sp : Nat → Bool) (held : Bool) (n : Nat) (cs : List Value) (y : DataW H × List MemPlace),
    DataW.trod enc P w base sp held n t cs = some y → ∃ x, E.rep (fun _ => True) w cs x

section
variable {α β : Type} {P : Program} {t e : TypeId} {E : Enc α} {F : Enc β}

theorem Reads.i64 (ht : P.underlying t = some (.int .i64)) : Reads P t Enc.i64 := by
  intro H enc w base sp held n cs y h
  obtain ⟨k, rfl, _, _⟩ := DataW.trod_int ht h
  exact ⟨k, rfl⟩
theorem Reads.bool (ht : P.underlying t = some .bool) : Reads P t Enc.bool := by
  intro H enc w base sp held n cs y h
  obtain ⟨k, rfl, _⟩ := DataW.trod_bool ht h
  exact ⟨k, rfl⟩
theorem Reads.u8 (ht : P.underlying t = some (.int .u8)) : Reads P t Enc.u8 := by
  intro H enc w base sp held n cs y h
  obtain ⟨k, rfl, _, hw⟩ := DataW.trod_int ht h
  have hk : 0 ≤ k ∧ k < 256 := by
    have h1 : IntKind.u8.min = 0 := by decide
    have h2 : IntKind.u8.max = 255 := by decide
    simp only [Lit.wf, h1, h2, Bool.and_eq_true, decide_eq_true_eq] at hw
    omega
  exact ⟨UInt8.ofNat k.toNat, by
    show [Value.int .u8 k] = [Value.int .u8 _]
    have : ((UInt8.ofNat k.toNat).toNat : Int) = k := by simp; omega
    rw [this]⟩
theorem Reads.via {f : β → α} (g : α → β) (hg : ∀ x, f (g x) = x) (h : Reads P t E) : Reads P t (E.via f) := by
  intro H enc w base sp held n cs y hh
  obtain ⟨x, hx⟩ := h H enc w base sp held n cs y hh
  exact ⟨g x, by show E.rep _ _ _ (f (g x)); rw [hg]; exact hx⟩

/-- The fields from offset 'off' on lie as E says. -/
inductive ReadsFrom (P : Program) : List Field → Nat → {α : Type} → Enc α → Prop
  | last {f : Field} {off : Nat} {α : Type} {E : Enc α} (ho : f.offset = off) (hr : Reads P f.type E) (hc : P.cellsOf f.type = E.size) : ReadsFrom P [f] off E
  | cons {f : Field} {fs : List Field} {off : Nat} {α β : Type} {E : Enc α} {F : Enc β} (ho : f.offset = off) (hr : Reads P f.type E) (hc : P.cellsOf f.type = E.size) (h : ReadsFrom P fs (off + E.size) F) : ReadsFrom P (f :: fs) off (E.pair F)

theorem ReadsFrom.get {fs : List Field} {off : Nat} {α : Type} {E : Enc α} (h : ReadsFrom P fs off E) {H : Type} {enc : TypeId × Value → H} {w : World} {base : Nat} {sp : Nat → Bool} {held : Bool} {cs : List Value}
    (hf : ∀ f ∈ fs, ∃ n y, DataW.trod enc P w base sp held n f.type ((cs.drop f.offset).take (P.cellsOf f.type)) = some y) (hl : off + E.size = cs.length) : ∃ x, E.rep (fun _ => True) w (cs.drop off) x := by
  induction h with
  | @last f off α E ho hr hc =>
    obtain ⟨n, y, hy⟩ := hf f (by simp)
    obtain ⟨x, hx⟩ := hr _ _ _ _ _ _ _ _ _ hy
    rw [ho, hc, List.take_of_length_le (by rw [List.length_drop]; omega)] at hx
    exact ⟨x, hx⟩
  | @cons f fs off α β E F ho hr hc _ ih =>
    obtain ⟨n, y, hy⟩ := hf f (by simp)
    obtain ⟨x, hx⟩ := hr _ _ _ _ _ _ _ _ _ hy
    have hs : off + E.size + F.size = cs.length := by rw [← hl]; exact Nat.add_assoc _ _ _
    obtain ⟨z, hz⟩ := ih (fun g hg => hf g (by simp [hg])) hs
    rw [ho, hc] at hx
    exact ⟨(x, z), _, _, by rw [← List.drop_drop, List.take_append_drop], hx, hz⟩
theorem Reads.struct {fs : Array Field} (ht : P.underlying t = some (.struct fs)) (hs : P.cellsOf t = E.size) (h : ReadsFrom P fs.toList 0 E) : Reads P t E := by
  intro H enc w base sp held n cs y hh
  obtain ⟨xs, m, _, _, hcl, hxl, hf⟩ := DataW.trod_struct ht hh
  have := h.get (enc := enc) (w := w) (base := base) (sp := sp) (held := held) (cs := cs) (fun f hfm => by
    obtain ⟨i, hi⟩ := List.mem_iff_getElem?.1 hfm
    have hi' : fs[i]? = some f := by simpa using hi
    have h1 := hf i f hi'
    have hlt : i < xs.length := by rw [hxl]; exact (Array.getElem?_eq_some_iff.1 hi').1
    rw [List.getElem?_eq_getElem hlt] at h1
    exact ⟨m, _, h1⟩) (by rw [hcl, hs]; omega)
  simpa using this

theorem Reads.slice (ht : P.underlying t = some (.slice e)) (hC : P.cellsOf e = E.size) (he : Reads P e E) : Reads P t E.slice := by
  intro H enc w base sp held n cs y hh
  rcases open_slice ht hh with ⟨rfl, _⟩ | ⟨a, len, cap, m, n, D, Pl, rfl, hb, hl, hm, hmm, _, hi⟩
  · exact ⟨[], none, 0, rfl, Sl.nil_ _ _ _ _ (Nat.zero_le _)⟩
  · have hlm : len ≤ m := by rw [hmm]; split <;> omega
    have build : ∀ k, k ≤ len → ∃ (cs : List Value) (xs : List α), xs.length = k ∧ Elems E (fun _ => True) w cs xs ∧ ∀ j u, cs[j]? = some u → w.cell? (a.add j) = some u := by
      intro k
      induction k with
      | zero => exact fun _ => ⟨[], [], rfl, rfl, by simp⟩
      | succ k ih =>
        intro hk
        obtain ⟨cs, xs, hxl, hel, hc⟩ := ih (by omega)
        obtain ⟨cs', hcs', htr⟩ := hi k (by omega)
        obtain ⟨x, hx⟩ := he _ _ _ _ _ _ _ _ _ htr
        obtain ⟨_, hcl, hat⟩ := World.cells?_some hcs'
        have hcl' : cs'.length = E.size := E.len hx
        refine ⟨cs ++ cs', xs ++ [x], by simp [hxl], hel.snoc hx, fun j u hu => ?_⟩
        have hlen : cs.length = k * E.size := by rw [hel.len, hxl]
        rcases Nat.lt_or_ge j cs.length with hj | hj
        · rw [List.getElem?_append_left hj] at hu
          exact hc j u hu
        · rw [List.getElem?_append_right hj] at hu
          have hjl := (List.getElem?_eq_some_iff.1 hu).1
          have h1 := hat (i := j - cs.length) (by omega)
          rw [add_add', hC, hu] at h1
          rw [show k * E.size + (j - cs.length) = j from by omega] at h1
          exact h1
    obtain ⟨cs, xs, hxl, hel, hc⟩ := build len (Nat.le_refl _)
    refine ⟨xs, some a, cap, by rw [hxl], by rw [hxl]; exact hl, hm, cs, fun hne => ⟨a, rfl, trivial, ?_, hc⟩, hel⟩
    obtain ⟨v, vs, rfl⟩ := List.exists_cons_of_ne_nil hne
    have h1 := cell_lt (hc 0 v rfl)
    rwa [block_add] at h1

/-- An argument. -/
theorem Reads.arg (he : Reads P t E) {H : Type} {enc : TypeId × Value → H} {w : World} {base : Nat} {sp : Nat → Bool} {held : Bool} {v : Value} {d : DataW H} {p : List MemPlace}
    (h : DataW.Trod enc P w base sp held t v d p) : ∃ x, E.rep (fun _ => True) w v.cells.toList x := by
  obtain ⟨n, hn⟩ := h
  exact he _ _ _ _ _ _ _ _ _ hn
end
end Go.Proofs.Ytpdblgchfkcgpaa
namespace Go.Proofs.Ytpdblgchfkcgpaa
open Go.RowKit Go.ChangeShapes Go.WideShapes Go.Deep
set_option maxRecDepth 100000

theorem Reads.u64 {P : Program} {t : TypeId} (ht : P.underlying t = some (.int .u64)) : Reads P t Enc.u64 := by
  intro H enc w base sp held n cs y h
  obtain ⟨k, rfl, _, _⟩ := DataW.trod_int ht h
  exact ⟨k, rfl⟩
theorem Reads.array3 {P : Program} {t e : TypeId} {α : Type} {E : Enc α} (ht : P.underlying t = some (.array 3 e)) (hC : P.cellsOf t = E.size + (E.size + E.size)) (hc : P.cellsOf e = E.size) (he : Reads P e E) : Reads P t (E.pair (E.pair E)) := by
  intro H enc w base sp held n cs y h
  obtain ⟨xs, m, _, _, hcl, hxl, hf⟩ := DataW.trod_array ht h
  have get : ∀ i, i < 3 → ∃ x, E.rep (fun _ => True) w ((cs.drop (i * E.size)).take E.size) x := by
    intro i hi
    have h1 := hf i hi
    rw [List.getElem?_eq_getElem (by omega), hc] at h1
    exact he _ _ _ _ _ _ _ _ _ h1
  obtain ⟨x, hx⟩ := get 0 (by omega)
  obtain ⟨y', hy⟩ := get 1 (by omega)
  obtain ⟨z, hz⟩ := get 2 (by omega)
  rw [Nat.zero_mul, List.drop_zero] at hx
  rw [Nat.one_mul] at hy
  refine ⟨(x, y', z), cs.take E.size, cs.drop E.size, (List.take_append_drop _ _).symm, hx, (cs.drop E.size).take E.size, (cs.drop E.size).drop E.size, (List.take_append_drop _ _).symm, hy, ?_⟩
  rw [List.take_of_length_le (by rw [List.length_drop, hcl, hC]; omega)] at hz
  rw [List.drop_drop, show E.size + E.size = 2 * E.size from by omega]
  exact hz
theorem rop_reads : Reads Try.prog 60 ropE := by
  intro H enc w base sp held n cs y h
  obtain ⟨x, us, bs, hab, ha, hb⟩ := (Reads.struct (E := (Enc.u8.pair (Enc.u8.pair Enc.u8)).pair Enc.bool) Try.underlying60 (by kernel_rfl)
    (.cons rfl (Reads.array3 Try.underlying58 (by kernel_rfl) (by kernel_rfl) (Reads.u8 Try.underlying5)) (by kernel_rfl) (.last rfl (Reads.bool Try.underlying4) (by kernel_rfl)))) _ _ _ _ _ _ _ _ _ h
  obtain ⟨c0, c1, h0, r0, c2, c3, h1, r1, r2⟩ := ha
  exact ⟨⟨x.1.1, x.1.2.1, x.1.2.2, x.2⟩, c0, c1 ++ bs, by rw [hab, h0, List.append_assoc], r0, c2, c3 ++ bs, by rw [h1, List.append_assoc], r1, c3, bs, rfl, r2, hb⟩
theorem rops_reads : Reads Try.prog 22 ropE.slice := Reads.slice Try.underlying22 (by kernel_rfl) rop_reads
end Go.Proofs.Ytpdblgchfkcgpaa
namespace Go.Proofs.Ytpdblgchfkcgpaa
open Go.RowKit Go.ChangeShapes Go.WideShapes Go.Deep
set_option maxRecDepth 100000

theorem Reads.u64r {P : Program} {t : TypeId} (ht : P.underlying t = some (.int .u64)) : Reads P t Enc.u64r := by
  intro H enc w base sp held n cs y h
  obtain ⟨k, rfl, _, hw⟩ := DataW.trod_int ht h
  have e1 : IntKind.u64.min = 0 := by decide
  have e2 : IntKind.u64.max = 18446744073709551615 := by decide
  simp [Lit.wf, e1, e2] at hw
  exact ⟨k, rfl, hw.1⟩
theorem raw_reads : Reads Try.prog 40 rawX :=
  Reads.via (fun x => ⟨x.1, x.2⟩) (fun _ => rfl) (Reads.struct Try.underlying40 (by kernel_rfl) (.cons rfl (Reads.u64r Try.underlying38) (by kernel_rfl) (.last rfl (Reads.u64r Try.underlying38) (by kernel_rfl))))
theorem raws_reads : Reads Try.prog 23 rawX.slice := Reads.slice Try.underlying23 (by kernel_rfl) raw_reads
end Go.Proofs.Ytpdblgchfkcgpaa
