/-
  Arguments that can be read as data, in the words of 'Enc' and 'Sl'.
-/
import Derived.Test.YtihcaoipemcddaaDoorLib
import Derived.Deep.Slices
import Derived.Deep.Fields
import Derived.ChangeArms
import Derived.ChangeSame
namespace Go.Proofs.YtihcaoipemcddaaDoor
open Go.RowKit Go.ChangeShapes Go.WideShapes Go.Deep

theorem cell_lt {w : World} {a : Addr} {u : Value} (h : w.cell? a = some u) : a.block < w.heap.size := by
  rcases Nat.lt_or_ge a.block w.heap.size with h' | h'
  · exact h'
  · unfold World.cell? at h
    rw [Array.getElem?_eq_none h'] at h
    simp at h

/-- Whatever reads as a value of type t is a value of E's. -/
def Reads {α : Type} (P : Program) (t : TypeId) (E : Enc α) : Prop :=
  ∀ (H : Type) (enc : TypeId × Value → H) (w : World) (base : Nat) (sp : Nat → Bool) (held : Bool) (n : Nat) (cs : List Value) (y : DataW H × List MemPlace),
    DataW.trod enc P w base sp held n t cs = some y → ∃ x, E.rep (fun _ => True) w cs x

section
variable {α β : Type} {P : Program} {t e : TypeId} {E : Enc α} {F : Enc β}

theorem Reads.i64 (ht : P.underlying t = some (.int .i64)) : Reads P t Enc.i64 := by
  intro H enc w base sp held n cs y h
  obtain ⟨k, rfl, _, _⟩ := DataW.trod_int ht h
  exact ⟨k, rfl⟩
theorem Reads.bool (ht : P.underlying t = some .bool) : Reads P t Enc.bool := by
  intro H enc w base sp held n cs y h
  obtain ⟨k, rfl, _⟩ := DataW.trod_bool ht h
  exact ⟨k, rfl⟩
theorem Reads.u8 (ht : P.underlying t = some (.int .u8)) : Reads P t Enc.u8 := by
  intro H enc w base sp held n cs y h
  obtain ⟨k, rfl, _, hw⟩ := DataW.trod_int ht h
  have hk : 0 ≤ k ∧ k < 256 := by
    have h1 : IntKind.u8.min = 0 := by decide
    have h2 : IntKind.u8.max = 255 := by decide
    simp only [Lit.wf, h1, h2, Bool.and_eq_true, decide_eq_true_eq] at hw
    omega
  exact ⟨UInt8.ofNat k.toNat, by
    show [Value.int .u8 k] = [Value.int .u8 _]
    have : ((UInt8.ofNat k.toNat).toNat : Int) = k := by simp; omega
    rw [this]⟩
theorem Reads.via {f : β → α} (g : α → β) (hg : ∀ x, f (g x) = x) (h : Reads P t E) : Reads P t (E.via f) := by
  intro H enc w base sp held n cs y hh
  obtain ⟨x, hx⟩ := h H enc w base sp held n cs y hh
  exact ⟨g x, by show E.rep _ _ _ (f (g x)); rw [hg]; exact hx⟩

/-- The fields from offset 'off' on lie as E says. -/
inductive ReadsFrom (P : Program) : List Field → Nat → {α : Type} → Enc α → Prop
  | last {f : Field} {off : Nat} {α : Type} {E : Enc α} (ho : f.offset = off) (hr : Reads P f.type E) (hc : P.cellsOf f.type = E.size) : ReadsFrom P [f] off E
  | cons {f : Field} {fs : List Field} {off : Nat} {α β : Type} {E : Enc α} {F : Enc β} (ho : f.offset = off) (hr : Reads P f.type E) (hc : P.cellsOf f.type = E.size) (h : ReadsFrom P fs (off + E.size) F) : ReadsFrom P (f :: fs) off (E.pair F)

theorem ReadsFrom.get {fs : List Field} {off : Nat} {α : Type} {E : Enc α} (h : ReadsFrom P fs off E) {H : Type} {enc : TypeId × Value → H} {w : World} {base : Nat} {sp : Nat → Bool} {held : Bool} {cs : List Value}
    (hf : ∀ f ∈ fs, ∃ n y, DataW.trod enc P w base sp held n f.type ((cs.drop f.offset).take (P.cellsOf f.type)) = some y) (hl : off + E.size = cs.length) : ∃ x, E.rep (fun _ => True) w (cs.drop off) x := by
  induction h with
  | @last f off α E ho hr hc =>
    obtain ⟨n, y, hy⟩ := hf f (by simp)
    obtain ⟨x, hx⟩ := hr _ _ _ _ _ _ _ _ _ hy
    rw [ho, hc, List.take_of_length_le (by rw [List.length_drop]; omega)] at hx
    exact ⟨x, hx⟩
  | @cons f fs off α β E F ho hr hc _ ih =>
    obtain ⟨n, y, hy⟩ := hf f (by simp)
    obtain ⟨x, hx⟩ := hr _ _ _ _ _ _ _ _ _ hy
    have hs : off + E.size + F.size = cs.length := by rw [← hl]; exact Nat.add_assoc _ _ _
    obtain ⟨z, hz⟩ := ih (fun g hg => hf g (by simp [hg])) hs
    rw [ho, hc] at hx
    exact ⟨(x, z), _, _, by rw [← List.drop_drop, List.take_append_drop], hx, hz⟩
theorem Reads.struct {fs : Array Field} (ht : P.underlying t = some (.struct fs)) (hs : P.cellsOf t = E.size) (h : ReadsFrom P fs.toList 0 E) : Reads P t E := by
  intro H enc w base sp held n cs y hh
  obtain ⟨xs, m, _, _, hcl, hxl, hf⟩ := DataW.trod_struct ht hh
  have := h.get (enc := enc) (w := w) (base := base) (sp := sp) (held := held) (cs := cs) (fun f hfm => by
    obtain ⟨i, hi⟩ := List.mem_iff_getElem?.1 hfm
    have hi' : fs[i]? = some f := by simpa using hi
    have h1 := hf i f hi'
    have hlt : i < xs.length := by rw [hxl]; exact (Array.getElem?_eq_some_iff.1 hi').1
    rw [List.getElem?_eq_getElem hlt] at h1
    exact ⟨m, _, h1⟩) (by rw [hcl, hs]; omega)
  simpa using this

theorem Reads.slice (ht : P.underlying t = some (.slice e)) (hC : P.cellsOf e = E.size) (he : Reads P e E) : Reads P t E.slice := by
  intro H enc w base sp held n cs y hh
  rcases open_slice ht hh with ⟨rfl, _⟩ | ⟨a, len, cap, m, n, D, Pl, rfl, hb, hl, hm, hmm, _, hi⟩
  · exact ⟨[], none, 0, rfl, Sl.nil_ _ _ _ _ (Nat.zero_le _)⟩
  · have hlm : len ≤ m := by rw [hmm]; split <;> omega
    have build : ∀ k, k ≤ len → ∃ (cs : List Value) (xs : List α), xs.length = k ∧ Elems E (fun _ => True) w cs xs ∧ ∀ j u, cs[j]? = some u → w.cell? (a.add j) = some u := by
      intro k
      induction k with
      | zero => exact fun _ => ⟨[], [], rfl, rfl, by simp⟩
      | succ k ih =>
        intro hk
        obtain ⟨cs, xs, hxl, hel, hc⟩ := ih (by omega)
        obtain ⟨cs', hcs', htr⟩ := hi k (by omega)
        obtain ⟨x, hx⟩ := he _ _ _ _ _ _ _ _ _ htr
        obtain ⟨_, hcl, hat⟩ := World.cells?_some hcs'
        have hcl' : cs'.length = E.size := E.len hx
        refine ⟨cs ++ cs', xs ++ [x], by simp [hxl], hel.snoc hx, fun j u hu => ?_⟩
        have hlen : cs.length = k * E.size := by rw [hel.len, hxl]
        rcases Nat.lt_or_ge j cs.length with hj | hj
        · rw [List.getElem?_append_left hj] at hu
          exact hc j u hu
        · rw [List.getElem?_append_right hj] at hu
          have hjl := (List.getElem?_eq_some_iff.1 hu).1
          have h1 := hat (i := j - cs.length) (by omega)
          rw [add_add', hC, hu] at h1
          rw [show k * E.size + (j - cs.length) = j from by omega] at h1
          exact h1
    obtain ⟨cs, xs, hxl, hel, hc⟩ := build len (Nat.le_refl _)
    refine ⟨xs, some a, cap, by rw [hxl], by rw [hxl]; exact hl, hm, cs, fun hne => ⟨a, rfl, trivial, ?_, hc⟩, hel⟩
    obtain ⟨v, vs, rfl⟩ := List.exists_cons_of_ne_nil hne
    have h1 := cell_lt (hc 0 v rfl)
    rwa [block_add] at h1

/-- An argument. -/
theorem Reads.arg (he : Reads P t E) {H : Type} {enc : TypeId × Value → H} {w : World} {base : Nat} {sp : Nat → Bool} {held : Bool} {v : Value} {d : DataW H} {p : List MemPlace}
    (h : DataW.Trod enc P w base sp held t v d p) : ∃ x, E.rep (fun _ => True) w v.cells.toList x := by
  obtain ⟨n, hn⟩ := h
  exact he _ _ _ _ _ _ _ _ _ hn
end
end Go.Proofs.YtihcaoipemcddaaDoor
