/-
  Slices of slices as plain cells: a header written anew, and what it points to written behind it.
-/
import Derived.Test.YtihcaoipemcddaaDoorRdF
namespace Go.Proofs.YtihcaoipemcddaaDoor
open Go.RowKit

def Enc.raw : Enc Value := ⟨1, fun _ _ cs x => cs = [x] ∧ x.oneCell' = true, by rintro _ _ _ _ ⟨rfl, _⟩; rfl, fun h _ => h, fun h _ => h, by rintro _ _ _ _ ⟨rfl, h⟩ u hu; simp at hu; subst hu; exact h⟩
theorem raw_flat : Enc.raw.Flat := fun h => h
theorem SlT.raw {α : Type} {P : Program} {t e : TypeId} {E : Enc α} {bytes : Nat} (T : SlT P t e E bytes) (h1 : E.size = 1) : SlT P t e Enc.raw bytes :=
  ⟨T.und, by rw [T.info, h1]; rfl, Nat.one_pos⟩
section
variable {α : Type} {E : Enc α} {S T : Nat → Prop} {w : World}
theorem Elems.toRaw : ∀ {xs : List (List α)} {cs : List Value}, Elems E.slice S w cs xs → Elems Enc.raw T w cs cs ∧ cs.length = xs.length ∧ ∀ (i : Nat) x, xs[i]? = some x → ∃ A c, cs[i]? = some (.slice A x.length c) ∧ Sl E S w A c x
  | [], cs, h => by have h' : cs = [] := h; subst h'; exact ⟨rfl, rfl, by simp⟩
  | x :: xs, cs, ⟨c, d, e, ⟨A, k, h1, h2⟩, h3⟩ => by
    subst h1; subst e
    obtain ⟨g1, g2, g3⟩ := Elems.toRaw h3
    refine ⟨⟨_, _, rfl, ⟨rfl, rfl⟩, g1⟩, by simp [g2], fun i y hy => ?_⟩
    cases i with
    | zero => simp at hy; subst hy; exact ⟨A, k, rfl, h2⟩
    | succ i => exact g3 i y (by simpa using hy)
theorem Elems.ofRaw : ∀ {xs : List (List α)} {cs : List Value}, cs.length = xs.length → (∀ (i : Nat) x, xs[i]? = some x → ∃ A c, cs[i]? = some (.slice A x.length c) ∧ Sl E S w A c x) → Elems E.slice S w cs xs
  | [], cs, h, _ => by have h' : cs = [] := List.eq_nil_of_length_eq_zero h; exact h'
  | x :: xs, [], h, _ => by simp at h
  | x :: xs, c :: cs, h, g => by
    obtain ⟨A, k, h1, h2⟩ := g 0 x rfl
    have h1' : c = .slice A x.length k := by simpa using h1
    subst h1'
    exact ⟨[_], cs, rfl, ⟨A, k, rfl, h2⟩, Elems.ofRaw (by simpa using h) fun i y hy => by simpa using g (i + 1) y (by simpa using hy)⟩
theorem raw_cells : ∀ {vs cs : List Value}, Elems Enc.raw S w cs vs → cs = vs
  | [], cs, h => h
  | v :: vs, cs, ⟨c, d, e, ⟨h1, _⟩, h2⟩ => by rw [e, h1, raw_cells h2]; rfl
theorem Own.toRaw {base : Nat} {e : TypeId} {v : Value} {xs : List (List α)} (h : Own E.slice S w base e v xs) :
    ∃ vs : List Value, Own Enc.raw (fun _ => False) w base e v vs ∧ vs.length = xs.length ∧ ∀ (i : Nat) x, xs[i]? = some x → ∃ A c, vs[i]? = some (.slice A x.length c) ∧ Sl E S w A c x := by
  obtain ⟨cs, hown, hel⟩ := h
  obtain ⟨g1, g2, g3⟩ := hel.toRaw
  exact ⟨cs, ⟨cs, by rw [g2]; exact hown, g1⟩, g2, g3⟩
theorem Own.ofRaw {base : Nat} {e : TypeId} {v : Value} {vs : List Value} {xs : List (List α)} (h : Own Enc.raw T w base e v vs) (hl : vs.length = xs.length) (hx : ∀ (i : Nat) x, xs[i]? = some x → ∃ A c, vs[i]? = some (.slice A x.length c) ∧ Sl E S w A c x) : Own E.slice S w base e v xs := by
  obtain ⟨cs, hown, hel⟩ := h
  obtain rfl := raw_cells hel
  exact ⟨cs, by rw [← hl]; exact hown, Elems.ofRaw hl hx⟩
theorem Own.rawCell {base n c g k : Nat} {e : TypeId} {vs : List Value} {u : Value} (h : Own Enc.raw S w base e (.slice (some ⟨g, 0, none⟩) n c) vs) (hk : vs[k]? = some u) : w.cell? ⟨g, k, none⟩ = some u := by
  obtain ⟨cs, ⟨rfl, _⟩, hc⟩ := h.at_ hk
  have h1 := hc 0 _ rfl
  simpa [Enc.raw] using h1
end
end Go.Proofs.YtihcaoipemcddaaDoor
