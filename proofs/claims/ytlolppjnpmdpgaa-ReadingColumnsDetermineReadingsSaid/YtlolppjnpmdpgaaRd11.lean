/-
  Contracts of the readings (XRd11): Columns.
-/
import Derived.Test.YtlolppjnpmdpgaaRd10
namespace Go.Proofs.Ytlolppjnpmdpgaa
open Go.RowKit

theorem ix_0 (w : World) : (Instr.index 77 (.agg #[.func (.func 64) #[] #[], .int .i64 4, .func (.func 65) #[] #[], .int .i64 8, .func (.func 66) #[] #[], .int .i64 4, .func (.func 67) #[] #[], .int .i64 8]) (.int .i64 0)).run Try.prog w = .ok (.agg #[.func (.func 64) #[] #[], .int .i64 4]) w := by kernel_rfl
theorem ix_1 (w : World) : (Instr.index 77 (.agg #[.func (.func 64) #[] #[], .int .i64 4, .func (.func 65) #[] #[], .int .i64 8, .func (.func 66) #[] #[], .int .i64 4, .func (.func 67) #[] #[], .int .i64 8]) (.int .i64 1)).run Try.prog w = .ok (.agg #[.func (.func 65) #[] #[], .int .i64 8]) w := by kernel_rfl
theorem ix_2 (w : World) : (Instr.index 77 (.agg #[.func (.func 64) #[] #[], .int .i64 4, .func (.func 65) #[] #[], .int .i64 8, .func (.func 66) #[] #[], .int .i64 4, .func (.func 67) #[] #[], .int .i64 8]) (.int .i64 2)).run Try.prog w = .ok (.agg #[.func (.func 66) #[] #[], .int .i64 4]) w := by kernel_rfl
theorem ix_3 (w : World) : (Instr.index 77 (.agg #[.func (.func 64) #[] #[], .int .i64 4, .func (.func 65) #[] #[], .int .i64 8, .func (.func 66) #[] #[], .int .i64 4, .func (.func 67) #[] #[], .int .i64 8]) (.int .i64 3)).run Try.prog w = .ok (.agg #[.func (.func 67) #[] #[], .int .i64 8]) w := by kernel_rfl

/-- Columns collected in a slice of the call's own: they lie in blocks of F, which are new since w0. -/
structure ColsF (F : Nat → Prop) (w0 : World) (B : Nat) (xs : List (List Int)) (v : Value) (wr : World) : Prop where
  own : Own Enc.u64.slice F wr B 48 v xs
  lt : ∀ b, F b → b < wr.heap.size
  nF : ∀ k, v.ownBlock = some k → ¬ F k
  ge : ∀ b, F b → w0.heap.size ≤ b
  bel : Below w0.heap.size w0 wr
  base : w0.heap.size ≤ B
  size : B ≤ wr.heap.size
theorem ColsF.nil {w0 wr : World} {B : Nat} (hb : Below w0.heap.size w0 wr) (h1 : w0.heap.size ≤ B) (h2 : B ≤ wr.heap.size) : ColsF (fun _ => False) w0 B [] (.slice none 0 0) wr :=
  ⟨Own.nil_ _ _ _ _ _, fun _ h => h.elim, fun _ _ h => h, fun _ h => h.elim, hb, h1, h2⟩
section
variable {F : Nat → Prop} {w0 wr w2 w6 : World} {B : Nat} {xs : List (List Int)} {v v' : Value} {x : List Int} {A : Option Addr} {c : Nat}
/-- Ahead of the append of one column, in world w2. -/
theorem ColsF.pre (h : ColsF F w0 B xs v wr) (hb : Below wr.heap.size wr w2) (o : Obj) : Own Enc.u64.slice (fun b => F b ∨ (wr.heap.size ≤ b ∧ b ≤ w2.heap.size)) (w2.alloc o) B 48 v xs :=
  ((h.own.call hb).sub (fun b hb' _ => .inl hb')).alloc o
theorem ColsF.lit {T : Nat → Prop} (hs : Sl .u64 T w2 A c x) (hT : ∀ b, T b → b < w2.heap.size → wr.heap.size ≤ b) (hz : wr.heap.size ≤ w2.heap.size) :
    Sl Enc.u64.slice (fun b => F b ∨ (wr.heap.size ≤ b ∧ b ≤ w2.heap.size)) (w2.alloc (.cells #[.slice A x.length c] 48)) (some ⟨w2.heap.size, 0, none⟩) 1 [x] :=
  Sl.litAt (S := fun b => F b ∨ (wr.heap.size ≤ b ∧ b ≤ w2.heap.size)) rfl (.single ⟨A, c, rfl, hs.sub fun b h1 h2 => .inr ⟨hT b h1 h2, by omega⟩⟩) (by unfold maxLen; simp) (fun _ h _ => h) (.inr ⟨hz, Nat.le_refl _⟩)
theorem ColsF.apart (h : ColsF F w0 B xs v wr) : ∀ g, v.ownBlock = some g → ¬ (F g ∨ (wr.heap.size ≤ g ∧ g ≤ w2.heap.size)) := by
  rintro g hg (h1 | h1)
  · exact h.nF g hg h1
  · have := (h.own.lt g hg).2; omega
theorem ColsF.app {o : Obj} (h : ColsF F w0 B xs v wr) (hb : Below wr.heap.size wr w2) (ho : Own Enc.u64.slice (fun b => F b ∨ (wr.heap.size ≤ b ∧ b ≤ w2.heap.size)) w6 B 48 v' (xs ++ [x])) (hg : (w2.alloc o).grownBy w6 v.ownBlock)
    (hor : ∀ g, v'.ownBlock = some g → v.ownBlock = some g ∨ (w2.alloc o).heap.size = g) : ColsF (fun b => F b ∨ (wr.heap.size ≤ b ∧ b ≤ w2.heap.size)) w0 B (xs ++ [x]) v' w6 := by
  have hz := hg.size
  have h2 := hb.size
  have h3 := h.base
  have h4 := h.size
  have h5 := h.bel.size
  simp at hz
  refine ⟨ho, ?_, ?_, ?_, ?_, h3, by omega⟩
  · rintro b (h1 | h1)
    · have := h.lt b h1; omega
    · omega
  · rintro k hk (h1 | h1)
    · rcases hor k hk with h6 | h6
      · exact h.nF k h6 h1
      · have := h.lt k h1; simp at h6; omega
    · rcases hor k hk with h6 | h6
      · have := (h.own.lt k h6).2; omega
      · simp at h6; omega
  · rintro b (h1 | h1)
    · exact h.ge b h1
    · omega
  · exact ((h.bel.trans (hb.mono h5)).alloc (by omega) _).grown hg (by simp; omega) (fun k hk => by have := (h.own.lt k hk).1; omega)
end

theorem fill_pad {N : Nat} (g : Rd → Int) (l : List Rd) : fillF N (fun j => g (l.getD j zeroRd)) l.length = padF N (l.map g) := by
  unfold fillF padF
  rw [List.length_map]
  congr 1
  apply List.ext_getElem? 
  intro i
  rcases Nat.lt_or_ge i l.length with h | h
  · simp [h]
  · simp [h]
theorem fill_padB {N : Nat} (l : List Bool) : fillF N (fun j => if l.getD j false then 0 else 1) l.length = padF N (l.map fun g => if g then 0 else 1) := by
  unfold fillF padF
  rw [List.length_map]
  congr 1
  apply List.ext_getElem?
  intro i
  rcases Nat.lt_or_ge i l.length with h | h
  · simp [h]
  · simp [h]

/-- Columns and the number of an error. -/
def ColRes (w : World) (p : List (List Int) × Int) (e : Ending) (w' : World) : Prop :=
  ∃ A c, e = .returned (.tuple #[.slice A p.1.length c, .int .i64 p.2]) ∧ Sl Enc.u64.slice (fun b => w.heap.size ≤ b) w' A c p.1 ∧ Below w.heap.size w w'
theorem ColRes.none {w w' : World} {k : Int} {e : Ending} (he : e = .returned (.tuple #[.slice none 0 0, .int .i64 k])) (hb : Below w.heap.size w w') : ColRes w ([], k) e w' :=
  ⟨_, 0, he, Sl.nil_ _ _ _ _ (Nat.zero_le _), hb⟩

theorem columnsP_bad {s : Str} {A B : Option Addr} {c d : Nat} {log : Int} (w : World) (he : checkF s.l.length log ≠ 0) :
    Calls Try.prog 19 #[.agg #[.slice A s.l.length c, .slice B s.g.length d], .int .i64 log] w (ColRes w ([], checkF s.l.length log)) := by
  have hne : (checkF s.l.length log != 0) = true := by simpa using he
  obtain ⟨k, hk⟩ : ∃ k, checkF s.l.length log = k := ⟨_, rfl⟩
  rw [hk] at hne ⊢
  have Hk := Lib.hid hk
  clear hk he
  go_enter Try.func19, Try.ntmps19
  go_wp2_with (go_at_call 46; refine (checkP s A B c d log _).mono ?_; rw [Hk.out]; rintro e w1 ⟨rfl, hb1⟩)
  go_ret2
  exact ColRes.none rfl (by repeat' (first | with_reducible exact Below.refl _ _ | with_reducible assumption | with_reducible refine Below.trans ?_ (Below.mono hb1 ?_) | with_reducible refine Below.setCell ?_ ?_ _ | with_reducible refine Below.drew ?_ | with_reducible refine below_drewN ?_ _ | with_reducible refine Below.alloc ?_ ?_ _ | (rintro _ ⟨⟩; simp <;> omega) | omega | (simp <;> omega)))
theorem bitsP_bad {s : Str} {A B : Option Addr} {c d : Nat} {log : Int} (w : World) (he : checkF s.l.length log ≠ 0) :
    Calls Try.prog 21 #[.agg #[.slice A s.l.length c, .slice B s.g.length d], .int .i64 log] w (ColRes w ([], checkF s.l.length log)) := by
  have hne : (checkF s.l.length log != 0) = true := by simpa using he
  obtain ⟨k, hk⟩ : ∃ k, checkF s.l.length log = k := ⟨_, rfl⟩
  rw [hk] at hne ⊢
  have Hk := Lib.hid hk
  clear hk he
  go_enter Try.func21, Try.ntmps21
  go_wp2_with (go_at_call 46; refine (checkP s A B c d log _).mono ?_; rw [Hk.out]; rintro e w1 ⟨rfl, hb1⟩)
  go_ret2
  exact ColRes.none rfl (by repeat' (first | with_reducible exact Below.refl _ _ | with_reducible assumption | with_reducible refine Below.trans ?_ (Below.mono hb1 ?_) | with_reducible refine Below.setCell ?_ ?_ _ | with_reducible refine Below.drew ?_ | with_reducible refine below_drewN ?_ _ | with_reducible refine Below.alloc ?_ ?_ _ | (rintro _ ⟨⟩; simp <;> omega) | omega | (simp <;> omega)))
end Go.Proofs.Ytlolppjnpmdpgaa
