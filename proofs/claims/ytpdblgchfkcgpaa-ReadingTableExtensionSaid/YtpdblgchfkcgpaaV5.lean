/-
  Texts of this claim, merged: Rd11, Rd12. Conditions: as each theorem says.
-/
import Derived.Test.YtpdblgchfkcgpaaV1
import Derived.Test.YtpdblgchfkcgpaaV2
import Derived.Test.YtpdblgchfkcgpaaV3
import Derived.Test.YtpdblgchfkcgpaaV4
set_option linter.unusedSimpArgs false
set_option linter.unusedVariables false
namespace Go.Proofs.Ytpdblgchfkcgpaa
open Go.RowKit

theorem ix_0 (w : World) : (Instr.index 65 (.agg #[.func (.func 48) #[] #[], .int .i64 4, .func (.func 49) #[] #[], .int .i64 8, .func (.func 50) #[] #[], .int .i64 4, .func (.func 51) #[] #[], .int .i64 8]) (.int .i64 0)).run Try.prog w = .ok (.agg #[.func (.func 48) #[] #[], .int .i64 4]) w := by kernel_rfl
theorem ix_1 (w : World) : (Instr.index 65 (.agg #[.func (.func 48) #[] #[], .int .i64 4, .func (.func 49) #[] #[], .int .i64 8, .func (.func 50) #[] #[], .int .i64 4, .func (.func 51) #[] #[], .int .i64 8]) (.int .i64 1)).run Try.prog w = .ok (.agg #[.func (.func 49) #[] #[], .int .i64 8]) w := by kernel_rfl
theorem ix_2 (w : World) : (Instr.index 65 (.agg #[.func (.func 48) #[] #[], .int .i64 4, .func (.func 49) #[] #[], .int .i64 8, .func (.func 50) #[] #[], .int .i64 4, .func (.func 51) #[] #[], .int .i64 8]) (.int .i64 2)).run Try.prog w = .ok (.agg #[.func (.func 50) #[] #[], .int .i64 4]) w := by kernel_rfl
theorem ix_3 (w : World) : (Instr.index 65 (.agg #[.func (.func 48) #[] #[], .int .i64 4, .func (.func 49) #[] #[], .int .i64 8, .func (.func 50) #[] #[], .int .i64 4, .func (.func 51) #[] #[], .int .i64 8]) (.int .i64 3)).run Try.prog w = .ok (.agg #[.func (.func 51) #[] #[], .int .i64 8]) w := by kernel_rfl

/-- Columns collected in a slice of the call's own: they lie in blocks of F, which are new since w0. -/
structure ColsF (F : Nat → Prop) (w0 : World) (B : Nat) (xs : List (List Int)) (v : Value) (wr : World) : Prop where
  own : Own Enc.u64.slice F wr B 34 v xs
  lt : ∀ b, F b → b < wr.heap.size
  nF : ∀ k, v.ownBlock = some k → ¬ F k
  ge : ∀ b, F b → w0.heap.size ≤ b
  bel : Below w0.heap.size w0 wr
  base : w0.heap.size ≤ B
  size : B ≤ wr.heap.size
theorem ColsF.nil {w0 wr : World} {B : Nat} (hb : Below w0.heap.size w0 wr) (h1 : w0.heap.size ≤ B) (h2 : B ≤ wr.heap.size) : ColsF (fun _ => False) w0 B [] (.slice none 0 0) wr :=
  ⟨Own.nil_ _ _ _ _ _, fun _ h => h.elim, fun _ _ h => h, fun _ h => h.elim, hb, h1, h2⟩
section
variable {F : Nat → Prop} {w0 wr w2 w6 : World} {B : Nat} {xs : List (List Int)} {v v' : Value} {x : List Int} {A : Option Addr} {c : Nat}
/-- Ahead of the append of one column, in world w2. -/
theorem ColsF.pre (h : ColsF F w0 B xs v wr) (hb : Below wr.heap.size wr w2) (o : Obj) : Own Enc.u64.slice (fun b => F b ∨ (wr.heap.size ≤ b ∧ b ≤ w2.heap.size)) (w2.alloc o) B 34 v xs :=
  ((h.own.call hb).sub (fun b hb' _ => .inl hb')).alloc o
theorem ColsF.lit {T : Nat → Prop} (hs : Sl .u64 T w2 A c x) (hT : ∀ b, T b → b < w2.heap.size → wr.heap.size ≤ b) (hz : wr.heap.size ≤ w2.heap.size) :
    Sl Enc.u64.slice (fun b => F b ∨ (wr.heap.size ≤ b ∧ b ≤ w2.heap.size)) (w2.alloc (.cells #[.slice A x.length c] 34)) (some ⟨w2.heap.size, 0, none⟩) 1 [x] :=
  Sl.litAt (S := fun b => F b ∨ (wr.heap.size ≤ b ∧ b ≤ w2.heap.size)) rfl (.single ⟨A, c, rfl, hs.sub fun b h1 h2 => .inr ⟨hT b h1 h2, by omega⟩⟩) (by unfold maxLen; simp) (fun _ h _ => h) (.inr ⟨hz, Nat.le_refl _⟩)
theorem ColsF.apart (h : ColsF F w0 B xs v wr) : ∀ g, v.ownBlock = some g → ¬ (F g ∨ (wr.heap.size ≤ g ∧ g ≤ w2.heap.size)) := by
  rintro g hg (h1 | h1)
  · exact h.nF g hg h1
  · have := (h.own.lt g hg).2; omega
theorem ColsF.app {o : Obj} (h : ColsF F w0 B xs v wr) (hb : Below wr.heap.size wr w2) (ho : Own Enc.u64.slice (fun b => F b ∨ (wr.heap.size ≤ b ∧ b ≤ w2.heap.size)) w6 B 34 v' (xs ++ [x])) (hg : (w2.alloc o).grownBy w6 v.ownBlock)
    (hor : ∀ g, v'.ownBlock = some g → v.ownBlock = some g ∨ (w2.alloc o).heap.size = g) : ColsF (fun b => F b ∨ (wr.heap.size ≤ b ∧ b ≤ w2.heap.size)) w0 B (xs ++ [x]) v' w6 := by
  have hz := hg.size
  have h2 := hb.size
  have h3 := h.base
  have h4 := h.size
  have h5 := h.bel.size
  simp at hz
  refine ⟨ho, ?_, ?_, ?_, ?_, h3, by omega⟩
  · rintro b (h1 | h1)
    · have := h.lt b h1; omega
    · omega
  · rintro k hk (h1 | h1)
    · rcases hor k hk with h6 | h6
      · exact h.nF k h6 h1
      · have := h.lt k h1; simp at h6; omega
    · rcases hor k hk with h6 | h6
      · have := (h.own.lt k h6).2; omega
      · simp at h6; omega
  · rintro b (h1 | h1)
    · exact h.ge b h1
    · omega
  · exact ((h.bel.trans (hb.mono h5)).alloc (by omega) _).grown hg (by simp; omega) (fun k hk => by have := (h.own.lt k hk).1; omega)
end

theorem fill_pad {N : Nat} (g : Rd → Int) (l : List Rd) : fillF N (fun j => g (l.getD j zeroRd)) l.length = padF N (l.map g) := by
  unfold fillF padF
  rw [List.length_map]
  congr 1
  apply List.ext_getElem? 
  intro i
  rcases Nat.lt_or_ge i l.length with h | h
  · simp [h]
  · simp [h]
theorem fill_padB {N : Nat} (l : List Bool) : fillF N (fun j => if l.getD j false then 0 else 1) l.length = padF N (l.map fun g => if g then 0 else 1) := by
  unfold fillF padF
  rw [List.length_map]
  congr 1
  apply List.ext_getElem?
  intro i
  rcases Nat.lt_or_ge i l.length with h | h
  · simp [h]
  · simp [h]

/-- Columns and the number of an error. -/
def ColRes (w : World) (p : List (List Int) × Int) (e : Ending) (w' : World) : Prop :=
  ∃ A c, e = .returned (.tuple #[.slice A p.1.length c, .int .i64 p.2]) ∧ Sl Enc.u64.slice (fun b => w.heap.size ≤ b) w' A c p.1 ∧ Below w.heap.size w w'
theorem ColRes.none {w w' : World} {k : Int} {e : Ending} (he : e = .returned (.tuple #[.slice none 0 0, .int .i64 k])) (hb : Below w.heap.size w w') : ColRes w ([], k) e w' :=
  ⟨_, 0, he, Sl.nil_ _ _ _ _ (Nat.zero_le _), hb⟩

theorem columnsP_bad {s : Str} {A B : Option Addr} {c d : Nat} {log : Int} (w : World) (he : checkF s.l.length log ≠ 0) :
    Calls Try.prog 6 #[.agg #[.slice A s.l.length c, .slice B s.g.length d], .int .i64 log] w (ColRes w ([], checkF s.l.length log)) := by
  have hne : (checkF s.l.length log != 0) = true := by simpa using he
  obtain ⟨k, hk⟩ : ∃ k, checkF s.l.length log = k := ⟨_, rfl⟩
  rw [hk] at hne ⊢
  have Hk := Lib.hid hk
  clear hk he
  go_enter Try.func6, Try.ntmps6
  go_wp2_with (go_at_call 25; refine (rdCheckP s A B c d log _).mono ?_; rw [Hk.out]; rintro e w1 ⟨rfl, hb1⟩)
  go_ret2
  exact ColRes.none rfl (by repeat' (first | with_reducible exact Below.refl _ _ | with_reducible assumption | with_reducible refine Below.trans ?_ (Below.mono hb1 ?_) | with_reducible refine Below.setCell ?_ ?_ _ | with_reducible refine Below.drew ?_ | with_reducible refine below_drewN ?_ _ | with_reducible refine Below.alloc ?_ ?_ _ | (rintro _ ⟨⟩; simp <;> omega) | omega | (simp <;> omega)))
theorem bitsP_bad {s : Str} {A B : Option Addr} {c d : Nat} {log : Int} (w : World) (he : checkF s.l.length log ≠ 0) :
    Calls Try.prog 19 #[.agg #[.slice A s.l.length c, .slice B s.g.length d], .int .i64 log] w (ColRes w ([], checkF s.l.length log)) := by
  have hne : (checkF s.l.length log != 0) = true := by simpa using he
  obtain ⟨k, hk⟩ : ∃ k, checkF s.l.length log = k := ⟨_, rfl⟩
  rw [hk] at hne ⊢
  have Hk := Lib.hid hk
  clear hk he
  go_enter Try.func19, Try.ntmps19
  go_wp2_with (go_at_call 25; refine (rdCheckP s A B c d log _).mono ?_; rw [Hk.out]; rintro e w1 ⟨rfl, hb1⟩)
  go_ret2
  exact ColRes.none rfl (by repeat' (first | with_reducible exact Below.refl _ _ | with_reducible assumption | with_reducible refine Below.trans ?_ (Below.mono hb1 ?_) | with_reducible refine Below.setCell ?_ ?_ _ | with_reducible refine Below.drew ?_ | with_reducible refine below_drewN ?_ _ | with_reducible refine Below.alloc ?_ ?_ _ | (rintro _ ⟨⟩; simp <;> omega) | omega | (simp <;> omega)))
end Go.Proofs.Ytpdblgchfkcgpaa
namespace Go.Proofs.Ytpdblgchfkcgpaa
open Go.RowKit

def colsK (s : Str) (log : Int) (k : Nat) : List (List Int) := [colF s log 0, colF s log 1, colF s log 2, colF s log 3].take k

/-- Columns in a slice of the call's own, that lie apart from it. -/
def ColOwn (w : World) (p : List (List Int) × Int) (e : Ending) (w' : World) : Prop :=
  ∃ A c F, e = .returned (.tuple #[.slice A p.1.length c, .int .i64 p.2]) ∧ Own Enc.u64.slice F w' w.heap.size 34 (.slice A p.1.length c) p.1 ∧ (∀ g, (Value.slice A p.1.length c).ownBlock = some g → ¬ F g) ∧ (∀ b, F b → w.heap.size ≤ b) ∧ (∀ b, F b → b < w'.heap.size) ∧ Below w.heap.size w w'
theorem ColOwn.res {w w' : World} {p : List (List Int) × Int} {e : Ending} (h : ColOwn w p e w') : ColRes w p e w' := by
  obtain ⟨A, c, F, rfl, ho, hn, hf, hl, hb⟩ := h
  exact ⟨A, c, rfl, ho.toSl (fun b h _ => hf b h) (fun b hb _ _ => hb), hb⟩
set_option maxRecDepth 100000 in
set_option maxHeartbeats 2000000 in
theorem columnsP_own {s : Str} {A B : Option Addr} {c d : Nat} {log : Int} {S : Nat → Prop} (w : World) (he : checkF s.l.length log = 0) (h : Sl rdE S w A c s.l) (k : Sl .bool S w B d s.g) (ok : OkStr s) :
    Calls Try.prog 6 #[.agg #[.slice A s.l.length c, .slice B s.g.length d], .int .i64 log] w (ColOwn w (columnsF s log, 0)) := by
  have hr0 : 0 ≤ log ∧ log ≤ 16 ∧ s.l.length ≤ 2 ^ log.toNat := by
    unfold checkF at he
    split at he
    · simp at he
    · split at he
      · simp at he
      · omega
  obtain ⟨h0, h1, hn⟩ := hr0
  obtain ⟨N, hN, hw, hN1, hN2⟩ := pow_log log h0 h1
  rw [hN] at hn
  have HN := Lib.hid hN
  have Hw := Lib.hid hw
  have He := Lib.hid he
  have H := Lib.hid h
  have K := Lib.hid k
  have Hlen := Lib.hid ok.len
  have Hval := Lib.hid ok.valid
  clear hN hw he h k ok
  have ix0 := ix_0
  have ix1 := ix_1
  have ix2 := ix_2
  have ix3 := ix_3
  go_enter Try.func6, Try.ntmps6
  go_wp2_with (first
    | (go_at_call 25; refine (rdCheckP s A B c d log _).mono ?_; rw [He.out]; rintro e w1 ⟨rfl, hb1⟩)
    | (go_at_call 26; refine (fieldsP _).mono ?_; rintro e w2 ⟨rfl, hb2⟩))
  have hbW : Below (w.heap.size + 1) (w.alloc (.cells #[.slice A s.l.length c, .slice B s.g.length d] 28)) w2 := by
    have h1 : Below (w.heap.size + 1) (w.alloc (.cells #[.slice A s.l.length c, .slice B s.g.length d] 28)) w1 := by simpa using hb1
    exact h1.trans (hb2.mono (by have := h1.size; simpa using this))
  have hzW : w.heap.size + 1 ≤ w2.heap.size := by have := hbW.size; simpa using this
  have HbW := Lib.hid hbW
  clear hb1 hb2 hbW
  go_loopw [7, 17] (fun v i wr => ∃ (j : Nat) (F : Nat → Prop) (xs : List (List Int)) (A1 : Option Addr) (c1 : Nat), j ≤ 4 ∧ i = .int .i64 j ∧ v = .slice A1 j c1 ∧ xs = colsK s log j ∧ ColsF F (w.alloc (.cells #[.slice A s.l.length c, .slice B s.g.length d] 28)) (w.heap.size + 1) xs v wr) (fun _ i _ => 4 - (intOf i).toNat)
  case atStart =>
    refine ⟨0, fun _ => False, [], none, 0, by omega, rfl, rfl, rfl, ColsF.nil (by have := HbW.out; simpa using this) (by simp) hzW⟩
  case round =>
    obtain ⟨j, F, xs, A1, c1, hj, rfl, rfl, hxs, hC⟩ := hrel
    have hxl : xs.length = j := (Own.len hC.own).symm
    have hbl : Below (w.heap.size + 1) (w.alloc (.cells #[.slice A s.l.length c, .slice B s.g.length d] 28)) wr := by have := hC.bel; simpa using this
    have hlw : w.heap.size < wr.heap.size := by have := hbl.size; simp at this; omega
    have x0 : wr.cell? ⟨w.heap.size, 0, none⟩ = some (.slice A s.l.length c) := (hbl.cell (p := ⟨w.heap.size, 0, none⟩) (by simp)).trans (cell_of_row _ _ 0 _ _ _ (heap_alloc_at rfl))
    have x1 : wr.cell? ⟨w.heap.size, 1, none⟩ = some (.slice B s.g.length d) := (hbl.cell (p := ⟨w.heap.size, 1, none⟩) (by simp)).trans (cell_of_row _ _ 1 _ _ _ (heap_alloc_at rfl))
    have hne : w.heap.size ≠ wr.heap.size := by omega
    have hsl : Sl rdE S wr A c s.l := H.out.keep (Below.agree (((Below.refl _ _).alloc (Nat.le_refl _) _).trans (hbl.mono (by omega))))
    have hsg : Sl .bool S wr B d s.g := K.out.keep (Below.agree (((Below.refl _ _).alloc (Nat.le_refl _) _).trans (hbl.mono (by omega))))
    have Hsl := Lib.hid hsl
    have Hsg := Lib.hid hsg
    have HC := Lib.hid hC
    have Hxs := Lib.hid hxs
    have Hxl := Lib.hid hxl
    clear hbl hsl hsg hC hxs hxl
    rcases (by omega : j = 0 ∨ j = 1 ∨ j = 2 ∨ j = 3 ∨ j = 4) with rfl | rfl | rfl | rfl | rfl
    · have hf : ∀ (j : Nat) (W : World), j < s.l.length → Below (wr.alloc (.cells #[.func (.func 48) #[] #[], .int .i64 4] 64)).heap.size (wr.alloc (.cells #[.func (.func 48) #[] #[], .int .i64 4] 64)) W → Calls Try.prog 28 #[.int .i64 j, .pointer (some ⟨wr.heap.size, 0, none⟩), .pointer (some ⟨w.heap.size, 0, none⟩)] W fun e W' => e = .returned (.int .u64 ((s.l.getD j zeroRd).who)) ∧ Below W.heap.size W W' := by
        intro j W hj hbW'
        have hbW : Below (wr.heap.size + 1) (wr.alloc (.cells #[.func (.func 48) #[] #[], .int .i64 4] 64)) W := by simpa using hbW'
        have hv := Hval.out _ (List.getElem_mem hj)
        have hr : s.l[j]? = some (s.l.getD j zeroRd) := by simp [hj]
        have hv' : ValidR (s.l.getD j zeroRd) := by simpa [hj] using hv
        obtain ⟨⟨v1, v2⟩, ⟨v3, v4⟩, ⟨v5, v6⟩, v7, v8⟩ := hv'
        exact columns1_1 W ((hbW.cell (p := ⟨wr.heap.size, 0, none⟩) (by simp)).trans (cell_of_row _ _ 0 _ _ _ (heap_alloc_at rfl))) ((hbW.cell (p := ⟨w.heap.size, 0, none⟩) (by simp; omega)).trans ((World.cell?_of_block (a := ⟨w.heap.size, 0, none⟩) (Below.heap_alloc _ _ _ hlw)).trans x0)) (Hsl.out.keep (Below.agree (((Below.refl _ _).alloc (Nat.le_refl _) _).trans (hbW.mono (by omega))))) hr (by omega) (by omega)
      have Hf := Lib.hid hf
      clear hf
      go_wp2_with (first
        | (go_at_call 27; go_must (refine (column_1 (p2 := none) (n := s.l.length) (N := N) (f := fun j => (s.l.getD j zeroRd).who) _ Hw.out h0 h1 hN2 hn Hf.out).mono ?_); rintro e w3 ⟨A2, c2, rfl, hown2, hb3⟩; have hb4 : Below wr.heap.size wr w3 := ((Below.refl _ _).alloc (Nat.le_refl _) _).trans (hb3.mono (by simp)))
        | (at_builtin; go_must ((refine wpList_append_E (S := fun b => F b ∨ (wr.heap.size ≤ b ∧ b ≤ w3.heap.size)) rfl (.tmp 20) (.tmp 25) rfl colsT (base := w.heap.size + 1) (v := .slice A1 0 c1) (xs := xs) (ys := [fillF N (fun j => (s.l.getD j zeroRd).who) s.l.length]) (by rfl) (by rfl) rfl (nz := 1) (by simp [Hxl.out]) (HC.out.pre hb4 _) (ColsF.lit (hown2.flatSl u64_flat (T := fun b => wr.heap.size ≤ b) (fun b hb => by simp at hb; omega)) (fun _ h _ => h) hb4.size) (by unfold maxLen; simp [Hxl.out]) (by simp [Hxl.out]) (by have := hb4.size; have := HC.out.size; simp; omega) HC.out.apart ?_); intro A5 c5 w5 hown5 hg5 hor5)))
      go_roundw
      case rel =>
        refine ⟨1, _, xs ++ [fillF N (fun j => (s.l.getD j zeroRd).who) s.l.length], A5, c5, by omega, rfl, rfl, ?_, HC.out.app hb4 hown5 hg5 hor5⟩
        rw [Hxs.out, fill_pad (fun r => r.who), ← HN.out]
        rfl
      case measure => simp [intOf]
    · have hf : ∀ (j : Nat) (W : World), j < s.l.length → Below (wr.alloc (.cells #[.func (.func 49) #[] #[], .int .i64 8] 64)).heap.size (wr.alloc (.cells #[.func (.func 49) #[] #[], .int .i64 8] 64)) W → Calls Try.prog 28 #[.int .i64 j, .pointer (some ⟨wr.heap.size, 0, none⟩), .pointer (some ⟨w.heap.size, 0, none⟩)] W fun e W' => e = .returned (.int .u64 ((s.l.getD j zeroRd).whn)) ∧ Below W.heap.size W W' := by
        intro j W hj hbW'
        have hbW : Below (wr.heap.size + 1) (wr.alloc (.cells #[.func (.func 49) #[] #[], .int .i64 8] 64)) W := by simpa using hbW'
        have hv := Hval.out _ (List.getElem_mem hj)
        have hr : s.l[j]? = some (s.l.getD j zeroRd) := by simp [hj]
        have hv' : ValidR (s.l.getD j zeroRd) := by simpa [hj] using hv
        obtain ⟨⟨v1, v2⟩, ⟨v3, v4⟩, ⟨v5, v6⟩, v7, v8⟩ := hv'
        exact columns1_2 W ((hbW.cell (p := ⟨wr.heap.size, 0, none⟩) (by simp)).trans (cell_of_row _ _ 0 _ _ _ (heap_alloc_at rfl))) ((hbW.cell (p := ⟨w.heap.size, 0, none⟩) (by simp; omega)).trans ((World.cell?_of_block (a := ⟨w.heap.size, 0, none⟩) (Below.heap_alloc _ _ _ hlw)).trans x0)) (Hsl.out.keep (Below.agree (((Below.refl _ _).alloc (Nat.le_refl _) _).trans (hbW.mono (by omega))))) hr (by omega) (by omega)
      have Hf := Lib.hid hf
      clear hf
      go_wp2_with (first
        | (go_at_call 27; go_must (refine (column_1 (p2 := none) (n := s.l.length) (N := N) (f := fun j => (s.l.getD j zeroRd).whn) _ Hw.out h0 h1 hN2 hn Hf.out).mono ?_); rintro e w3 ⟨A2, c2, rfl, hown2, hb3⟩; have hb4 : Below wr.heap.size wr w3 := ((Below.refl _ _).alloc (Nat.le_refl _) _).trans (hb3.mono (by simp)))
        | (at_builtin; go_must ((refine wpList_append_E (S := fun b => F b ∨ (wr.heap.size ≤ b ∧ b ≤ w3.heap.size)) rfl (.tmp 20) (.tmp 25) rfl colsT (base := w.heap.size + 1) (v := .slice A1 1 c1) (xs := xs) (ys := [fillF N (fun j => (s.l.getD j zeroRd).whn) s.l.length]) (by rfl) (by rfl) rfl (nz := 2) (by simp [Hxl.out]) (HC.out.pre hb4 _) (ColsF.lit (hown2.flatSl u64_flat (T := fun b => wr.heap.size ≤ b) (fun b hb => by simp at hb; omega)) (fun _ h _ => h) hb4.size) (by unfold maxLen; simp [Hxl.out]) (by simp [Hxl.out]) (by have := hb4.size; have := HC.out.size; simp; omega) HC.out.apart ?_); intro A5 c5 w5 hown5 hg5 hor5)))
      go_roundw
      case rel =>
        refine ⟨2, _, xs ++ [fillF N (fun j => (s.l.getD j zeroRd).whn) s.l.length], A5, c5, by omega, rfl, rfl, ?_, HC.out.app hb4 hown5 hg5 hor5⟩
        rw [Hxs.out, fill_pad (fun r => r.whn), ← HN.out]
        rfl
      case measure => simp [intOf]
    · have hf : ∀ (j : Nat) (W : World), j < s.l.length → Below (wr.alloc (.cells #[.func (.func 50) #[] #[], .int .i64 4] 64)).heap.size (wr.alloc (.cells #[.func (.func 50) #[] #[], .int .i64 4] 64)) W → Calls Try.prog 28 #[.int .i64 j, .pointer (some ⟨wr.heap.size, 0, none⟩), .pointer (some ⟨w.heap.size, 0, none⟩)] W fun e W' => e = .returned (.int .u64 ((s.l.getD j zeroRd).knd)) ∧ Below W.heap.size W W' := by
        intro j W hj hbW'
        have hbW : Below (wr.heap.size + 1) (wr.alloc (.cells #[.func (.func 50) #[] #[], .int .i64 4] 64)) W := by simpa using hbW'
        have hv := Hval.out _ (List.getElem_mem hj)
        have hr : s.l[j]? = some (s.l.getD j zeroRd) := by simp [hj]
        have hv' : ValidR (s.l.getD j zeroRd) := by simpa [hj] using hv
        obtain ⟨⟨v1, v2⟩, ⟨v3, v4⟩, ⟨v5, v6⟩, v7, v8⟩ := hv'
        exact columns1_3 W ((hbW.cell (p := ⟨wr.heap.size, 0, none⟩) (by simp)).trans (cell_of_row _ _ 0 _ _ _ (heap_alloc_at rfl))) ((hbW.cell (p := ⟨w.heap.size, 0, none⟩) (by simp; omega)).trans ((World.cell?_of_block (a := ⟨w.heap.size, 0, none⟩) (Below.heap_alloc _ _ _ hlw)).trans x0)) (Hsl.out.keep (Below.agree (((Below.refl _ _).alloc (Nat.le_refl _) _).trans (hbW.mono (by omega))))) hr (by omega) (by omega)
      have Hf := Lib.hid hf
      clear hf
      go_wp2_with (first
        | (go_at_call 27; go_must (refine (column_1 (p2 := none) (n := s.l.length) (N := N) (f := fun j => (s.l.getD j zeroRd).knd) _ Hw.out h0 h1 hN2 hn Hf.out).mono ?_); rintro e w3 ⟨A2, c2, rfl, hown2, hb3⟩; have hb4 : Below wr.heap.size wr w3 := ((Below.refl _ _).alloc (Nat.le_refl _) _).trans (hb3.mono (by simp)))
        | (at_builtin; go_must ((refine wpList_append_E (S := fun b => F b ∨ (wr.heap.size ≤ b ∧ b ≤ w3.heap.size)) rfl (.tmp 20) (.tmp 25) rfl colsT (base := w.heap.size + 1) (v := .slice A1 2 c1) (xs := xs) (ys := [fillF N (fun j => (s.l.getD j zeroRd).knd) s.l.length]) (by rfl) (by rfl) rfl (nz := 3) (by simp [Hxl.out]) (HC.out.pre hb4 _) (ColsF.lit (hown2.flatSl u64_flat (T := fun b => wr.heap.size ≤ b) (fun b hb => by simp at hb; omega)) (fun _ h _ => h) hb4.size) (by unfold maxLen; simp [Hxl.out]) (by simp [Hxl.out]) (by have := hb4.size; have := HC.out.size; simp; omega) HC.out.apart ?_); intro A5 c5 w5 hown5 hg5 hor5)))
      go_roundw
      case rel =>
        refine ⟨3, _, xs ++ [fillF N (fun j => (s.l.getD j zeroRd).knd) s.l.length], A5, c5, by omega, rfl, rfl, ?_, HC.out.app hb4 hown5 hg5 hor5⟩
        rw [Hxs.out, fill_pad (fun r => r.knd), ← HN.out]
        rfl
      case measure => simp [intOf]
    · have hf : ∀ (j : Nat) (W : World), j < s.l.length → Below (wr.alloc (.cells #[.func (.func 51) #[] #[], .int .i64 8] 64)).heap.size (wr.alloc (.cells #[.func (.func 51) #[] #[], .int .i64 8] 64)) W → Calls Try.prog 28 #[.int .i64 j, .pointer (some ⟨wr.heap.size, 0, none⟩), .pointer (some ⟨w.heap.size, 0, none⟩)] W fun e W' => e = .returned (.int .u64 ((s.l.getD j zeroRd).val)) ∧ Below W.heap.size W W' := by
        intro j W hj hbW'
        have hbW : Below (wr.heap.size + 1) (wr.alloc (.cells #[.func (.func 51) #[] #[], .int .i64 8] 64)) W := by simpa using hbW'
        have hv := Hval.out _ (List.getElem_mem hj)
        have hr : s.l[j]? = some (s.l.getD j zeroRd) := by simp [hj]
        have hv' : ValidR (s.l.getD j zeroRd) := by simpa [hj] using hv
        obtain ⟨⟨v1, v2⟩, ⟨v3, v4⟩, ⟨v5, v6⟩, v7, v8⟩ := hv'
        exact columns1_4 W ((hbW.cell (p := ⟨wr.heap.size, 0, none⟩) (by simp)).trans (cell_of_row _ _ 0 _ _ _ (heap_alloc_at rfl))) ((hbW.cell (p := ⟨w.heap.size, 0, none⟩) (by simp; omega)).trans ((World.cell?_of_block (a := ⟨w.heap.size, 0, none⟩) (Below.heap_alloc _ _ _ hlw)).trans x0)) (Hsl.out.keep (Below.agree (((Below.refl _ _).alloc (Nat.le_refl _) _).trans (hbW.mono (by omega))))) hr (by omega) (by omega)
      have Hf := Lib.hid hf
      clear hf
      go_wp2_with (first
        | (go_at_call 27; go_must (refine (column_1 (p2 := none) (n := s.l.length) (N := N) (f := fun j => (s.l.getD j zeroRd).val) _ Hw.out h0 h1 hN2 hn Hf.out).mono ?_); rintro e w3 ⟨A2, c2, rfl, hown2, hb3⟩; have hb4 : Below wr.heap.size wr w3 := ((Below.refl _ _).alloc (Nat.le_refl _) _).trans (hb3.mono (by simp)))
        | (at_builtin; go_must ((refine wpList_append_E (S := fun b => F b ∨ (wr.heap.size ≤ b ∧ b ≤ w3.heap.size)) rfl (.tmp 20) (.tmp 25) rfl colsT (base := w.heap.size + 1) (v := .slice A1 3 c1) (xs := xs) (ys := [fillF N (fun j => (s.l.getD j zeroRd).val) s.l.length]) (by rfl) (by rfl) rfl (nz := 4) (by simp [Hxl.out]) (HC.out.pre hb4 _) (ColsF.lit (hown2.flatSl u64_flat (T := fun b => wr.heap.size ≤ b) (fun b hb => by simp at hb; omega)) (fun _ h _ => h) hb4.size) (by unfold maxLen; simp [Hxl.out]) (by simp [Hxl.out]) (by have := hb4.size; have := HC.out.size; simp; omega) HC.out.apart ?_); intro A5 c5 w5 hown5 hg5 hor5)))
      go_roundw
      case rel =>
        refine ⟨4, _, xs ++ [fillF N (fun j => (s.l.getD j zeroRd).val) s.l.length], A5, c5, by omega, rfl, rfl, ?_, HC.out.app hb4 hown5 hg5 hor5⟩
        rw [Hxs.out, fill_pad (fun r => r.val), ← HN.out]
        rfl
      case measure => simp [intOf]
    · have hf : ∀ (j : Nat) (W : World), j < s.l.length → Below wr.heap.size wr W → Calls Try.prog 29 #[.int .i64 j, .pointer (some ⟨w.heap.size, 0, none⟩)] W fun e W' => e = .returned (.int .u64 (if s.g.getD j false then 0 else 1)) ∧ Below W.heap.size W W' := by
        intro j W hj hbW
        have hj' : j < s.g.length := by rw [Hlen.out]; exact hj
        have hr : s.g[j]? = some (s.g.getD j false) := by simp [hj']
        exact columns2 W ((hbW.cell (p := ⟨w.heap.size, 1, none⟩) hlw).trans x1) (Hsg.out.keep (Below.agree hbW)) hr
      have Hf := Lib.hid hf
      clear hf
      go_wp2_with (first
        | (go_at_call 27; go_must (refine (column_2 (p1 := none) (p2 := none) (n := s.l.length) (N := N) (f := fun j => if s.g.getD j false then 0 else 1) _ Hw.out h0 h1 hN2 hn Hf.out).mono ?_); rintro e w3 ⟨A2, c2, rfl, hown2, hb3⟩)
        | (at_builtin; go_must ((refine wpList_append_E (S := fun b => F b ∨ (wr.heap.size ≤ b ∧ b ≤ w3.heap.size)) rfl (.tmp 28) (.tmp 33) rfl colsT (base := w.heap.size + 1) (v := .slice A1 4 c1) (xs := xs) (ys := [fillF N (fun j => if s.g.getD j false then 0 else 1) s.l.length]) (by rfl) (by rfl) rfl (nz := 5) (by simp [Hxl.out]) (HC.out.pre hb3 _) (ColsF.lit (hown2.flatSl u64_flat (T := fun b => wr.heap.size ≤ b) (fun b hb => hb)) (fun _ h _ => h) hb3.size) (by unfold maxLen; simp [Hxl.out]) (by simp [Hxl.out]) (by have := hb3.size; have := HC.out.size; simp; omega) HC.out.apart ?_); intro A5 c5 w5 hown5 hg5 hor5)))
      go_ret2
      have fin := HC.out.app hb3 hown5 hg5 hor5
      have hx5 : xs ++ [fillF N (fun j => if s.g.getD j false then 0 else 1) s.l.length] = columnsF s log := by
        rw [Hxs.out, ← Hlen.out, fill_padB, ← HN.out]
        rfl
      rw [hx5] at fin
      exact ⟨A5, c5, _, rfl, (show Own Enc.u64.slice _ w5 (w.heap.size + 1) 34 (.slice A5 5 c5) (columnsF s log) from fin.own).lower (by omega), fin.nF, fun b hb => by have := fin.ge b hb; simp at this; omega, fin.lt, ((Below.refl _ _).alloc (Nat.le_refl _) _).trans (fin.bel.mono (by simp))⟩
theorem columnsP_ok {s : Str} {A B : Option Addr} {c d : Nat} {log : Int} {S : Nat → Prop} (w : World) (he : checkF s.l.length log = 0) (h : Sl rdE S w A c s.l) (k : Sl .bool S w B d s.g) (ok : OkStr s) :
    Calls Try.prog 6 #[.agg #[.slice A s.l.length c, .slice B s.g.length d], .int .i64 log] w (ColRes w (columnsF s log, 0)) :=
  (columnsP_own w he h k ok).mono fun _ _ h => h.res
end Go.Proofs.Ytpdblgchfkcgpaa
