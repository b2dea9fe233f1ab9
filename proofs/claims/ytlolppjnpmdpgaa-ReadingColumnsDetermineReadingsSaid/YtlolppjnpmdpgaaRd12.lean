/-
  Contracts of the readings (XRd12): Columns, within its range.
-/
import Derived.Test.YtlolppjnpmdpgaaRd11
namespace Go.Proofs.Ytlolppjnpmdpgaa
open Go.RowKit

def colsK (s : Str) (log : Int) (k : Nat) : List (List Int) := [colF s log 0, colF s log 1, colF s log 2, colF s log 3].take k

/-- Columns in a slice of the call's own, that lie apart from it. -/
def ColOwn (w : World) (p : List (List Int) × Int) (e : Ending) (w' : World) : Prop :=
  ∃ A c F, e = .returned (.tuple #[.slice A p.1.length c, .int .i64 p.2]) ∧ Own Enc.u64.slice F w' w.heap.size 48 (.slice A p.1.length c) p.1 ∧ (∀ g, (Value.slice A p.1.length c).ownBlock = some g → ¬ F g) ∧ (∀ b, F b → w.heap.size ≤ b) ∧ (∀ b, F b → b < w'.heap.size) ∧ Below w.heap.size w w'
theorem ColOwn.res {w w' : World} {p : List (List Int) × Int} {e : Ending} (h : ColOwn w p e w') : ColRes w p e w' := by
  obtain ⟨A, c, F, rfl, ho, hn, hf, hl, hb⟩ := h
  exact ⟨A, c, rfl, ho.toSl (fun b h _ => hf b h) (fun b hb _ _ => hb), hb⟩
set_option maxRecDepth 100000 in
set_option maxHeartbeats 2000000 in
theorem columnsP_own {s : Str} {A B : Option Addr} {c d : Nat} {log : Int} {S : Nat → Prop} (w : World) (he : checkF s.l.length log = 0) (h : Sl rdE S w A c s.l) (k : Sl .bool S w B d s.g) (ok : OkStr s) :
    Calls Try.prog 19 #[.agg #[.slice A s.l.length c, .slice B s.g.length d], .int .i64 log] w (ColOwn w (columnsF s log, 0)) := by
  have hr0 : 0 ≤ log ∧ log ≤ 16 ∧ s.l.length ≤ 2 ^ log.toNat := by
    unfold checkF at he
    split at he
    · simp at he
    · split at he
      · simp at he
      · omega
  obtain ⟨h0, h1, hn⟩ := hr0
  obtain ⟨N, hN, hw, hN1, hN2⟩ := pow_log log h0 h1
  rw [hN] at hn
  have HN := Lib.hid hN
  have Hw := Lib.hid hw
  have He := Lib.hid he
  have H := Lib.hid h
  have K := Lib.hid k
  have Hlen := Lib.hid ok.len
  have Hval := Lib.hid ok.valid
  clear hN hw he h k ok
  have ix0 := ix_0
  have ix1 := ix_1
  have ix2 := ix_2
  have ix3 := ix_3
  go_enter Try.func19, Try.ntmps19
  go_wp2_with (first
    | (go_at_call 46; refine (checkP s A B c d log _).mono ?_; rw [He.out]; rintro e w1 ⟨rfl, hb1⟩)
    | (go_at_call 45; refine (fieldsP _).mono ?_; rintro e w2 ⟨rfl, hb2⟩))
  have hbW : Below (w.heap.size + 1) (w.alloc (.cells #[.slice A s.l.length c, .slice B s.g.length d] 30)) w2 := by
    have h1 : Below (w.heap.size + 1) (w.alloc (.cells #[.slice A s.l.length c, .slice B s.g.length d] 30)) w1 := by simpa using hb1
    exact h1.trans (hb2.mono (by have := h1.size; simpa using this))
  have hzW : w.heap.size + 1 ≤ w2.heap.size := by have := hbW.size; simpa using this
  have HbW := Lib.hid hbW
  clear hb1 hb2 hbW
  go_loopw [7, 17] (fun v i wr => ∃ (j : Nat) (F : Nat → Prop) (xs : List (List Int)) (A1 : Option Addr) (c1 : Nat), j ≤ 4 ∧ i = .int .i64 j ∧ v = .slice A1 j c1 ∧ xs = colsK s log j ∧ ColsF F (w.alloc (.cells #[.slice A s.l.length c, .slice B s.g.length d] 30)) (w.heap.size + 1) xs v wr) (fun _ i _ => 4 - (intOf i).toNat)
  case atStart =>
    refine ⟨0, fun _ => False, [], none, 0, by omega, rfl, rfl, rfl, ColsF.nil (by have := HbW.out; simpa using this) (by simp) hzW⟩
  case round =>
    obtain ⟨j, F, xs, A1, c1, hj, rfl, rfl, hxs, hC⟩ := hrel
    have hxl : xs.length = j := (Own.len hC.own).symm
    have hbl : Below (w.heap.size + 1) (w.alloc (.cells #[.slice A s.l.length c, .slice B s.g.length d] 30)) wr := by have := hC.bel; simpa using this
    have hlw : w.heap.size < wr.heap.size := by have := hbl.size; simp at this; omega
    have x0 : wr.cell? ⟨w.heap.size, 0, none⟩ = some (.slice A s.l.length c) := (hbl.cell (p := ⟨w.heap.size, 0, none⟩) (by simp)).trans (cell_of_row _ _ 0 _ _ _ (heap_alloc_at rfl))
    have x1 : wr.cell? ⟨w.heap.size, 1, none⟩ = some (.slice B s.g.length d) := (hbl.cell (p := ⟨w.heap.size, 1, none⟩) (by simp)).trans (cell_of_row _ _ 1 _ _ _ (heap_alloc_at rfl))
    have hne : w.heap.size ≠ wr.heap.size := by omega
    have hsl : Sl rdE S wr A c s.l := H.out.keep (Below.agree (((Below.refl _ _).alloc (Nat.le_refl _) _).trans (hbl.mono (by omega))))
    have hsg : Sl .bool S wr B d s.g := K.out.keep (Below.agree (((Below.refl _ _).alloc (Nat.le_refl _) _).trans (hbl.mono (by omega))))
    have Hsl := Lib.hid hsl
    have Hsg := Lib.hid hsg
    have HC := Lib.hid hC
    have Hxs := Lib.hid hxs
    have Hxl := Lib.hid hxl
    clear hbl hsl hsg hC hxs hxl
    rcases (by omega : j = 0 ∨ j = 1 ∨ j = 2 ∨ j = 3 ∨ j = 4) with rfl | rfl | rfl | rfl | rfl
    · have hf : ∀ (j : Nat) (W : World), j < s.l.length → Below (wr.alloc (.cells #[.func (.func 64) #[] #[], .int .i64 4] 76)).heap.size (wr.alloc (.cells #[.func (.func 64) #[] #[], .int .i64 4] 76)) W → Calls Try.prog 48 #[.int .i64 j, .pointer (some ⟨wr.heap.size, 0, none⟩), .pointer (some ⟨w.heap.size, 0, none⟩)] W fun e W' => e = .returned (.int .u64 ((s.l.getD j zeroRd).who)) ∧ Below W.heap.size W W' := by
        intro j W hj hbW'
        have hbW : Below (wr.heap.size + 1) (wr.alloc (.cells #[.func (.func 64) #[] #[], .int .i64 4] 76)) W := by simpa using hbW'
        have hv := Hval.out _ (List.getElem_mem hj)
        have hr : s.l[j]? = some (s.l.getD j zeroRd) := by simp [hj]
        have hv' : ValidR (s.l.getD j zeroRd) := by simpa [hj] using hv
        obtain ⟨⟨v1, v2⟩, ⟨v3, v4⟩, ⟨v5, v6⟩, v7, v8⟩ := hv'
        exact columns1_1 W ((hbW.cell (p := ⟨wr.heap.size, 0, none⟩) (by simp)).trans (cell_of_row _ _ 0 _ _ _ (heap_alloc_at rfl))) ((hbW.cell (p := ⟨w.heap.size, 0, none⟩) (by simp; omega)).trans ((World.cell?_of_block (a := ⟨w.heap.size, 0, none⟩) (Below.heap_alloc _ _ _ hlw)).trans x0)) (Hsl.out.keep (Below.agree (((Below.refl _ _).alloc (Nat.le_refl _) _).trans (hbW.mono (by omega))))) hr (by omega) (by omega)
      have Hf := Lib.hid hf
      clear hf
      go_wp2_with (first
        | (go_at_call 47; go_must (refine (column_1 (p2 := none) (n := s.l.length) (N := N) (f := fun j => (s.l.getD j zeroRd).who) _ Hw.out h0 h1 hN2 hn Hf.out).mono ?_); rintro e w3 ⟨A2, c2, rfl, hown2, hb3⟩; have hb4 : Below wr.heap.size wr w3 := ((Below.refl _ _).alloc (Nat.le_refl _) _).trans (hb3.mono (by simp)))
        | (at_builtin; go_must ((refine wpList_append_E (S := fun b => F b ∨ (wr.heap.size ≤ b ∧ b ≤ w3.heap.size)) rfl (.tmp 20) (.tmp 25) rfl colsT (base := w.heap.size + 1) (v := .slice A1 0 c1) (xs := xs) (ys := [fillF N (fun j => (s.l.getD j zeroRd).who) s.l.length]) (by rfl) (by rfl) rfl (nz := 1) (by simp [Hxl.out]) (HC.out.pre hb4 _) (ColsF.lit (hown2.flatSl u64_flat (T := fun b => wr.heap.size ≤ b) (fun b hb => by simp at hb; omega)) (fun _ h _ => h) hb4.size) (by unfold maxLen; simp [Hxl.out]) (by simp [Hxl.out]) (by have := hb4.size; have := HC.out.size; simp; omega) HC.out.apart ?_); intro A5 c5 w5 hown5 hg5 hor5)))
      go_roundw
      case rel =>
        refine ⟨1, _, xs ++ [fillF N (fun j => (s.l.getD j zeroRd).who) s.l.length], A5, c5, by omega, rfl, rfl, ?_, HC.out.app hb4 hown5 hg5 hor5⟩
        rw [Hxs.out, fill_pad (fun r => r.who), ← HN.out]
        rfl
      case measure => simp [intOf]
    · have hf : ∀ (j : Nat) (W : World), j < s.l.length → Below (wr.alloc (.cells #[.func (.func 65) #[] #[], .int .i64 8] 76)).heap.size (wr.alloc (.cells #[.func (.func 65) #[] #[], .int .i64 8] 76)) W → Calls Try.prog 48 #[.int .i64 j, .pointer (some ⟨wr.heap.size, 0, none⟩), .pointer (some ⟨w.heap.size, 0, none⟩)] W fun e W' => e = .returned (.int .u64 ((s.l.getD j zeroRd).whn)) ∧ Below W.heap.size W W' := by
        intro j W hj hbW'
        have hbW : Below (wr.heap.size + 1) (wr.alloc (.cells #[.func (.func 65) #[] #[], .int .i64 8] 76)) W := by simpa using hbW'
        have hv := Hval.out _ (List.getElem_mem hj)
        have hr : s.l[j]? = some (s.l.getD j zeroRd) := by simp [hj]
        have hv' : ValidR (s.l.getD j zeroRd) := by simpa [hj] using hv
        obtain ⟨⟨v1, v2⟩, ⟨v3, v4⟩, ⟨v5, v6⟩, v7, v8⟩ := hv'
        exact columns1_2 W ((hbW.cell (p := ⟨wr.heap.size, 0, none⟩) (by simp)).trans (cell_of_row _ _ 0 _ _ _ (heap_alloc_at rfl))) ((hbW.cell (p := ⟨w.heap.size, 0, none⟩) (by simp; omega)).trans ((World.cell?_of_block (a := ⟨w.heap.size, 0, none⟩) (Below.heap_alloc _ _ _ hlw)).trans x0)) (Hsl.out.keep (Below.agree (((Below.refl _ _).alloc (Nat.le_refl _) _).trans (hbW.mono (by omega))))) hr (by omega) (by omega)
      have Hf := Lib.hid hf
      clear hf
      go_wp2_with (first
        | (go_at_call 47; go_must (refine (column_1 (p2 := none) (n := s.l.length) (N := N) (f := fun j => (s.l.getD j zeroRd).whn) _ Hw.out h0 h1 hN2 hn Hf.out).mono ?_); rintro e w3 ⟨A2, c2, rfl, hown2, hb3⟩; have hb4 : Below wr.heap.size wr w3 := ((Below.refl _ _).alloc (Nat.le_refl _) _).trans (hb3.mono (by simp)))
        | (at_builtin; go_must ((refine wpList_append_E (S := fun b => F b ∨ (wr.heap.size ≤ b ∧ b ≤ w3.heap.size)) rfl (.tmp 20) (.tmp 25) rfl colsT (base := w.heap.size + 1) (v := .slice A1 1 c1) (xs := xs) (ys := [fillF N (fun j => (s.l.getD j zeroRd).whn) s.l.length]) (by rfl) (by rfl) rfl (nz := 2) (by simp [Hxl.out]) (HC.out.pre hb4 _) (ColsF.lit (hown2.flatSl u64_flat (T := fun b => wr.heap.size ≤ b) (fun b hb => by simp at hb; omega)) (fun _ h _ => h) hb4.size) (by unfold maxLen; simp [Hxl.out]) (by simp [Hxl.out]) (by have := hb4.size; have := HC.out.size; simp; omega) HC.out.apart ?_); intro A5 c5 w5 hown5 hg5 hor5)))
      go_roundw
      case rel =>
        refine ⟨2, _, xs ++ [fillF N (fun j => (s.l.getD j zeroRd).whn) s.l.length], A5, c5, by omega, rfl, rfl, ?_, HC.out.app hb4 hown5 hg5 hor5⟩
        rw [Hxs.out, fill_pad (fun r => r.whn), ← HN.out]
        rfl
      case measure => simp [intOf]
    · have hf : ∀ (j : Nat) (W : World), j < s.l.length → Below (wr.alloc (.cells #[.func (.func 66) #[] #[], .int .i64 4] 76)).heap.size (wr.alloc (.cells #[.func (.func 66) #[] #[], .int .i64 4] 76)) W → Calls Try.prog 48 #[.int .i64 j, .pointer (some ⟨wr.heap.size, 0, none⟩), .pointer (some ⟨w.heap.size, 0, none⟩)] W fun e W' => e = .returned (.int .u64 ((s.l.getD j zeroRd).knd)) ∧ Below W.heap.size W W' := by
        intro j W hj hbW'
        have hbW : Below (wr.heap.size + 1) (wr.alloc (.cells #[.func (.func 66) #[] #[], .int .i64 4] 76)) W := by simpa using hbW'
        have hv := Hval.out _ (List.getElem_mem hj)
        have hr : s.l[j]? = some (s.l.getD j zeroRd) := by simp [hj]
        have hv' : ValidR (s.l.getD j zeroRd) := by simpa [hj] using hv
        obtain ⟨⟨v1, v2⟩, ⟨v3, v4⟩, ⟨v5, v6⟩, v7, v8⟩ := hv'
        exact columns1_3 W ((hbW.cell (p := ⟨wr.heap.size, 0, none⟩) (by simp)).trans (cell_of_row _ _ 0 _ _ _ (heap_alloc_at rfl))) ((hbW.cell (p := ⟨w.heap.size, 0, none⟩) (by simp; omega)).trans ((World.cell?_of_block (a := ⟨w.heap.size, 0, none⟩) (Below.heap_alloc _ _ _ hlw)).trans x0)) (Hsl.out.keep (Below.agree (((Below.refl _ _).alloc (Nat.le_refl _) _).trans (hbW.mono (by omega))))) hr (by omega) (by omega)
      have Hf := Lib.hid hf
      clear hf
      go_wp2_with (first
        | (go_at_call 47; go_must (refine (column_1 (p2 := none) (n := s.l.length) (N := N) (f := fun j => (s.l.getD j zeroRd).knd) _ Hw.out h0 h1 hN2 hn Hf.out).mono ?_); rintro e w3 ⟨A2, c2, rfl, hown2, hb3⟩; have hb4 : Below wr.heap.size wr w3 := ((Below.refl _ _).alloc (Nat.le_refl _) _).trans (hb3.mono (by simp)))
        | (at_builtin; go_must ((refine wpList_append_E (S := fun b => F b ∨ (wr.heap.size ≤ b ∧ b ≤ w3.heap.size)) rfl (.tmp 20) (.tmp 25) rfl colsT (base := w.heap.size + 1) (v := .slice A1 2 c1) (xs := xs) (ys := [fillF N (fun j => (s.l.getD j zeroRd).knd) s.l.length]) (by rfl) (by rfl) rfl (nz := 3) (by simp [Hxl.out]) (HC.out.pre hb4 _) (ColsF.lit (hown2.flatSl u64_flat (T := fun b => wr.heap.size ≤ b) (fun b hb => by simp at hb; omega)) (fun _ h _ => h) hb4.size) (by unfold maxLen; simp [Hxl.out]) (by simp [Hxl.out]) (by have := hb4.size; have := HC.out.size; simp; omega) HC.out.apart ?_); intro A5 c5 w5 hown5 hg5 hor5)))
      go_roundw
      case rel =>
        refine ⟨3, _, xs ++ [fillF N (fun j => (s.l.getD j zeroRd).knd) s.l.length], A5, c5, by omega, rfl, rfl, ?_, HC.out.app hb4 hown5 hg5 hor5⟩
        rw [Hxs.out, fill_pad (fun r => r.knd), ← HN.out]
        rfl
      case measure => simp [intOf]
    · have hf : ∀ (j : Nat) (W : World), j < s.l.length → Below (wr.alloc (.cells #[.func (.func 67) #[] #[], .int .i64 8] 76)).heap.size (wr.alloc (.cells #[.func (.func 67) #[] #[], .int .i64 8] 76)) W → Calls Try.prog 48 #[.int .i64 j, .pointer (some ⟨wr.heap.size, 0, none⟩), .pointer (some ⟨w.heap.size, 0, none⟩)] W fun e W' => e = .returned (.int .u64 ((s.l.getD j zeroRd).val)) ∧ Below W.heap.size W W' := by
        intro j W hj hbW'
        have hbW : Below (wr.heap.size + 1) (wr.alloc (.cells #[.func (.func 67) #[] #[], .int .i64 8] 76)) W := by simpa using hbW'
        have hv := Hval.out _ (List.getElem_mem hj)
        have hr : s.l[j]? = some (s.l.getD j zeroRd) := by simp [hj]
        have hv' : ValidR (s.l.getD j zeroRd) := by simpa [hj] using hv
        obtain ⟨⟨v1, v2⟩, ⟨v3, v4⟩, ⟨v5, v6⟩, v7, v8⟩ := hv'
        exact columns1_4 W ((hbW.cell (p := ⟨wr.heap.size, 0, none⟩) (by simp)).trans (cell_of_row _ _ 0 _ _ _ (heap_alloc_at rfl))) ((hbW.cell (p := ⟨w.heap.size, 0, none⟩) (by simp; omega)).trans ((World.cell?_of_block (a := ⟨w.heap.size, 0, none⟩) (Below.heap_alloc _ _ _ hlw)).trans x0)) (Hsl.out.keep (Below.agree (((Below.refl _ _).alloc (Nat.le_refl _) _).trans (hbW.mono (by omega))))) hr (by omega) (by omega)
      have Hf := Lib.hid hf
      clear hf
      go_wp2_with (first
        | (go_at_call 47; go_must (refine (column_1 (p2 := none) (n := s.l.length) (N := N) (f := fun j => (s.l.getD j zeroRd).val) _ Hw.out h0 h1 hN2 hn Hf.out).mono ?_); rintro e w3 ⟨A2, c2, rfl, hown2, hb3⟩; have hb4 : Below wr.heap.size wr w3 := ((Below.refl _ _).alloc (Nat.le_refl _) _).trans (hb3.mono (by simp)))
        | (at_builtin; go_must ((refine wpList_append_E (S := fun b => F b ∨ (wr.heap.size ≤ b ∧ b ≤ w3.heap.size)) rfl (.tmp 20) (.tmp 25) rfl colsT (base := w.heap.size + 1) (v := .slice A1 3 c1) (xs := xs) (ys := [fillF N (fun j => (s.l.getD j zeroRd).val) s.l.length]) (by rfl) (by rfl) rfl (nz := 4) (by simp [Hxl.out]) (HC.out.pre hb4 _) (ColsF.lit (hown2.flatSl u64_flat (T := fun b => wr.heap.size ≤ b) (fun b hb => by simp at hb; omega)) (fun _ h _ => h) hb4.size) (by unfold maxLen; simp [Hxl.out]) (by simp [Hxl.out]) (by have := hb4.size; have := HC.out.size; simp; omega) HC.out.apart ?_); intro A5 c5 w5 hown5 hg5 hor5)))
      go_roundw
      case rel =>
        refine ⟨4, _, xs ++ [fillF N (fun j => (s.l.getD j zeroRd).val) s.l.length], A5, c5, by omega, rfl, rfl, ?_, HC.out.app hb4 hown5 hg5 hor5⟩
        rw [Hxs.out, fill_pad (fun r => r.val), ← HN.out]
        rfl
      case measure => simp [intOf]
    · have hf : ∀ (j : Nat) (W : World), j < s.l.length → Below wr.heap.size wr W → Calls Try.prog 49 #[.int .i64 j, .pointer (some ⟨w.heap.size, 0, none⟩)] W fun e W' => e = .returned (.int .u64 (if s.g.getD j false then 0 else 1)) ∧ Below W.heap.size W W' := by
        intro j W hj hbW
        have hj' : j < s.g.length := by rw [Hlen.out]; exact hj
        have hr : s.g[j]? = some (s.g.getD j false) := by simp [hj']
        exact columns2 W ((hbW.cell (p := ⟨w.heap.size, 1, none⟩) hlw).trans x1) (Hsg.out.keep (Below.agree hbW)) hr
      have Hf := Lib.hid hf
      clear hf
      go_wp2_with (first
        | (go_at_call 47; go_must (refine (column_2 (p1 := none) (p2 := none) (n := s.l.length) (N := N) (f := fun j => if s.g.getD j false then 0 else 1) _ Hw.out h0 h1 hN2 hn Hf.out).mono ?_); rintro e w3 ⟨A2, c2, rfl, hown2, hb3⟩)
        | (at_builtin; go_must ((refine wpList_append_E (S := fun b => F b ∨ (wr.heap.size ≤ b ∧ b ≤ w3.heap.size)) rfl (.tmp 28) (.tmp 33) rfl colsT (base := w.heap.size + 1) (v := .slice A1 4 c1) (xs := xs) (ys := [fillF N (fun j => if s.g.getD j false then 0 else 1) s.l.length]) (by rfl) (by rfl) rfl (nz := 5) (by simp [Hxl.out]) (HC.out.pre hb3 _) (ColsF.lit (hown2.flatSl u64_flat (T := fun b => wr.heap.size ≤ b) (fun b hb => hb)) (fun _ h _ => h) hb3.size) (by unfold maxLen; simp [Hxl.out]) (by simp [Hxl.out]) (by have := hb3.size; have := HC.out.size; simp; omega) HC.out.apart ?_); intro A5 c5 w5 hown5 hg5 hor5)))
      go_ret2
      have fin := HC.out.app hb3 hown5 hg5 hor5
      have hx5 : xs ++ [fillF N (fun j => if s.g.getD j false then 0 else 1) s.l.length] = columnsF s log := by
        rw [Hxs.out, ← Hlen.out, fill_padB, ← HN.out]
        rfl
      rw [hx5] at fin
      exact ⟨A5, c5, _, rfl, (show Own Enc.u64.slice _ w5 (w.heap.size + 1) 48 (.slice A5 5 c5) (columnsF s log) from fin.own).lower (by omega), fin.nF, fun b hb => by have := fin.ge b hb; simp at this; omega, fin.lt, ((Below.refl _ _).alloc (Nat.le_refl _) _).trans (fin.bel.mono (by simp))⟩
theorem columnsP_ok {s : Str} {A B : Option Addr} {c d : Nat} {log : Int} {S : Nat → Prop} (w : World) (he : checkF s.l.length log = 0) (h : Sl rdE S w A c s.l) (k : Sl .bool S w B d s.g) (ok : OkStr s) :
    Calls Try.prog 19 #[.agg #[.slice A s.l.length c, .slice B s.g.length d], .int .i64 log] w (ColRes w (columnsF s log, 0)) :=
  (columnsP_own w he h k ok).mono fun _ _ h => h.res
end Go.Proofs.Ytlolppjnpmdpgaa
