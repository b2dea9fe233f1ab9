/-
  Contracts of the type checker (XQ10): the bounds of 16 counters.
-/
import Derived.Test.YtihcaoipemcddaaDoorQ9
namespace Go.Proofs.YtihcaoipemcddaaDoor
open Go.RowKit

def WidB (N : Nat) (w : World) : Prop := ∃ b es clock, w.cell? ⟨0, 0, none⟩ = some (.map (some b)) ∧ 0 < N ∧ b < N ∧ b < w.heap.size ∧ w.heap[b]? = some (.map es clock) ∧
  ∀ W : World, W.heap[b]? = some (.map es clock) → ∀ k : Int, -9223372036854775808 ≤ k → k ≤ 9223372036854775807 → (Instr.lookup 72 (.map (some b)) (.int .i64 k) false).run Tryd.prog W = .ok (.int .i64 (bitsC k)) W
theorem WidOk.toB {w : World} {N : Nat} (h : WidOk w) (hN : w.heap.size ≤ N) : WidB N w := by
  obtain ⟨b, es, clock, h1, h2, h3⟩ := h
  have := World.block_lt_of_cell? w _ h1
  have := heap_lt h2
  exact ⟨b, es, clock, h1, by simp only at *; omega, by omega, by omega, h2, h3⟩
theorem WidB.ok {w : World} {N : Nat} (h : WidB N w) : WidOk w := by
  obtain ⟨b, es, clock, h1, _, _, _, h2, h3⟩ := h
  exact ⟨b, es, clock, h1, h2, h3⟩
theorem WidB.keep {w w' : World} {N : Nat} (h : WidB N w) (hb : Below N w w') : WidB N w' := by
  obtain ⟨b, es, clock, h1, h2, h3, h4, h5, h6⟩ := h
  exact ⟨b, es, clock, (hb.cell (p := ⟨0, 0, none⟩) h2).trans h1, h2, h3, Nat.lt_of_lt_of_le h4 hb.size, (hb.block b h3).trans h5, h6⟩
theorem i64sT : SlT Tryd.prog 27 2 Enc.i64 8 := ⟨Tryd.underlying27, by kernel_rfl, by decide⟩
def bucketS (s : Int × Int) (l : List Cd) (rows : Int) (v : Nat) : Int := if inB_ s v && satB l then rows else 0
def bucketsS (s : Int × Int) (l : List Cd) (rows : Int) : List Int := (List.range 16).map (bucketS s l rows)
theorem bucketsS_under (l : List Cd) (col rows : Int) : bucketsS (underF l col) l rows = bucketsF l col rows := rfl

/-- What buckets' closure keeps: the range, the filter, the row that it lengthens. -/
structure Bk (w0 : World) (N base g1 g2 g3 : Nat) (s : Int × Int) (l : List Cd) (A : Option Addr) (c : Nat) (v : Value) (ys : List Int) (wx : World) : Prop where
  own : Own Enc.i64 (fun _ => False) wx base 2 v ys
  ap : ∀ k, v.ownBlock = some k → k ≠ g1 ∧ k ≠ g2 ∧ k ≠ g3
  b1 : wx.heap[g1]? = some (.cells #[.int .i64 s.1, .int .i64 s.2] 89 (0, 0))
  b2 : wx.heap[g2]? = some (.cells #[.slice A l.length c] 44 (0, 0))
  b3 : wx.heap[g3]? = some (.cells #[v] 27 (0, 0))
  bel : Below N w0 wx
  wid : WidB N wx
  flt : Sl cdE (fun b => b < N) wx A c l
section
variable {w0 wx w' : World} {N base g1 g2 g3 : Nat} {s : Int × Int} {l : List Cd} {A : Option Addr} {c : Nat} {v v' : Value} {ys zs : List Int}
theorem Bk.call (h : Bk w0 N base g1 g2 g3 s l A c v ys wx) (hN : N ≤ wx.heap.size) (hb : Below wx.heap.size wx w') : Bk w0 N base g1 g2 g3 s l A c v ys w' :=
  ⟨h.own.call hb, h.ap, (hb.block _ (heap_lt h.b1)).trans h.b1, (hb.block _ (heap_lt h.b2)).trans h.b2, (hb.block _ (heap_lt h.b3)).trans h.b3, h.bel.trans (hb.mono hN), h.wid.keep (hb.mono hN), h.flt.keep (Below.agree hb)⟩
/-- One number appended, and the longer row laid back. -/
theorem Bk.app {o : Obj} (h : Bk w0 N base g1 g2 g3 s l A c v ys wx) (hN : N ≤ wx.heap.size) (hNb : N ≤ base) (hN3 : N ≤ g3) (h13 : g1 ≠ g3) (h23 : g2 ≠ g3) (ho : Own Enc.i64 (fun b => b = wx.heap.size) w' base 2 v' zs) (hg : (wx.alloc o).grownBy w' v.ownBlock)
    (hor : ∀ g, v'.ownBlock = some g → v.ownBlock = some g ∨ (wx.alloc o).heap.size = g) : Bk w0 N base g1 g2 g3 s l A c v' zs (w'.setCell ⟨g3, 0, none⟩ v') := by
  have hz := hg.size
  simp at hz
  have l1 := heap_lt h.b1
  have l2 := heap_lt h.b2
  have l3 := heap_lt h.b3
  have ap' : ∀ k, v'.ownBlock = some k → k ≠ g1 ∧ k ≠ g2 ∧ k ≠ g3 := by
    intro k hk
    rcases hor k hk with e | e
    · exact h.ap k e
    · simp at e; omega
  have blk : ∀ b, b < wx.heap.size → (∀ k, v.ownBlock = some k → k ≠ b) → w'.heap[b]? = wx.heap[b]? := fun b hb hne =>
    (hg.block b (by simp; omega) (fun e => hne b e.symm rfl)).trans (Below.heap_alloc _ _ _ hb)
  have hB : Below N wx w' := ((Below.refl N wx).alloc hN _).grown hg (by simp; omega) (fun k hk => by have := (h.own.lt k hk).1; omega)
  refine ⟨(ho.flat i64_flat).set (fun e => (ap' g3 e).2.2 rfl) (fun h => h) _, ap', ?_, ?_, ?_, ?_, ?_, ?_⟩
  · exact (Below.heap_setCell _ _ _ _ h13).trans ((blk g1 l1 (fun k hk => (h.ap k hk).1)).trans h.b1)
  · exact (Below.heap_setCell _ _ _ _ h23).trans ((blk g2 l2 (fun k hk => (h.ap k hk).2.1)).trans h.b2)
  · exact heap_set (i := 0) ((blk g3 l3 (fun k hk => (h.ap k hk).2.2)).trans h.b3)
  · exact (h.bel.trans hB).setCell hN3 _
  · exact h.wid.keep (hB.setCell hN3 _)
  · exact h.flt.keep ((Agree.refl _ _).below (hB.setCell (p := ⟨g3, 0, none⟩) hN3 v') (fun _ h _ => h))
theorem g3cell {o : Obj} (h : Bk w0 N base g1 g2 g3 s l A c v ys wx) (hN : N ≤ wx.heap.size) (hg : (wx.alloc o).grownBy w' v.ownBlock) : w'.cell? ⟨g3, 0, none⟩ = some v ∧ w'.frozen? ⟨g3, 0, none⟩ = false := by
  have l3 := heap_lt h.b3
  have e : w'.heap[g3]? = some (.cells #[v] 27 (0, 0)) := (hg.block g3 (by simp; omega) (fun e => (h.ap g3 e.symm).2.2 rfl)).trans ((Below.heap_alloc _ _ _ l3).trans h.b3)
  exact ⟨cell_of_row _ _ 0 _ _ _ e, by simp [World.frozen?, e]⟩
end
/-- What the closure leaves. -/
def BkRes (w0 : World) (N base g1 g2 g3 : Nat) (s : Int × Int) (l : List Cd) (A : Option Addr) (c : Nat) (zs : List Int) (e : Ending) (w' : World) : Prop :=
  ∃ B n d, e = .returned (.slice B n d) ∧ n = zs.length ∧ Bk w0 N base g1 g2 g3 s l A c (.slice B n d) zs w'
set_option maxRecDepth 100000 in
set_option maxHeartbeats 4000000 in
theorem buckets1P {w0 : World} {N base g1 g2 g3 : Nat} {s : Int × Int} {l : List Cd} {A : Option Addr} {c : Nat} {v : Value} {xs : List Int} (rows : Int) (w : World) (h : Bk w0 N base g1 g2 g3 s l A c v xs w)
    (hN : N ≤ w.heap.size) (hNb : N ≤ base) (hbw : base ≤ w.heap.size) (hN3 : N ≤ g3) (h13 : g1 ≠ g3) (h23 : g2 ≠ g3) (hx : xs.length ≤ 100) :
    Calls Tryd.prog 64 #[.int .i64 rows, .pointer (some ⟨g1, 0, none⟩), .pointer (some ⟨g2, 0, none⟩), .pointer (some ⟨g3, 0, none⟩)] w (BkRes w0 N base g1 g2 g3 s l A c (xs ++ bucketsS s l rows)) := by
  have HB := Lib.hid h
  clear h
  go_enter Tryd.func64, Tryd.ntmps64
  go_wp2_with fail
  go_loopw [8] (fun i wr => ∃ (j : Nat) (v : Value) (ys : List Int), j ≤ 16 ∧ i = .int .i64 j ∧ ys = xs ++ (bucketsS s l rows).take j ∧ N ≤ wr.heap.size ∧ base ≤ wr.heap.size ∧ Bk w0 N base g1 g2 g3 s l A c v ys wr) (fun i _ => 16 - (intOf i).toNat)
  case atStart => exact ⟨0, v, xs, Nat.zero_le _, rfl, by simp, hN, hbw, HB.out⟩
  case round =>
    obtain ⟨j, v, ys, hj, rfl, hys, hNW, hbW, hB⟩ := hrel
    have Hys := Lib.hid hys
    have HK := Lib.hid hB
    obtain ⟨A1, c1, e1, -⟩ := hB.own.form
    subst e1
    have lo := hB.own.lt
    have x0 := cell_of_row wr g1 0 _ _ _ hB.b1
    have x1 := cell_of_row wr g1 1 _ _ _ hB.b1
    have y0 := cell_of_row wr g2 0 _ _ _ hB.b2
    have z0 := cell_of_row wr g3 0 _ _ _ hB.b3
    simp only [List.getElem?_toArray, List.getElem?_cons_zero, List.getElem?_cons_succ] at x0 x1 y0 z0
    have l3 := heap_lt hB.b3
    have hlen : ys.length ≤ 116 := by rw [hys, List.length_append, List.length_take]; omega
    have hj0 : (0 : Int) ≤ (j : Int) := by omega
    clear hys hB
    by_cases hlt : j < 16
    · have hj1 : (j : Int) < 16 := by omega
      have hb16 : (bucketsS s l rows)[j]? = some (bucketS s l rows j) := by unfold bucketsS; rw [List.getElem?_map, List.getElem?_range hlt]; rfl
      have hS := Lib.hid (take_snocR hb16)
      clear hb16
      by_cases k1 : s.1 ≤ (j : Int)
      · by_cases k2 : (j : Int) ≤ s.2
        · cases hsat : satB l with
          | true =>
            have HV := Lib.hid (show bucketS s l rows j = rows by unfold bucketS inB_; rw [decide_eq_true ⟨k1, k2⟩, hsat]; rfl)
            go_wp2_with (first
              | (go_at_call 57; refine (satP _ HK.out.wid.ok HK.out.flt).mono ?_; rw [hsat]; rintro e w5 ⟨rfl, hb5⟩; have HK5 := Lib.hid (HK.out.call hNW hb5); obtain ⟨hc5, hf5⟩ := bcell hb5; have hz5 := hb5.size)
              | (at_builtin; go_must ((refine wpList_append_E (S := fun b => b = w5.heap.size) rfl (.tmp 26) (.tmp 28) rfl i64sT (base := base) (v := .slice A1 ys.length c1) (xs := ys) (ys := [rows]) (by rfl) (by rfl) rfl (nz := ys.length + 1) (by simp) ((HK5.out.own.flat i64_flat).alloc _) (Sl.litAt (S := fun b => b = w5.heap.size) rfl (.single rfl) (by unfold maxLen; simp) (fun _ h _ => h) rfl) (by unfold maxLen; simp; omega) (by simp; omega) (by simp; omega) (fun g hg (hs : g = w5.heap.size) => absurd (lo g hg).2 (by omega)) ?_; intro A6 c6 w6 hown6 hg6 hor6; have fin := Lib.hid (HK5.out.app (by omega) hNb hN3 h13 h23 hown6 hg6 hor6); have hz6 := hg6.size; simp at hz6; have hz6' : N ≤ w6.heap.size := (by omega); have hz6'' : base ≤ w6.heap.size := (by omega); obtain ⟨y3', f3'⟩ := g3cell HK5.out (by omega) hg6; have l3' : g3 < w6.heap.size := (by omega)))))
            go_roundw
            case rel => exact ⟨j + 1, _, ys ++ [rows], by omega, by go_num, by rw [hS.out, Hys.out, HV.out, List.append_assoc], by simpa [World.setCell] using hz6', by simpa [World.setCell] using hz6'', by simpa using fin.out⟩
            case measure => simp [intOf]; omega
          | false =>
            have HV := Lib.hid (show bucketS s l rows j = 0 by unfold bucketS; rw [hsat, Bool.and_false]; rfl)
            go_wp2_with (first
              | (go_at_call 57; refine (satP _ HK.out.wid.ok HK.out.flt).mono ?_; rw [hsat]; rintro e w5 ⟨rfl, hb5⟩; have HK5 := Lib.hid (HK.out.call hNW hb5); obtain ⟨hc5, hf5⟩ := bcell hb5; have hz5 := hb5.size)
              | (at_builtin; go_must ((refine wpList_append_E (S := fun b => b = w5.heap.size) rfl (.tmp 26) (.tmp 28) rfl i64sT (base := base) (v := .slice A1 ys.length c1) (xs := ys) (ys := [0]) (by rfl) (by rfl) rfl (nz := ys.length + 1) (by simp) ((HK5.out.own.flat i64_flat).alloc _) (Sl.litAt (S := fun b => b = w5.heap.size) rfl (.single rfl) (by unfold maxLen; simp) (fun _ h _ => h) rfl) (by unfold maxLen; simp; omega) (by simp; omega) (by simp; omega) (fun g hg (hs : g = w5.heap.size) => absurd (lo g hg).2 (by omega)) ?_; intro A6 c6 w6 hown6 hg6 hor6; have fin := Lib.hid (HK5.out.app (by omega) hNb hN3 h13 h23 hown6 hg6 hor6); have hz6 := hg6.size; simp at hz6; have hz6' : N ≤ w6.heap.size := (by omega); have hz6'' : base ≤ w6.heap.size := (by omega); obtain ⟨y3', f3'⟩ := g3cell HK5.out (by omega) hg6; have l3' : g3 < w6.heap.size := (by omega)))))
            go_roundw
            case rel => exact ⟨j + 1, _, ys ++ [0], by omega, by go_num, by rw [hS.out, Hys.out, HV.out, List.append_assoc], by simpa [World.setCell] using hz6', by simpa [World.setCell] using hz6'', by simpa using fin.out⟩
            case measure => simp [intOf]; omega
        · have HV := Lib.hid (show bucketS s l rows j = 0 by unfold bucketS inB_; rw [decide_eq_false (fun h => k2 h.2)]; rfl)
          have k2' : decide ((j : Int) ≤ s.2) = false := decide_eq_false k2
          go_wp2_with (first
            | (at_builtin; go_must ((refine wpList_append_E (S := fun b => b = wr.heap.size) rfl (.tmp 26) (.tmp 28) rfl i64sT (base := base) (v := .slice A1 ys.length c1) (xs := ys) (ys := [0]) (by rfl) (by rfl) rfl (nz := ys.length + 1) (by simp) ((HK.out.own.flat i64_flat).alloc _) (Sl.litAt (S := fun b => b = wr.heap.size) rfl (.single rfl) (by unfold maxLen; simp) (fun _ h _ => h) rfl) (by unfold maxLen; simp; omega) (by simp; omega) (by simp; omega) (fun g hg (hs : g = wr.heap.size) => absurd (lo g hg).2 (by omega)) ?_; intro A6 c6 w6 hown6 hg6 hor6; have fin := Lib.hid (HK.out.app (by omega) hNb hN3 h13 h23 hown6 hg6 hor6); have hz6 := hg6.size; simp at hz6; have hz6' : N ≤ w6.heap.size := (by omega); have hz6'' : base ≤ w6.heap.size := (by omega); obtain ⟨y3', f3'⟩ := g3cell HK.out (by omega) hg6; have l3' : g3 < w6.heap.size := (by omega)))))
          go_roundw
          case rel => exact ⟨j + 1, _, ys ++ [0], by omega, by go_num, by rw [hS.out, Hys.out, HV.out, List.append_assoc], by simpa [World.setCell] using hz6', by simpa [World.setCell] using hz6'', by simpa using fin.out⟩
          case measure => simp [intOf]; omega
      · have HV := Lib.hid (show bucketS s l rows j = 0 by unfold bucketS inB_; rw [decide_eq_false (fun h => k1 h.1)]; rfl)
        have k1' : decide (s.1 ≤ (j : Int)) = false := decide_eq_false k1
        go_wp2_with (first
          | (at_builtin; go_must ((refine wpList_append_E (S := fun b => b = wr.heap.size) rfl (.tmp 26) (.tmp 28) rfl i64sT (base := base) (v := .slice A1 ys.length c1) (xs := ys) (ys := [0]) (by rfl) (by rfl) rfl (nz := ys.length + 1) (by simp) ((HK.out.own.flat i64_flat).alloc _) (Sl.litAt (S := fun b => b = wr.heap.size) rfl (.single rfl) (by unfold maxLen; simp) (fun _ h _ => h) rfl) (by unfold maxLen; simp; omega) (by simp; omega) (by simp; omega) (fun g hg (hs : g = wr.heap.size) => absurd (lo g hg).2 (by omega)) ?_; intro A6 c6 w6 hown6 hg6 hor6; have fin := Lib.hid (HK.out.app (by omega) hNb hN3 h13 h23 hown6 hg6 hor6); have hz6 := hg6.size; simp at hz6; have hz6' : N ≤ w6.heap.size := (by omega); have hz6'' : base ≤ w6.heap.size := (by omega); obtain ⟨y3', f3'⟩ := g3cell HK.out (by omega) hg6; have l3' : g3 < w6.heap.size := (by omega)))))
        go_roundw
        case rel => exact ⟨j + 1, _, ys ++ [0], by omega, by go_num, by rw [hS.out, Hys.out, HV.out, List.append_assoc], by simpa [World.setCell] using hz6', by simpa [World.setCell] using hz6'', by simpa using fin.out⟩
        case measure => simp [intOf]; omega
    · have hj1 : ¬ (j : Int) < 16 := by omega
      obtain rfl : j = 16 := by omega
      go_wp2_with fail
      go_ret
      have e16 : ys = xs ++ bucketsS s l rows := by rw [Hys.out, List.take_of_length_le (by simp [bucketsS])]
      exact ⟨_, _, _, rfl, by rw [e16], by rw [← e16]; exact HK.out⟩
end Go.Proofs.YtihcaoipemcddaaDoor
