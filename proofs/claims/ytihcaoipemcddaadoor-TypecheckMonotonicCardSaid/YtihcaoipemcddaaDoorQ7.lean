/-
  Contracts of the type checker (XQ7): the widths of columns (a package's map), ranges, whether a filter can be met.
-/
import Derived.Test.YtihcaoipemcddaaDoorQ1
namespace Go.Proofs.YtihcaoipemcddaaDoor
open Go.RowKit

/-- The package's map of widths lies as its text lays it. -/
def WidOk (w : World) : Prop := ∃ b es clock, w.cell? ⟨0, 0, none⟩ = some (.map (some b)) ∧ w.heap[b]? = some (.map es clock) ∧
  ∀ W : World, W.heap[b]? = some (.map es clock) → ∀ k : Int, -9223372036854775808 ≤ k → k ≤ 9223372036854775807 → (Instr.lookup 72 (.map (some b)) (.int .i64 k) false).run Tryd.prog W = .ok (.int .i64 (bitsC k)) W
theorem WidOk.keep {w w' : World} (h : WidOk w) (hb : Below w.heap.size w w') : WidOk w' := by
  obtain ⟨b, es, clock, h1, h2, h3⟩ := h
  exact ⟨b, es, clock, (hb.cell (p := ⟨0, 0, none⟩) (World.block_lt_of_cell? w _ h1)).trans h1, (hb.block b (heap_lt h2)).trans h2, h3⟩
theorem WidOk.alloc {w : World} (h : WidOk w) (o : Obj) : WidOk (w.alloc o) := h.keep ((Below.refl _ _).alloc (Nat.le_refl _) _)
theorem mvW {w w' : World} (h : Hid (WidOk w)) (hb : Below w.heap.size w w') : Hid (WidOk w') := Lib.hid (h.out.keep hb)
theorem bitsP {c : Int} (w : World) (hw : WidOk w) (h0 : -9223372036854775808 ≤ c) (h1 : c ≤ 9223372036854775807) : Calls Tryd.prog 17 #[.int .i64 c] w fun e w' => e = .returned (.int .i64 (bitsC c)) ∧ w = w' := by
  obtain ⟨b, es, clock, hc, hb, hl⟩ := hw
  have hrun := hl w hb c h0 h1
  clear hl
  go_enter Tryd.func17, Tryd.ntmps17
  go_wp2_with fail
  go_ret
  exact ⟨rfl, rfl⟩

theorem bits_n (c : Int) : ∃ n : Int, bitsC c = n ∧ 0 ≤ n ∧ n ≤ 8 ∧ wrap64 (2 ^ n.toNat) = 2 ^ n.toNat ∧ span0 c = (0, 2 ^ n.toNat - 1) ∧ (1 : Int) ≤ 2 ^ n.toNat ∧ (2 : Int) ^ n.toNat ≤ 256 := by
  refine ⟨bitsC c, rfl, ?_⟩
  have : bitsC c = 4 ∨ bitsC c = 8 ∨ bitsC c = 1 ∨ bitsC c = 0 := by unfold bitsC; (repeat' split) <;> simp
  unfold span0
  rcases this with h | h | h | h <;> rw [h] <;> exact ⟨by decide, by decide, IntWalk.wrap64_in _ (by decide), rfl, by decide, by decide⟩
/-- What a loop over conditions has gathered in box g. -/
def SpanAt (w : World) (g : Nat) (s : Int × Int) (wx : World) : Prop :=
  Below w.heap.size w wx ∧ wx.heap[g]? = some (.cells #[.int .i64 s.1, .int .i64 s.2] 89 (0, 0))
set_option maxRecDepth 100000 in
set_option maxHeartbeats 2000000 in
theorem underP {l : List Cd} {A : Option Addr} {c : Nat} {S : Nat → Prop} (col : Int) (w : World) (hw : WidOk w) (h : Sl cdE S w A c l) (h0 : -9223372036854775808 ≤ col) (h1 : col ≤ 9223372036854775807) :
    Calls Tryd.prog 59 #[.slice A l.length c, .int .i64 col] w fun e w' => e = .returned (.agg #[.int .i64 (underF l col).1, .int .i64 (underF l col).2]) ∧ Below w.heap.size w w' := by
  have hm := h.max
  have H := Lib.hid h
  have HW := Lib.hid hw
  obtain ⟨n, hn, hn0, hn8, hsh, hsp, hN1, hN2⟩ := bits_n col
  clear h hw
  have Hsp := Lib.hid hsp
  obtain ⟨N, hN⟩ : ∃ N : Int, 2 ^ n.toNat = N := ⟨_, rfl⟩
  rw [hN] at hN1 hN2
  replace hsh : wrap64 (2 ^ n.toNat) = N := hsh.trans hN
  have HN := Lib.hid hN
  have Hn := Lib.hid hn
  clear hsp hN hn
  go_enter Tryd.func59, Tryd.ntmps59
  go_wp2_with (go_at_call 17; refine (bitsP _ (HW.out.alloc _) h0 h1).mono ?_; rw [Hn.out]; rintro e w1 ⟨rfl, rfl⟩)
  go_loopw [15] (fun i wx => ∃ j : Nat, j ≤ l.length ∧ i = .int .i64 j ∧ SpanAt w (w.heap.size + 1) ((l.take j).foldl (spanStep col) (span0 col)) wx ∧ wx.heap[w.heap.size]? = some (.cells #[.int .i64 0, .int .i64 0] 89 (0, 0))) (fun i _ => l.length - (intOf i).toNat)
  case atStart =>
    refine ⟨0, Nat.zero_le _, rfl, ⟨(by repeat' (first | with_reducible exact Below.refl _ _ | with_reducible assumption | with_reducible refine Below.setCell ?_ ?_ _ | with_reducible refine Below.drew ?_ | with_reducible refine below_drewN ?_ _ | with_reducible refine Below.alloc ?_ ?_ _ | (rintro _ ⟨⟩; simp <;> omega) | omega | (simp <;> omega))), ?_⟩, ?_⟩
    · rw [List.take_zero, List.foldl_nil, Hsp.out, HN.out]; exact heap_alloc_at (by simp)
    · exact (Below.heap_alloc _ _ _ (by simp)).trans (heap_alloc_at rfl)
  case round =>
    obtain ⟨j, hj, rfl, ⟨hb, hg⟩, hg0⟩ := hrel
    have Hb := Lib.hid hb
    have Hg0 := Lib.hid hg0
    obtain ⟨s, hs⟩ : ∃ s, (l.take j).foldl (spanStep col) (span0 col) = s := ⟨_, rfl⟩
    rw [hs] at hg
    have Hg := Lib.hid hg
    have Hs := Lib.hid hs
    have y0 := cell_of_row wr (w.heap.size + 1) 0 _ _ _ hg
    have y1 := cell_of_row wr (w.heap.size + 1) 1 _ _ _ hg
    have f0 : wr.frozen? ⟨w.heap.size + 1, 0, none⟩ = false := by simp [World.frozen?, hg]
    have f1 : wr.frozen? ⟨w.heap.size + 1, 1, none⟩ = false := by simp [World.frozen?, hg]
    have lg := heap_lt hg
    have lg0 := heap_lt hg0
    have hj0 : (0 : Int) ≤ (j : Int) := by omega
    simp only [List.getElem?_toArray, List.getElem?_cons_zero, List.getElem?_cons_succ] at y0 y1
    by_cases hlt : j < l.length
    · obtain ⟨x, hx⟩ : ∃ x, l[j]? = some x := ⟨_, List.getElem?_eq_getElem hlt⟩
      obtain ⟨b1, o1, e1, -, l1, x0, x1, x2⟩ := cd_at (H.out.keep (Below.agree hb)) hx
      subst e1
      have hj1 : (j : Int) < (l.length : Int) := by omega
      have hn : (l.take (j + 1)).foldl (spanStep col) (span0 col) = spanStep col s x := by rw [take_snocR hx, List.foldl_append, hs]; rfl
      have Hn' := Lib.hid hn
      clear hb hg hg0 hs hx hn
      by_cases hc : x.col = col
      · have hc' : (x.col == col) = true := by simp [hc]
        have hst := Lib.hid (show spanStep col s x = (if s.1 < x.lo then x.lo else s.1, if x.hi < s.2 then x.hi else s.2) from (if_pos hc).trans (by rw [Prod.mk.injEq]; constructor <;> split <;> omega))
        clear hc
        go_wp2_with fail
        go_roundw
        case rel =>
          refine ⟨j + 1, by omega, by go_num, ⟨?_, ?_⟩, ?_⟩
          · have hb0 := Hb.out
            have hz0 := hb0.size
            exact (by repeat' (first | with_reducible exact Below.refl _ _ | with_reducible assumption | with_reducible refine Below.setCell ?_ ?_ _ | with_reducible refine Below.drew ?_ | with_reducible refine below_drewN ?_ _ | with_reducible refine Below.alloc ?_ ?_ _ | (rintro _ ⟨⟩; simp <;> omega) | omega | (simp <;> omega)))
          · rw [Hn'.out, hst.out]
            exact (Below.heap_alloc _ _ _ (by simp [World.setCell]; exact lg)).trans (heap_set (i := 1) (heap_set (i := 0) (u := .int .i64 (if s.1 < x.lo then x.lo else s.1)) Hg.out))
          · exact (Below.heap_alloc _ _ _ (by simp [World.setCell]; exact lg0)).trans ((Below.heap_setCell _ _ _ _ (by simp)).trans ((Below.heap_setCell _ _ _ _ (by simp)).trans Hg0.out))
        case measure => simp [intOf]; omega
      · have hc' : (x.col == col) = false := by simpa using hc
        have hst := Lib.hid (show spanStep col s x = s from if_neg hc)
        clear hc
        go_wp2_with fail
        go_roundw
        case rel => exact ⟨j + 1, by omega, by go_num, ⟨Hb.out.alloc Hb.out.size _, by rw [Hn'.out, hst.out]; exact (Below.heap_alloc _ _ _ lg).trans Hg.out⟩, (Below.heap_alloc _ _ _ lg0).trans Hg0.out⟩
        case measure => simp [intOf]; omega
    · have hj1 : ¬ (j : Int) < (l.length : Int) := by omega
      have hfin : s = underF l col := by rw [← hs, List.take_of_length_le (by omega)]; rfl
      have z0 := cell_of_row wr w.heap.size 0 _ _ _ hg0
      have z1 := cell_of_row wr w.heap.size 1 _ _ _ hg0
      have k0 : wr.frozen? ⟨w.heap.size, 0, none⟩ = false := by simp [World.frozen?, hg0]
      have k1 : wr.frozen? ⟨w.heap.size, 1, none⟩ = false := by simp [World.frozen?, hg0]
      simp only [List.getElem?_toArray, List.getElem?_cons_zero, List.getElem?_cons_succ] at z0 z1
      subst hfin
      clear hb hg hg0 hs
      go_wp2_with fail
      refine bodyPost_ret (v := .agg #[.int .i64 (underF l col).1, .int .i64 (underF l col).2]) (by simp [results, Tryd.results59, go_sem, *]) rfl ⟨rfl, ?_⟩
      exact (Hb.out.setCell (Nat.le_refl _) _).setCell (Nat.le_refl _) _
end Go.Proofs.YtihcaoipemcddaaDoor
