/-
  Texts of this claim, merged: Q10, Q16, Map, Q4. Conditions: as each theorem says.
-/
import Derived.Lib.Mul64
import Derived.Laws.Bits64b
import Derived.Shelf.Bits.Mul64
import Derived.MapKept
import Derived.Carry
import Derived.Test.YtmkpaolbejlodaaDoorC1
import Derived.Test.YtmkpaolbejlodaaDoorC2
set_option linter.unusedSimpArgs false
set_option linter.unusedVariables false
namespace Go.Proofs.YtmkpaolbejlodaaDoor
open Go.RowKit

def WidB (N : Nat) (w : World) : Prop := ∃ b es clock, w.cell? ⟨0, 0, none⟩ = some (.map (some b)) ∧ 0 < N ∧ b < N ∧ b < w.heap.size ∧ w.heap[b]? = some (.map es clock) ∧
  ∀ W : World, W.heap[b]? = some (.map es clock) → ∀ k : Int, -9223372036854775808 ≤ k → k ≤ 9223372036854775807 → (Instr.lookup 121 (.map (some b)) (.int .i64 k) false).run Tryd.prog W = .ok (.int .i64 (bitsC k)) W
theorem WidB.ok {w : World} {N : Nat} (h : WidB N w) : WidOk w := by
  obtain ⟨b, es, clock, h1, _, _, _, h2, h3⟩ := h
  exact ⟨b, es, clock, h1, h2, h3⟩
theorem WidB.keep {w w' : World} {N : Nat} (h : WidB N w) (hb : Below N w w') : WidB N w' := by
  obtain ⟨b, es, clock, h1, h2, h3, h4, h5, h6⟩ := h
  exact ⟨b, es, clock, (hb.cell (p := ⟨0, 0, none⟩) h2).trans h1, h2, h3, Nat.lt_of_lt_of_le h4 hb.size, (hb.block b h3).trans h5, h6⟩
theorem i64sT : SlT Tryd.prog 33 2 Enc.i64 8 := ⟨Tryd.underlying33, by kernel_rfl, by decide⟩
/-- What buckets' closure keeps: the range, the filter, the row that it lengthens. -/
structure Bk (w0 : World) (N base g1 g2 g3 : Nat) (s : Int × Int) (l : List Cd) (A : Option Addr) (c : Nat) (v : Value) (ys : List Int) (wx : World) : Prop where
  own : Own Enc.i64 (fun _ => False) wx base 2 v ys
  ap : ∀ k, v.ownBlock = some k → k ≠ g1 ∧ k ≠ g2 ∧ k ≠ g3
  b1 : wx.heap[g1]? = some (.cells #[.int .i64 s.1, .int .i64 s.2] 110 (0, 0))
  b2 : wx.heap[g2]? = some (.cells #[.slice A l.length c] 49 (0, 0))
  b3 : wx.heap[g3]? = some (.cells #[v] 33 (0, 0))
  bel : Below N w0 wx
  wid : WidB N wx
  flt : Sl cdE (fun b => b < N) wx A c l
section
variable {w0 wx w' : World} {N base g1 g2 g3 : Nat} {s : Int × Int} {l : List Cd} {A : Option Addr} {c : Nat} {v v' : Value} {ys zs : List Int}
theorem Bk.call (h : Bk w0 N base g1 g2 g3 s l A c v ys wx) (hN : N ≤ wx.heap.size) (hb : Below wx.heap.size wx w') : Bk w0 N base g1 g2 g3 s l A c v ys w' :=
  ⟨h.own.call hb, h.ap, (hb.block _ (heap_lt h.b1)).trans h.b1, (hb.block _ (heap_lt h.b2)).trans h.b2, (hb.block _ (heap_lt h.b3)).trans h.b3, h.bel.trans (hb.mono hN), h.wid.keep (hb.mono hN), h.flt.keep (Below.agree hb)⟩
/-- One number appended, and the longer row laid back. -/
theorem Bk.app {o : Obj} (h : Bk w0 N base g1 g2 g3 s l A c v ys wx) (hN : N ≤ wx.heap.size) (hNb : N ≤ base) (hN3 : N ≤ g3) (h13 : g1 ≠ g3) (h23 : g2 ≠ g3) (ho : Own Enc.i64 (fun b => b = wx.heap.size) w' base 2 v' zs) (hg : (wx.alloc o).grownBy w' v.ownBlock)
    (hor : ∀ g, v'.ownBlock = some g → v.ownBlock = some g ∨ (wx.alloc o).heap.size = g) : Bk w0 N base g1 g2 g3 s l A c v' zs (w'.setCell ⟨g3, 0, none⟩ v') := by
  have hz := hg.size
  simp at hz
  have l1 := heap_lt h.b1
  have l2 := heap_lt h.b2
  have l3 := heap_lt h.b3
  have ap' : ∀ k, v'.ownBlock = some k → k ≠ g1 ∧ k ≠ g2 ∧ k ≠ g3 := by
    intro k hk
    rcases hor k hk with e | e
    · exact h.ap k e
    · simp at e; omega
  have blk : ∀ b, b < wx.heap.size → (∀ k, v.ownBlock = some k → k ≠ b) → w'.heap[b]? = wx.heap[b]? := fun b hb hne =>
    (hg.block b (by simp; omega) (fun e => hne b e.symm rfl)).trans (Below.heap_alloc _ _ _ hb)
  have hB : Below N wx w' := ((Below.refl N wx).alloc hN _).grown hg (by simp; omega) (fun k hk => by have := (h.own.lt k hk).1; omega)
  refine ⟨(ho.flat i64_flat).set (fun e => (ap' g3 e).2.2 rfl) (fun h => h) _, ap', ?_, ?_, ?_, ?_, ?_, ?_⟩
  · exact (Below.heap_setCell _ _ _ _ h13).trans ((blk g1 l1 (fun k hk => (h.ap k hk).1)).trans h.b1)
  · exact (Below.heap_setCell _ _ _ _ h23).trans ((blk g2 l2 (fun k hk => (h.ap k hk).2.1)).trans h.b2)
  · exact heap_set (i := 0) ((blk g3 l3 (fun k hk => (h.ap k hk).2.2)).trans h.b3)
  · exact (h.bel.trans hB).setCell hN3 _
  · exact h.wid.keep (hB.setCell hN3 _)
  · exact h.flt.keep ((Agree.refl _ _).below (hB.setCell (p := ⟨g3, 0, none⟩) hN3 v') (fun _ h _ => h))
end
end Go.Proofs.YtmkpaolbejlodaaDoor
namespace Go.Proofs.YtmkpaolbejlodaaDoor
open Go.RowKit

theorem times_no {a b : Nat} (ha : a ≠ 0) : 4611686018427387903 / a < b ↔ ¬ a * b < 4611686018427387904 := by
  rw [Nat.div_lt_iff_lt_mul (by omega), Nat.mul_comm]
  omega
theorem timesRef {a b z : Nat} (w : World) (hz : a * b = z) (ha : a < 4611686018427387904) (hb : b ≤ 255) :
    Calls Tryd.prog 63 #[.int .i64 a, .int .i64 b] w fun e w' => e = .returned (.tuple #[.int .i64 ((if under62 z then z else 0 : Nat) : Int), .bool (under62 z)]) ∧ w = w' := by
  rcases Nat.eq_zero_or_pos a with rfl | hpos
  · obtain rfl : z = 0 := by omega
    rw [show under62 0 = true from rfl, if_pos rfl]
    go_enter Tryd.func63, Tryd.ntmps63
    go_wp2_with fail
    go_ret2
    exact ⟨by simp, rfl⟩
  · have hne : ((a : Int) != 0) = true := by simp; omega
    have hne' : ¬ (a : Int) = 0 := by omega
    have hdiv : (4611686018427387903 : Int).tdiv (a : Int) = ((4611686018427387903 / a : Nat) : Int) := rfl
    have hno := times_no (a := a) (b := b) (by omega)
    rw [hz] at hno
    obtain ⟨d, hd⟩ : ∃ d, 4611686018427387903 / a = d := ⟨_, rfl⟩
    have hdb : d ≤ 4611686018427387903 := by rw [← hd]; exact Nat.div_le_self _ _
    have hwr : wrap64 (d : Int) = (d : Int) := IntWalk.wrap64_in _ (by omega)
    clear hdb
    rw [hd] at hno hdiv
    have HZ := Lib.hid hz
    clear hz hd
    by_cases hu : z < 4611686018427387904
    · have hlt : ¬ (d : Int) < (b : Int) := by omega
      rw [show under62 z = true from decide_eq_true hu, if_pos rfl]
      have hzz : ((a : Int) * (b : Int)) = (z : Int) := by rw [← HZ.out, Int.natCast_mul]
      clear hno
      go_enter Tryd.func63, Tryd.ntmps63
      go_wp2_with fail
      go_ret2
      exact ⟨rfl, rfl⟩
    · have hlt : (d : Int) < (b : Int) := by omega
      rw [show under62 z = false from decide_eq_false hu, if_neg (by simp)]
      clear hno
      go_enter Tryd.func63, Tryd.ntmps63
      go_wp2_with fail
      go_ret2
      exact ⟨rfl, rfl⟩
theorem timesI {a b : Int} {x y z : Nat} (w : World) (hx : a = x) (hy : b = y) (hz : x * y = z) (ha : x < 4611686018427387904) (hb : y ≤ 255) :
    Calls Tryd.prog 63 #[.int .i64 a, .int .i64 b] w fun e w' => e = .returned (.tuple #[.int .i64 ((if under62 z then z else 0 : Nat) : Int), .bool (under62 z)]) ∧ w = w' := by
  subst hx; subst hy
  exact timesRef w hz ha hb
/-- What power keeps: the product, while it is below the limit. -/
def PowOk (n m j : Nat) (z : Nat) (o : Bool) : Prop := okTo n m j = o ∧ z < 4611686018427387904 ∧ (o = true → z = n * m ^ j)
set_option maxHeartbeats 2000000 in
theorem powerRef {n m k P : Nat} (w : World) (hn : n ≤ 65536) (hm : m ≤ 255) (hk : k ≤ 6) (hP : n * m ^ k = P) :
    Calls Tryd.prog 46 #[.int .i64 n, .int .i64 m, .int .i64 k] w fun e w' => (∃ z : Nat, e = .returned (.tuple #[.int .i64 z, .bool (under62 P)]) ∧ (under62 P = true → z = P)) ∧ w = w' := by
  have HO := Lib.hid (okTo_eq (m := m) hn k)
  have HP := Lib.hid hP
  clear hP
  go_enter Tryd.func46, Tryd.ntmps46
  go_wp2_with fail
  go_loop [8, 9, 10] (fun v b i => ∃ (j z : Nat) (o : Bool), j ≤ k ∧ i = .int .i64 j ∧ v = .int .i64 z ∧ b = .bool o ∧ PowOk n m j z o) (fun _ _ i => k - (intOf i).toNat)
  case atStart => exact ⟨0, n, true, Nat.zero_le _, rfl, rfl, rfl, decide_eq_true (by omega), by omega, fun _ => by simp⟩
  case round =>
    obtain ⟨j, z, o, hj, rfl, rfl, rfl, hok⟩ := hrel
    have Hok := Lib.hid hok
    clear hok
    have hj0 : (0 : Int) ≤ (j : Int) := by omega
    by_cases hlt : j < k
    · have hj1 : (j : Int) < (k : Int) := by omega
      obtain ⟨y, hy⟩ : ∃ y, z * m = y := ⟨_, rfl⟩
      obtain ⟨x, hx⟩ : ∃ x : Nat, (if under62 y then y else 0) = x := ⟨_, rfl⟩
      have HY := Lib.hid hy
      have HX := Lib.hid hx
      clear hy hx
      cases o with
      | true =>
        go_wp2_with (go_at_call 63; refine (timesI (z := y) _ rfl rfl HY.out Hok.out.2.1 hm).mono ?_; rw [HX.out]; rintro e w3 ⟨rfl, rfl⟩)
        go_round
        case rel =>
          obtain ⟨h1, h2, h3⟩ := Hok.out
          have hz := h3 rfl
          have hyy : y = n * m ^ (j + 1) := by rw [← HY.out, hz, Nat.pow_succ, Nat.mul_assoc]
          refine ⟨j + 1, x, under62 y, by omega, by go_num, rfl, rfl, ?_, ?_, ?_⟩
          · rw [okTo, h1, hyy]; rfl
          · rw [← HX.out]; split
            · rename_i h; exact of_decide_eq_true h
            · omega
          · intro h; rw [← HX.out, if_pos h, hyy]
        case measure => simp [intOf]; omega
      | false =>
        go_wp2_with (go_at_call 63; refine (timesI (z := y) _ rfl rfl HY.out Hok.out.2.1 hm).mono ?_; rw [HX.out]; rintro e w3 ⟨rfl, rfl⟩)
        go_round
        case rel =>
          obtain ⟨h1, h2, h3⟩ := Hok.out
          refine ⟨j + 1, x, false, by omega, by go_num, rfl, rfl, ?_, ?_, ?_⟩
          · rw [okTo, h1]; rfl
          · rw [← HX.out]; split
            · rename_i h; exact of_decide_eq_true h
            · omega
          · intro h; cases h
        case measure => simp [intOf]; omega
    · have hj1 : ¬ (j : Int) < (k : Int) := by omega
      obtain rfl : j = k := by omega
      obtain ⟨h1, h2, h3⟩ := Hok.out
      obtain rfl : o = under62 P := by rw [← h1, HO.out, HP.out]
      have H3 := Lib.hid h3
      clear h1 h2 h3
      go_wp2_with fail
      go_ret2
      exact ⟨⟨z, rfl, fun h => by rw [H3.out h, HP.out]⟩, rfl⟩
/-- Numbers in a slice that the call made. -/
def NumRes (w : World) (xs : List Int) (e : Ending) (w' : World) : Prop := ∃ B d, e = .returned (.slice B xs.length d) ∧ Own Enc.i64 (fun _ => False) w' w.heap.size 2 (.slice B xs.length d) xs ∧ Below w.heap.size w w'
theorem bucketsF_at (l : List Cd) (col rows : Int) {j : Nat} (h : j < 16) : (bucketsF l col rows)[j]? = some (bucketF l col rows j) := by unfold bucketsF; rw [List.getElem?_map, List.getElem?_range h]; rfl
set_option maxRecDepth 100000 in
set_option maxHeartbeats 4000000 in
theorem bucketsRef {l : List Cd} {A : Option Addr} {c : Nat} {S : Nat → Prop} {col : Int} (rows : Int) (w : World) (h : Sl cdE S w A c l) (hv : ∀ x ∈ l, ValidCd x) (h0 : 0 ≤ col) (h3 : col ≤ 3) :
    Calls Tryd.prog 44 #[.slice A l.length c, .int .i64 col, .int .i64 rows] w (NumRes w (bucketsF l col rows)) := by
  have H := Lib.hid h
  have HV := Lib.hid hv
  clear h hv
  go_enter Tryd.func44, Tryd.ntmps44
  go_wp2_with fail
  go_loopw [7, 8] (fun v i wr => ∃ (j : Nat) (B : Option Addr) (d : Nat) (ys : List Int), j ≤ 16 ∧ i = .int .i64 j ∧ ys = (bucketsF l col rows).take j ∧ v = .slice B ys.length d ∧ Own Enc.i64 (fun _ => False) wr w.heap.size 2 (.slice B ys.length d) ys ∧ Below w.heap.size w wr) (fun _ i _ => 16 - (intOf i).toNat)
  case atStart => exact ⟨0, some ⟨w.heap.size, 0, none⟩, 0, [], Nat.zero_le _, rfl, rfl, rfl, Own.litAt _ _ _ _ rfl (Nat.le_refl _), (Below.refl _ _).alloc (Nat.le_refl _) _⟩
  case round =>
    obtain ⟨j, B, d, ys, hj, rfl, hys, rfl, ho, hb⟩ := hrel
    have Hys := Lib.hid hys
    have HO := Lib.hid ho
    have HB := Lib.hid hb
    have hzr := hb.size
    have lo := ho.lt
    have hl16 : ys.length ≤ 16 := by rw [hys, List.length_take]; omega
    have H2 := Lib.hid (H.out.keep (Below.agree hb))
    have hj0 : (0 : Int) ≤ (j : Int) := by omega
    clear hys ho hb
    by_cases hlt : j < 16
    · have hj1 : (j : Int) < 16 := by omega
      have hS := Lib.hid (take_snocR (bucketsF_at l col rows hlt))
      cases hsat : satB l with
      | false =>
        have HVV := Lib.hid (show bucketF l col rows j = 0 by unfold bucketF; rw [hsat, Bool.and_false]; rfl)
        go_wp2_with (first | (go_at_call 45; refine (satRef _ H2.out HV.out).mono ?_; rw [hsat]; rintro e w4 ⟨rfl, rfl⟩) | (at_builtin; go_must ((refine wpList_append_E (S := fun b => b = wr.heap.size) rfl (.tmp 24) (.tmp 26) rfl i64sT (base := w.heap.size) (v := .slice B ys.length d) (xs := ys) (ys := [0]) (by rfl) (by rfl) rfl (nz := ys.length + 1) (by simp) ((HO.out.flat i64_flat).alloc _) (Sl.litAt (S := fun b => b = wr.heap.size) rfl (.single rfl) (by unfold maxLen; simp) (fun _ h _ => h) rfl) (by unfold maxLen; simp; omega) (by simp; omega) (by simp; omega) (fun g hg (hs : g = wr.heap.size) => absurd (lo g hg).2 (by omega)) ?_; intro A6 c6 w6 hown6 hg6 hor6))))
        go_roundw
        case rel => exact ⟨j + 1, A6, c6, ys ++ [0], by omega, by go_num, by rw [hS.out, Hys.out, HVV.out], by simp, by rw [List.length_append]; exact hown6.flat i64_flat, (HB.out.alloc hzr _).grown hg6 (by simp; omega) (fun k hk => (lo k hk).1)⟩
        case measure => simp [intOf]; omega
      | true =>
        cases hpos : possB l col j with
        | false =>
          have HVV := Lib.hid (show bucketF l col rows j = 0 by unfold bucketF; rw [← possB_in h0 h3, hpos]; rfl)
          go_wp2_with (first | (go_at_call 45; refine (satRef _ H2.out HV.out).mono ?_; rw [hsat]; rintro e w4 ⟨rfl, rfl⟩) | (go_at_call 62; refine (possRef _ _ _ H2.out).mono ?_; rw [hpos]; rintro e w5 ⟨rfl, rfl⟩) | (at_builtin; go_must ((refine wpList_append_E (S := fun b => b = wr.heap.size) rfl (.tmp 24) (.tmp 26) rfl i64sT (base := w.heap.size) (v := .slice B ys.length d) (xs := ys) (ys := [0]) (by rfl) (by rfl) rfl (nz := ys.length + 1) (by simp) ((HO.out.flat i64_flat).alloc _) (Sl.litAt (S := fun b => b = wr.heap.size) rfl (.single rfl) (by unfold maxLen; simp) (fun _ h _ => h) rfl) (by unfold maxLen; simp; omega) (by simp; omega) (by simp; omega) (fun g hg (hs : g = wr.heap.size) => absurd (lo g hg).2 (by omega)) ?_; intro A6 c6 w6 hown6 hg6 hor6))))
          go_roundw
          case rel => exact ⟨j + 1, A6, c6, ys ++ [0], by omega, by go_num, by rw [hS.out, Hys.out, HVV.out], by simp, by rw [List.length_append]; exact hown6.flat i64_flat, (HB.out.alloc hzr _).grown hg6 (by simp; omega) (fun k hk => (lo k hk).1)⟩
          case measure => simp [intOf]; omega
        | true =>
          have HVV := Lib.hid (show bucketF l col rows j = rows by unfold bucketF; rw [← possB_in h0 h3, hpos, hsat]; rfl)
          go_wp2_with (first | (go_at_call 45; refine (satRef _ H2.out HV.out).mono ?_; rw [hsat]; rintro e w4 ⟨rfl, rfl⟩) | (go_at_call 62; refine (possRef _ _ _ H2.out).mono ?_; rw [hpos]; rintro e w5 ⟨rfl, rfl⟩) | (at_builtin; go_must ((refine wpList_append_E (S := fun b => b = wr.heap.size) rfl (.tmp 24) (.tmp 26) rfl i64sT (base := w.heap.size) (v := .slice B ys.length d) (xs := ys) (ys := [rows]) (by rfl) (by rfl) rfl (nz := ys.length + 1) (by simp) ((HO.out.flat i64_flat).alloc _) (Sl.litAt (S := fun b => b = wr.heap.size) rfl (.single rfl) (by unfold maxLen; simp) (fun _ h _ => h) rfl) (by unfold maxLen; simp; omega) (by simp; omega) (by simp; omega) (fun g hg (hs : g = wr.heap.size) => absurd (lo g hg).2 (by omega)) ?_; intro A6 c6 w6 hown6 hg6 hor6))))
          go_roundw
          case rel => exact ⟨j + 1, A6, c6, ys ++ [rows], by omega, by go_num, by rw [hS.out, Hys.out, HVV.out], by simp, by rw [List.length_append]; exact hown6.flat i64_flat, (HB.out.alloc hzr _).grown hg6 (by simp; omega) (fun k hk => (lo k hk).1)⟩
          case measure => simp [intOf]; omega
    · have hj1 : ¬ (j : Int) < 16 := by omega
      obtain rfl : j = 16 := by omega
      have e16 : ys = bucketsF l col rows := by rw [Hys.out, List.take_of_length_le (by simp [bucketsF])]
      go_wp2_with fail
      go_ret
      exact ⟨B, d, by first | rfl | rw [e16], by rw [← e16]; exact HO.out, HB.out⟩
end Go.Proofs.YtmkpaolbejlodaaDoor
namespace Go.Proofs.YtmkpaolbejlodaaDoor
open Go.RowKit

/-! A map in the making: a store of a key that it lacks, a lookup. -/
def MapIs (w : World) (b : Nat) (es : List MapEntry) : Prop := w.heap[b]? = some (.map es.toArray es.length)
theorem MapIs.made (w : World) : MapIs (w.alloc (.map #[] 0)) w.heap.size [] := heap_alloc_new _ _
theorem MapIs.below {w w' : World} {b : Nat} {es : List MapEntry} (h : MapIs w b es) (hb : Below w.heap.size w w') : MapIs w' b es := (hb.block b (heap_lt h)).trans h
def keyI (n : Int) (v : Value) (i : Nat) : MapEntry := { key := .int .i64 n, val := v, born := i }
def findI (x : Int) : List MapEntry → Option Value
  | [] => none
  | e :: es => match e.key with
    | .int .i64 n => if x = n then some e.val else findI x es
    | _ => none
def intKeys : List MapEntry → Bool
  | [] => true
  | e :: es => (match e.key with | .int .i64 _ => true | _ => false) && intKeys es
theorem findNow_I {P : Program} {kt : TypeId} (hk : P.underlying kt = some (.int .i64)) (x : Int) : ∀ (es : List MapEntry) (i : Nat), intKeys es = true → ∃ r, Instr.findNow (.int .i64) (.int .i64 x) es i = some r ∧ r.map (·.2) = findI x es
  | [], _, _ => ⟨none, rfl, rfl⟩
  | e :: es, i, h => by
    obtain ⟨key, val, born⟩ := e
    simp only [intKeys, Bool.and_eq_true] at h
    obtain ⟨h1, h2⟩ := h
    split at h1
    · rename_i n
      by_cases hx : x = n
      · subst hx
        exact ⟨some (i, val), by simp [Instr.findNow, Instr.sameNow], by simp [findI]⟩
      · obtain ⟨r, hr, hf⟩ := findNow_I hk x es (i + 1) h2
        refine ⟨r, ?_, by simp [findI, hx, hf]⟩
        have hb : (x == n) = false := by simpa using hx
        simp only [Instr.findNow, Instr.sameNow, if_true, hb]
        exact hr
    · cases h1
theorem findNow_none {P : Program} {kt : TypeId} (hk : P.underlying kt = some (.int .i64)) (x : Int) (es : List MapEntry) (h : intKeys es = true) (hf : findI x es = none) : Instr.findNow (.int .i64) (.int .i64 x) es 0 = some none := by
  obtain ⟨r, hr, hm⟩ := findNow_I hk x es 0 h
  rw [hf, Option.map_eq_none_iff] at hm
  rw [hr, hm]
section
variable {P : Program} {t kt et : TypeId} {w : World} {b : Nat} {es : List MapEntry}
theorem run_lookup_I (ht : P.underlying t = some (.map kt et)) (hk : P.underlying kt = some (.int .i64)) (h : MapIs w b es) (hi : intKeys es = true) {z : Value} (hz : (zeroValue et).run P w = .ok z w) (x : Int) (ok : Bool) :
    (Instr.lookup t (.map (some b)) (.int .i64 x) ok).run P w = .ok (if ok then .tuple #[(findI x es).getD z, .bool (findI x es).isSome] else (findI x es).getD z) w := by
  obtain ⟨r, hr, hm⟩ := findNow_I hk x es 0 hi
  have hq : ∀ e, (Instr.checkKey e 10000 kt (.int .i64 x)).run P w = .ok () w := fun e => MapKept.run_checkKey hk (d := .int .i64) (k := .int .i64 x) rfl e 9999
  have hf := MapKept.run_findKey (w := w) (k := .int .i64 x) hk (l := es) hr
  rw [← hm]
  cases r with
  | none => cases ok <;> simp [Instr.lookup, run_underlying ht, MapKept.run_getObj_map h, hq, hf, hz, Result.andThen]
  | some v => cases ok <;> simp [Instr.lookup, run_underlying ht, MapKept.run_getObj_map h, hq, hf, Result.andThen]
theorem run_insert_I (ht : P.underlying t = some (.map kt et)) (hk : P.underlying kt = some (.int .i64)) (h : MapIs w b es) (hi : intKeys es = true) (x : Int) (v : Value) (hn : findI x es = none) :
    ∃ w', (Instr.mapUpdate t (.map (some b)) (.int .i64 x) v).run P w = .ok () w' ∧ MapIs w' b (es ++ [keyI x v es.length]) ∧ w.grownBy w' (some b) := by
  have hq : ∀ e, (Instr.checkKey e 10000 kt (.int .i64 x)).run P w = .ok () w := fun e => MapKept.run_checkKey hk (d := .int .i64) (k := .int .i64 x) rfl e 9999
  have hf := MapKept.run_findKey (w := w) (k := .int .i64 x) hk (l := es) (findNow_none hk x es hi hn)
  refine ⟨{ w with heap := w.heap.setIfInBounds b (.map (es.toArray.push { key := .int .i64 x, val := v, born := es.length }) (es.length + 1)) }, ?_, ?_, ?_⟩
  · simp [Instr.mapUpdate, run_underlying ht, MapKept.run_getObj_map h, hq, hf, MapKept.run_setObj_map _ h, Result.andThen]
  · unfold MapIs
    rw [Array.getElem?_setIfInBounds_self_of_lt (heap_lt h)]
    simp [keyI]
  · exact ⟨rfl, rfl, rfl, by simp, fun k _ hne => by simp only [Array.getElem?_setIfInBounds]; rw [if_neg (fun e => hne (by rw [e]))]⟩
theorem wpList_insert_I {ops : Array Oper} {rest : List Oper} {o : Oper} {a : Act} {Q : Exit → Act → World → Prop} (hg : o.guard = none) (m x v : Operand) (hop : o.op = Op.insert t m x v)
    (ht : P.underlying t = some (.map kt et)) (hk : P.underlying kt = some (.int .i64)) (h : MapIs w b es) (hi : intKeys es = true) (hm : a.eval m = .map (some b)) {n : Int} (hx : a.eval x = .int .i64 n) {u : Value} (hv : a.eval v = u) (hn : findI n es = none)
    (H : ∀ w', MapIs w' b (es ++ [keyI n u es.length]) → w.grownBy w' (some b) → wpList P ops Q rest (a.put o.dst undef) w') : wpList P ops Q (o :: rest) a w := by
  refine wpList_plain hg fun K' hK' => ?_
  obtain ⟨w', hrun, r1, r2⟩ := run_insert_I ht hk h hi n u hn
  unfold Oper.wp
  simp [execOp, hop, hm, hx, hv, hrun, Result.andThen]
  exact hK' _ _ (H w' r1 r2)
end
end Go.Proofs.YtmkpaolbejlodaaDoor
namespace Go.Proofs.YtmkpaolbejlodaaDoor
open Go.RowKit

theorem not_head {q : Qy} (h : ¬ HeadOk q) : validQB q = false := by unfold validQB; rw [decide_eq_false h]; rfl
theorem not_flt {q : Qy} {l : List Cd} (h : l ∈ q.fs) (hl : validFltB l = false) : validQB q = false := by
  unfold validQB
  rw [Bool.and_eq_false_iff]
  exact .inr (List.all_eq_false.2 ⟨l, h, by simp [hl]⟩)
end Go.Proofs.YtmkpaolbejlodaaDoor
