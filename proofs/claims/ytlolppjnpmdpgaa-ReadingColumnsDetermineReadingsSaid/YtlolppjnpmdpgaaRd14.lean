/-
  Contracts of the readings (XRd14): the reference's Columns.
-/
import Derived.Test.YtlolppjnpmdpgaaRd13
namespace Go.Proofs.Ytlolppjnpmdpgaa
open Go.RowKit

theorem fillF_zero {N : Nat} {f : Nat → Int} {j : Nat} (h : j < N) (h0 : f j = 0) : fillF N f j = fillF N f (j + 1) := by
  rw [← fillF_set h, h0]
  unfold fillF
  rw [List.set_append_right _ _ (by simp)]
  congr 1
  simp only [List.length_map, List.length_range, Nat.sub_self]
  obtain ⟨m, hm⟩ : ∃ m, N - j = m + 1 := ⟨N - j - 1, by omega⟩
  rw [hm, List.replicate_succ, List.set_cons_zero]
theorem ColsF.move {F : Nat → Prop} {w0 wr w2 : World} {B : Nat} {xs : List (List Int)} {v : Value} (h : ColsF F w0 B xs v wr) (hb : Below wr.heap.size wr w2) : ColsF F w0 B xs v w2 :=
  ⟨h.own.call hb, fun b hb' => Nat.lt_of_lt_of_le (h.lt b hb') hb.size, h.nF, h.ge, h.bel.trans (hb.mono h.bel.size), h.base, Nat.le_trans h.size hb.size⟩
theorem field_small {r : Rd} (h : ValidR r) (c : Nat) : 0 ≤ fieldF r c ∧ fieldF r c < 256 := by
  obtain ⟨⟨v1, v2⟩, ⟨v3, v4⟩, ⟨v5, v6⟩, v7, v8⟩ := h
  unfold fieldF
  split
  · omega
  · split
    · omega
    · split <;> omega

/-- j of n columns are collected; slot v holds them, slot i the number. -/
def ColsAt (w0 : World) (B : Nat) (X : Nat → List (List Int)) (n : Nat) (v i : Value) (wr : World) : Prop :=
  ∃ (j : Nat) (F : Nat → Prop) (xs : List (List Int)) (A1 : Option Addr) (c1 : Nat), j ≤ n ∧ i = .int .i64 j ∧ v = .slice A1 j c1 ∧ xs = X j ∧ ColsF F w0 B xs v wr

theorem colsR_bad {s : Str} {A B : Option Addr} {c d : Nat} {log : Int} (w : World) (hm : s.l.length ≤ 9223372036854775807) (he : checkF s.l.length log ≠ 0) :
    Calls Try.prog 20 #[.agg #[.slice A s.l.length c, .slice B s.g.length d], .int .i64 log] w (ColRes w ([], checkF s.l.length log)) := by
  by_cases h0 : log < 0
  · have e : checkF s.l.length log = 1 := by unfold checkF; rw [if_pos (.inl h0)]
    rw [e]
    clear he e
    go_enter Try.func20, Try.ntmps20
    go_wp2_with fail
    go_ret2
    exact ColRes.none rfl (by repeat' (first | with_reducible exact Below.refl _ _ | with_reducible assumption | with_reducible refine Below.setCell ?_ ?_ _ | with_reducible refine Below.drew ?_ | with_reducible refine below_drewN ?_ _ | with_reducible refine Below.alloc ?_ ?_ _ | (rintro _ ⟨⟩; simp <;> omega) | omega | (simp <;> omega)))
  · by_cases h1 : 16 < log
    · have e : checkF s.l.length log = 1 := by unfold checkF; rw [if_pos (.inr h1)]
      rw [e]
      have h0' : 0 ≤ log := by omega
      clear he e
      go_enter Try.func20, Try.ntmps20
      go_wp2_with fail
      go_ret2
      exact ColRes.none rfl (by repeat' (first | with_reducible exact Below.refl _ _ | with_reducible assumption | with_reducible refine Below.setCell ?_ ?_ _ | with_reducible refine Below.drew ?_ | with_reducible refine below_drewN ?_ _ | with_reducible refine Below.alloc ?_ ?_ _ | (rintro _ ⟨⟩; simp <;> omega) | omega | (simp <;> omega)))
    · obtain ⟨N, hN, hw, -, -⟩ := pow_log log (by omega) (by omega)
      have hl : N < s.l.length := by
        unfold checkF at he
        rw [if_neg (by omega), hN] at he
        split at he
        · assumption
        · exact absurd rfl he
      have e : checkF s.l.length log = 2 := by unfold checkF; rw [if_neg (by omega), if_pos (by rw [hN]; exact hl)]
      rw [e]
      have h0' : 0 ≤ log := by omega
      have h1' : log ≤ 16 := by omega
      have hl' : (N : Int) < (s.l.length : Int) := by omega
      clear he e hN
      go_enter Try.func20, Try.ntmps20
      go_wp2_with fail
      go_quiet (fail)
      go_wp2_with fail
      go_ret2
      exact ColRes.none rfl (by repeat' (first | with_reducible exact Below.refl _ _ | with_reducible assumption | with_reducible refine Below.setCell ?_ ?_ _ | with_reducible refine Below.drew ?_ | with_reducible refine below_drewN ?_ _ | with_reducible refine Below.alloc ?_ ?_ _ | (rintro _ ⟨⟩; simp <;> omega) | omega | (simp <;> omega)))

set_option maxRecDepth 100000 in
set_option maxHeartbeats 4000000 in
theorem columnsR_ok {s : Str} {A B : Option Addr} {c d : Nat} {log : Int} {S : Nat → Prop} (w : World) (he : checkF s.l.length log = 0) (h : Sl rdE S w A c s.l) (k : Sl .bool S w B d s.g) (ok : OkStr s) :
    Calls Try.prog 20 #[.agg #[.slice A s.l.length c, .slice B s.g.length d], .int .i64 log] w (ColRes w (columnsF s log, 0)) := by
  have hr0 : 0 ≤ log ∧ log ≤ 16 ∧ s.l.length ≤ 2 ^ log.toNat := by
    unfold checkF at he
    split at he
    · simp at he
    · split at he
      · simp at he
      · omega
  obtain ⟨h0, h1, hn⟩ := hr0
  obtain ⟨N, hN, hw, hN1, hN2⟩ := pow_log log h0 h1
  rw [hN] at hn
  have hn' : (s.l.length : Int) ≤ (N : Int) := by omega
  have HN := Lib.hid hN
  have H := Lib.hid h
  have K := Lib.hid k
  have Hlen := Lib.hid ok.len
  have Hval := Lib.hid ok.valid
  clear hN he h k ok
  go_enter Try.func20, Try.ntmps20
  go_wp2_with fail
  go_quiet (fail)
  go_wp2_with fail
  have Hw := Lib.hid hw
  clear hw
  go_loopw [6, 7] (fun v i wr => ColsAt (w.alloc (.cells #[.slice A s.l.length c, .slice B s.g.length d] 30)) (w.heap.size + 1) (fun j => (columnsF s log).take j) 5 v i wr) (fun _ i _ => 5 - (intOf i).toNat)
  case atStart =>
    have hb' : Below (w.alloc (.cells #[.slice A s.l.length c, .slice B s.g.length d] 30)).heap.size (w.alloc (.cells #[.slice A s.l.length c, .slice B s.g.length d] 30)) (((w.alloc (.cells #[.slice A s.l.length c, .slice B s.g.length d] 30)).drewN nq).alloc (.cells #[] 48)) := (below_drewN (Below.refl _ _) nq).alloc (by simp) _
    exact ⟨0, fun _ => False, [], some ⟨w.heap.size + 1, 0, none⟩, 0, by omega, rfl, rfl, rfl, ⟨Own.litAt Enc.u64.slice (fun _ => False) _ _ (by simp) (Nat.le_refl _), fun _ h => h.elim, fun _ _ h => h, fun _ h => h.elim, hb', by simp, by simp⟩⟩
  case round =>
    obtain ⟨j, F, xs, A1, c1, hj, rfl, rfl, hxs, hC⟩ := hrel
    have hxl : xs.length = j := (Own.len hC.own).symm
    have hbl : Below (w.heap.size + 1) (w.alloc (.cells #[.slice A s.l.length c, .slice B s.g.length d] 30)) wr := by have := hC.bel; simpa using this
    have hlw : w.heap.size < wr.heap.size := by have := hbl.size; simp at this; omega
    have HC := Lib.hid hC
    have Hxs := Lib.hid hxs
    have Hxl := Lib.hid hxl
    have Hbl := Lib.hid hbl
    clear hbl hC hxs hxl
    rcases (by omega : j = 0 ∨ j = 1 ∨ j = 2 ∨ j = 3 ∨ j = 4 ∨ j = 5) with rfl | rfl | rfl | rfl | rfl | rfl
    · rw [show Value.int IntKind.i64 ((0 : Nat) : Int) = Value.int IntKind.i64 0 from rfl]
      go_wp2_with (at_make; go_must ((refine wpList_make_u64 _ rfl (.tmp 28) (.tmp 28) rfl (n := N) (by show Value.int IntKind.i64 (wrap64 (2 ^ log.toNat)) = _; rw [Hw.out]) (by show Value.int IntKind.i64 (wrap64 (2 ^ log.toNat)) = _; rw [Hw.out]) (by omega) ?_; intro w1 hown1 hg1; have hb1 : Below wr.heap.size wr w1 := Below.grown (Below.refl _ _) hg1 (Nat.le_refl _) (by rintro k ⟨⟩))))
      obtain ⟨wo, hwo⟩ : ∃ wo : World, wo = wr := ⟨_, rfl⟩
      subst hwo
      go_loopw [9] (fun i wr => ∃ i0 : Nat, i0 ≤ s.l.length ∧ i = .int .i64 i0 ∧ Own .u64 (fun _ => False) wr wo.heap.size 50 (.slice (some ⟨wo.heap.size, 0, none⟩) N N) (fillF N (fun j => fieldF (s.l.getD j zeroRd) 0) i0) ∧ Below wo.heap.size wo wr) (fun i _ => s.l.length - (intOf i).toNat)
      case atStart => exact ⟨0, Nat.zero_le _, rfl, hown1, hb1⟩
      case round =>
        obtain ⟨i0, hi0, rfl, ho, hb⟩ := hrel
        have Ho := Lib.hid ho
        have Hb := Lib.hid hb
        have hzr := hb.size
        have x0 : wr.cell? ⟨w.heap.size, 0, none⟩ = some (.slice A s.l.length c) := ((Hbl.out.trans (hb.mono (by omega))).cell (p := ⟨w.heap.size, 0, none⟩) (by simp)).trans (cell_of_row _ _ 0 _ _ _ (heap_alloc_at rfl))
        have hsl : Sl rdE S wr A c s.l := H.out.keep (Below.agree (((Below.refl _ _).alloc (Nat.le_refl _) _).trans ((Hbl.out.trans (hb.mono (by omega))).mono (by omega))))
        have hi00 : (0 : Int) ≤ (i0 : Int) := by omega
        clear ho hb
        by_cases hlt : i0 < s.l.length
        · have hi1 : (i0 : Int) < (s.l.length : Int) := by omega
          have hi2 : (i0 : Int) < (N : Int) := by omega
          have hv := Hval.out _ (List.getElem_mem hlt)
          have hr : s.l[i0]? = some (s.l.getD i0 zeroRd) := by simp [hlt]
          have hv' : ValidR (s.l.getD i0 zeroRd) := by simpa [hlt] using hv
          obtain ⟨f0, f1⟩ := field_small hv' 0
          have hu := u64_small _ f0 f1
          obtain ⟨b2, o2, rfl, -, hb2, y0, y1, y2, y3⟩ := rd_at hsl hr
          clear hr hv hv' hsl
          generalize hrr : s.l.getD i0 zeroRd = r at *
          have Hrr := Lib.hid hrr
          clear hrr
          go_wp2_with (go_at_call 50; go_must ((refine (fieldRef r 0 _).mono ?_; rintro e w3 ⟨rfl, hb3⟩; have ho3 := Own.call Ho.out hb3; have hx3 := u64_cell ho3 (k := i0) (by rw [fillF_len (by omega)]; omega); have hf3 := ho3.frozen i0; have Ho3 := Lib.hid ho3; clear ho3)))
          go_roundw
          case rel => exact ⟨i0 + 1, by omega, by go_num, by rw [← fillF_set (by omega), Hrr.out]; exact u64_store Ho3.out _, (Hb.out.trans (hb3.mono Hb.out.size)).setCell (by simp) _⟩
          case measure => simp [intOf]; omega
        · have hi1 : ¬ (i0 : Int) < (s.l.length : Int) := by omega
          have hil : i0 = s.l.length := by omega
          subst hil
          have hfl : (fillF N (fun j => fieldF (s.l.getD j zeroRd) 0) s.l.length).length = N := fillF_len hn
          clear hsl
          go_wp2_with (at_builtin; go_must ((refine wpList_append_E (S := fun b => F b ∨ (wo.heap.size ≤ b ∧ b ≤ wr.heap.size)) rfl (.tmp 59) (.tmp 61) rfl colsT (base := w.heap.size + 1) (v := .slice A1 0 c1) (xs := xs) (ys := [fillF N (fun j => fieldF (s.l.getD j zeroRd) 0) s.l.length]) (by rfl) (by rfl) rfl (nz := 1) (by simp [Hxl.out]) (HC.out.pre Hb.out _) (by have h := ColsF.lit (F := F) (Ho.out.flatSl u64_flat (T := fun b => wo.heap.size ≤ b) (fun b hb => hb)) (fun _ h _ => h) Hb.out.size; rw [hfl] at h; exact h) (by unfold maxLen; simp [Hxl.out]) (by simp [Hxl.out]) (by have := HC.out.size; simp; omega) HC.out.apart ?_); intro A5 c5 w5 hown5 hg5 hor5))
          go_roundw
          case rel =>
            refine ⟨1, _, xs ++ [fillF N (fun j => fieldF (s.l.getD j zeroRd) 0) s.l.length], A5, c5, by omega, rfl, rfl, ?_, HC.out.app Hb.out hown5 hg5 hor5⟩
            rw [Hxs.out, fill_pad (fun r => fieldF r 0), ← HN.out]
            rfl
          case measure => simp [intOf]
    · rw [show Value.int IntKind.i64 ((1 : Nat) : Int) = Value.int IntKind.i64 1 from rfl]
      go_wp2_with (at_make; go_must ((refine wpList_make_u64 _ rfl (.tmp 28) (.tmp 28) rfl (n := N) (by show Value.int IntKind.i64 (wrap64 (2 ^ log.toNat)) = _; rw [Hw.out]) (by show Value.int IntKind.i64 (wrap64 (2 ^ log.toNat)) = _; rw [Hw.out]) (by omega) ?_; intro w1 hown1 hg1; have hb1 : Below wr.heap.size wr w1 := Below.grown (Below.refl _ _) hg1 (Nat.le_refl _) (by rintro k ⟨⟩))))
      obtain ⟨wo, hwo⟩ : ∃ wo : World, wo = wr := ⟨_, rfl⟩
      subst hwo
      go_loopw [9] (fun i wr => ∃ i0 : Nat, i0 ≤ s.l.length ∧ i = .int .i64 i0 ∧ Own .u64 (fun _ => False) wr wo.heap.size 50 (.slice (some ⟨wo.heap.size, 0, none⟩) N N) (fillF N (fun j => fieldF (s.l.getD j zeroRd) 1) i0) ∧ Below wo.heap.size wo wr) (fun i _ => s.l.length - (intOf i).toNat)
      case atStart => exact ⟨0, Nat.zero_le _, rfl, hown1, hb1⟩
      case round =>
        obtain ⟨i0, hi0, rfl, ho, hb⟩ := hrel
        have Ho := Lib.hid ho
        have Hb := Lib.hid hb
        have hzr := hb.size
        have x0 : wr.cell? ⟨w.heap.size, 0, none⟩ = some (.slice A s.l.length c) := ((Hbl.out.trans (hb.mono (by omega))).cell (p := ⟨w.heap.size, 0, none⟩) (by simp)).trans (cell_of_row _ _ 0 _ _ _ (heap_alloc_at rfl))
        have hsl : Sl rdE S wr A c s.l := H.out.keep (Below.agree (((Below.refl _ _).alloc (Nat.le_refl _) _).trans ((Hbl.out.trans (hb.mono (by omega))).mono (by omega))))
        have hi00 : (0 : Int) ≤ (i0 : Int) := by omega
        clear ho hb
        by_cases hlt : i0 < s.l.length
        · have hi1 : (i0 : Int) < (s.l.length : Int) := by omega
          have hi2 : (i0 : Int) < (N : Int) := by omega
          have hv := Hval.out _ (List.getElem_mem hlt)
          have hr : s.l[i0]? = some (s.l.getD i0 zeroRd) := by simp [hlt]
          have hv' : ValidR (s.l.getD i0 zeroRd) := by simpa [hlt] using hv
          obtain ⟨f0, f1⟩ := field_small hv' 1
          have hu := u64_small _ f0 f1
          obtain ⟨b2, o2, rfl, -, hb2, y0, y1, y2, y3⟩ := rd_at hsl hr
          clear hr hv hv' hsl
          generalize hrr : s.l.getD i0 zeroRd = r at *
          have Hrr := Lib.hid hrr
          clear hrr
          go_wp2_with (go_at_call 50; go_must ((refine (fieldRef r 1 _).mono ?_; rintro e w3 ⟨rfl, hb3⟩; have ho3 := Own.call Ho.out hb3; have hx3 := u64_cell ho3 (k := i0) (by rw [fillF_len (by omega)]; omega); have hf3 := ho3.frozen i0; have Ho3 := Lib.hid ho3; clear ho3)))
          go_roundw
          case rel => exact ⟨i0 + 1, by omega, by go_num, by rw [← fillF_set (by omega), Hrr.out]; exact u64_store Ho3.out _, (Hb.out.trans (hb3.mono Hb.out.size)).setCell (by simp) _⟩
          case measure => simp [intOf]; omega
        · have hi1 : ¬ (i0 : Int) < (s.l.length : Int) := by omega
          have hil : i0 = s.l.length := by omega
          subst hil
          have hfl : (fillF N (fun j => fieldF (s.l.getD j zeroRd) 1) s.l.length).length = N := fillF_len hn
          clear hsl
          go_wp2_with (at_builtin; go_must ((refine wpList_append_E (S := fun b => F b ∨ (wo.heap.size ≤ b ∧ b ≤ wr.heap.size)) rfl (.tmp 59) (.tmp 61) rfl colsT (base := w.heap.size + 1) (v := .slice A1 1 c1) (xs := xs) (ys := [fillF N (fun j => fieldF (s.l.getD j zeroRd) 1) s.l.length]) (by rfl) (by rfl) rfl (nz := 2) (by simp [Hxl.out]) (HC.out.pre Hb.out _) (by have h := ColsF.lit (F := F) (Ho.out.flatSl u64_flat (T := fun b => wo.heap.size ≤ b) (fun b hb => hb)) (fun _ h _ => h) Hb.out.size; rw [hfl] at h; exact h) (by unfold maxLen; simp [Hxl.out]) (by simp [Hxl.out]) (by have := HC.out.size; simp; omega) HC.out.apart ?_); intro A5 c5 w5 hown5 hg5 hor5))
          go_roundw
          case rel =>
            refine ⟨2, _, xs ++ [fillF N (fun j => fieldF (s.l.getD j zeroRd) 1) s.l.length], A5, c5, by omega, rfl, rfl, ?_, HC.out.app Hb.out hown5 hg5 hor5⟩
            rw [Hxs.out, fill_pad (fun r => fieldF r 1), ← HN.out]
            rfl
          case measure => simp [intOf]
    · rw [show Value.int IntKind.i64 ((2 : Nat) : Int) = Value.int IntKind.i64 2 from rfl]
      go_wp2_with (at_make; go_must ((refine wpList_make_u64 _ rfl (.tmp 28) (.tmp 28) rfl (n := N) (by show Value.int IntKind.i64 (wrap64 (2 ^ log.toNat)) = _; rw [Hw.out]) (by show Value.int IntKind.i64 (wrap64 (2 ^ log.toNat)) = _; rw [Hw.out]) (by omega) ?_; intro w1 hown1 hg1; have hb1 : Below wr.heap.size wr w1 := Below.grown (Below.refl _ _) hg1 (Nat.le_refl _) (by rintro k ⟨⟩))))
      obtain ⟨wo, hwo⟩ : ∃ wo : World, wo = wr := ⟨_, rfl⟩
      subst hwo
      go_loopw [9] (fun i wr => ∃ i0 : Nat, i0 ≤ s.l.length ∧ i = .int .i64 i0 ∧ Own .u64 (fun _ => False) wr wo.heap.size 50 (.slice (some ⟨wo.heap.size, 0, none⟩) N N) (fillF N (fun j => fieldF (s.l.getD j zeroRd) 2) i0) ∧ Below wo.heap.size wo wr) (fun i _ => s.l.length - (intOf i).toNat)
      case atStart => exact ⟨0, Nat.zero_le _, rfl, hown1, hb1⟩
      case round =>
        obtain ⟨i0, hi0, rfl, ho, hb⟩ := hrel
        have Ho := Lib.hid ho
        have Hb := Lib.hid hb
        have hzr := hb.size
        have x0 : wr.cell? ⟨w.heap.size, 0, none⟩ = some (.slice A s.l.length c) := ((Hbl.out.trans (hb.mono (by omega))).cell (p := ⟨w.heap.size, 0, none⟩) (by simp)).trans (cell_of_row _ _ 0 _ _ _ (heap_alloc_at rfl))
        have hsl : Sl rdE S wr A c s.l := H.out.keep (Below.agree (((Below.refl _ _).alloc (Nat.le_refl _) _).trans ((Hbl.out.trans (hb.mono (by omega))).mono (by omega))))
        have hi00 : (0 : Int) ≤ (i0 : Int) := by omega
        clear ho hb
        by_cases hlt : i0 < s.l.length
        · have hi1 : (i0 : Int) < (s.l.length : Int) := by omega
          have hi2 : (i0 : Int) < (N : Int) := by omega
          have hv := Hval.out _ (List.getElem_mem hlt)
          have hr : s.l[i0]? = some (s.l.getD i0 zeroRd) := by simp [hlt]
          have hv' : ValidR (s.l.getD i0 zeroRd) := by simpa [hlt] using hv
          obtain ⟨f0, f1⟩ := field_small hv' 2
          have hu := u64_small _ f0 f1
          obtain ⟨b2, o2, rfl, -, hb2, y0, y1, y2, y3⟩ := rd_at hsl hr
          clear hr hv hv' hsl
          generalize hrr : s.l.getD i0 zeroRd = r at *
          have Hrr := Lib.hid hrr
          clear hrr
          go_wp2_with (go_at_call 50; go_must ((refine (fieldRef r 2 _).mono ?_; rintro e w3 ⟨rfl, hb3⟩; have ho3 := Own.call Ho.out hb3; have hx3 := u64_cell ho3 (k := i0) (by rw [fillF_len (by omega)]; omega); have hf3 := ho3.frozen i0; have Ho3 := Lib.hid ho3; clear ho3)))
          go_roundw
          case rel => exact ⟨i0 + 1, by omega, by go_num, by rw [← fillF_set (by omega), Hrr.out]; exact u64_store Ho3.out _, (Hb.out.trans (hb3.mono Hb.out.size)).setCell (by simp) _⟩
          case measure => simp [intOf]; omega
        · have hi1 : ¬ (i0 : Int) < (s.l.length : Int) := by omega
          have hil : i0 = s.l.length := by omega
          subst hil
          have hfl : (fillF N (fun j => fieldF (s.l.getD j zeroRd) 2) s.l.length).length = N := fillF_len hn
          clear hsl
          go_wp2_with (at_builtin; go_must ((refine wpList_append_E (S := fun b => F b ∨ (wo.heap.size ≤ b ∧ b ≤ wr.heap.size)) rfl (.tmp 59) (.tmp 61) rfl colsT (base := w.heap.size + 1) (v := .slice A1 2 c1) (xs := xs) (ys := [fillF N (fun j => fieldF (s.l.getD j zeroRd) 2) s.l.length]) (by rfl) (by rfl) rfl (nz := 3) (by simp [Hxl.out]) (HC.out.pre Hb.out _) (by have h := ColsF.lit (F := F) (Ho.out.flatSl u64_flat (T := fun b => wo.heap.size ≤ b) (fun b hb => hb)) (fun _ h _ => h) Hb.out.size; rw [hfl] at h; exact h) (by unfold maxLen; simp [Hxl.out]) (by simp [Hxl.out]) (by have := HC.out.size; simp; omega) HC.out.apart ?_); intro A5 c5 w5 hown5 hg5 hor5))
          go_roundw
          case rel =>
            refine ⟨3, _, xs ++ [fillF N (fun j => fieldF (s.l.getD j zeroRd) 2) s.l.length], A5, c5, by omega, rfl, rfl, ?_, HC.out.app Hb.out hown5 hg5 hor5⟩
            rw [Hxs.out, fill_pad (fun r => fieldF r 2), ← HN.out]
            rfl
          case measure => simp [intOf]
    · rw [show Value.int IntKind.i64 ((3 : Nat) : Int) = Value.int IntKind.i64 3 from rfl]
      go_wp2_with (at_make; go_must ((refine wpList_make_u64 _ rfl (.tmp 28) (.tmp 28) rfl (n := N) (by show Value.int IntKind.i64 (wrap64 (2 ^ log.toNat)) = _; rw [Hw.out]) (by show Value.int IntKind.i64 (wrap64 (2 ^ log.toNat)) = _; rw [Hw.out]) (by omega) ?_; intro w1 hown1 hg1; have hb1 : Below wr.heap.size wr w1 := Below.grown (Below.refl _ _) hg1 (Nat.le_refl _) (by rintro k ⟨⟩))))
      obtain ⟨wo, hwo⟩ : ∃ wo : World, wo = wr := ⟨_, rfl⟩
      subst hwo
      go_loopw [9] (fun i wr => ∃ i0 : Nat, i0 ≤ s.l.length ∧ i = .int .i64 i0 ∧ Own .u64 (fun _ => False) wr wo.heap.size 50 (.slice (some ⟨wo.heap.size, 0, none⟩) N N) (fillF N (fun j => fieldF (s.l.getD j zeroRd) 3) i0) ∧ Below wo.heap.size wo wr) (fun i _ => s.l.length - (intOf i).toNat)
      case atStart => exact ⟨0, Nat.zero_le _, rfl, hown1, hb1⟩
      case round =>
        obtain ⟨i0, hi0, rfl, ho, hb⟩ := hrel
        have Ho := Lib.hid ho
        have Hb := Lib.hid hb
        have hzr := hb.size
        have x0 : wr.cell? ⟨w.heap.size, 0, none⟩ = some (.slice A s.l.length c) := ((Hbl.out.trans (hb.mono (by omega))).cell (p := ⟨w.heap.size, 0, none⟩) (by simp)).trans (cell_of_row _ _ 0 _ _ _ (heap_alloc_at rfl))
        have hsl : Sl rdE S wr A c s.l := H.out.keep (Below.agree (((Below.refl _ _).alloc (Nat.le_refl _) _).trans ((Hbl.out.trans (hb.mono (by omega))).mono (by omega))))
        have hi00 : (0 : Int) ≤ (i0 : Int) := by omega
        clear ho hb
        by_cases hlt : i0 < s.l.length
        · have hi1 : (i0 : Int) < (s.l.length : Int) := by omega
          have hi2 : (i0 : Int) < (N : Int) := by omega
          have hv := Hval.out _ (List.getElem_mem hlt)
          have hr : s.l[i0]? = some (s.l.getD i0 zeroRd) := by simp [hlt]
          have hv' : ValidR (s.l.getD i0 zeroRd) := by simpa [hlt] using hv
          obtain ⟨f0, f1⟩ := field_small hv' 3
          have hu := u64_small _ f0 f1
          obtain ⟨b2, o2, rfl, -, hb2, y0, y1, y2, y3⟩ := rd_at hsl hr
          clear hr hv hv' hsl
          generalize hrr : s.l.getD i0 zeroRd = r at *
          have Hrr := Lib.hid hrr
          clear hrr
          go_wp2_with (go_at_call 50; go_must ((refine (fieldRef r 3 _).mono ?_; rintro e w3 ⟨rfl, hb3⟩; have ho3 := Own.call Ho.out hb3; have hx3 := u64_cell ho3 (k := i0) (by rw [fillF_len (by omega)]; omega); have hf3 := ho3.frozen i0; have Ho3 := Lib.hid ho3; clear ho3)))
          go_roundw
          case rel => exact ⟨i0 + 1, by omega, by go_num, by rw [← fillF_set (by omega), Hrr.out]; exact u64_store Ho3.out _, (Hb.out.trans (hb3.mono Hb.out.size)).setCell (by simp) _⟩
          case measure => simp [intOf]; omega
        · have hi1 : ¬ (i0 : Int) < (s.l.length : Int) := by omega
          have hil : i0 = s.l.length := by omega
          subst hil
          have hfl : (fillF N (fun j => fieldF (s.l.getD j zeroRd) 3) s.l.length).length = N := fillF_len hn
          clear hsl
          go_wp2_with (at_builtin; go_must ((refine wpList_append_E (S := fun b => F b ∨ (wo.heap.size ≤ b ∧ b ≤ wr.heap.size)) rfl (.tmp 59) (.tmp 61) rfl colsT (base := w.heap.size + 1) (v := .slice A1 3 c1) (xs := xs) (ys := [fillF N (fun j => fieldF (s.l.getD j zeroRd) 3) s.l.length]) (by rfl) (by rfl) rfl (nz := 4) (by simp [Hxl.out]) (HC.out.pre Hb.out _) (by have h := ColsF.lit (F := F) (Ho.out.flatSl u64_flat (T := fun b => wo.heap.size ≤ b) (fun b hb => hb)) (fun _ h _ => h) Hb.out.size; rw [hfl] at h; exact h) (by unfold maxLen; simp [Hxl.out]) (by simp [Hxl.out]) (by have := HC.out.size; simp; omega) HC.out.apart ?_); intro A5 c5 w5 hown5 hg5 hor5))
          go_roundw
          case rel =>
            refine ⟨4, _, xs ++ [fillF N (fun j => fieldF (s.l.getD j zeroRd) 3) s.l.length], A5, c5, by omega, rfl, rfl, ?_, HC.out.app Hb.out hown5 hg5 hor5⟩
            rw [Hxs.out, fill_pad (fun r => fieldF r 3), ← HN.out]
            rfl
          case measure => simp [intOf]
    · rw [show Value.int IntKind.i64 ((4 : Nat) : Int) = Value.int IntKind.i64 4 from rfl]
      go_wp2_with (at_make; go_must ((refine wpList_make_u64 _ rfl (.tmp 28) (.tmp 28) rfl (n := N) (by show Value.int IntKind.i64 (wrap64 (2 ^ log.toNat)) = _; rw [Hw.out]) (by show Value.int IntKind.i64 (wrap64 (2 ^ log.toNat)) = _; rw [Hw.out]) (by omega) ?_; intro w1 hown1 hg1; have hb1 : Below wr.heap.size wr w1 := Below.grown (Below.refl _ _) hg1 (Nat.le_refl _) (by rintro k ⟨⟩))))
      obtain ⟨wo, hwo⟩ : ∃ wo : World, wo = wr := ⟨_, rfl⟩
      subst hwo
      go_loopw [9] (fun i wr => ∃ i0 : Nat, i0 ≤ s.l.length ∧ i = .int .i64 i0 ∧ Own .u64 (fun _ => False) wr wo.heap.size 50 (.slice (some ⟨wo.heap.size, 0, none⟩) N N) (fillF N (fun j => if s.g.getD j false then 0 else 1) i0) ∧ Below wo.heap.size wo wr) (fun i _ => s.l.length - (intOf i).toNat)
      case atStart => exact ⟨0, Nat.zero_le _, rfl, hown1, hb1⟩
      case round =>
        obtain ⟨i0, hi0, rfl, ho, hb⟩ := hrel
        have Ho := Lib.hid ho
        have Hb := Lib.hid hb
        have hzr := hb.size
        have x0 : wr.cell? ⟨w.heap.size, 0, none⟩ = some (.slice A s.l.length c) := ((Hbl.out.trans (hb.mono (by omega))).cell (p := ⟨w.heap.size, 0, none⟩) (by simp)).trans (cell_of_row _ _ 0 _ _ _ (heap_alloc_at rfl))
        have hsl : Sl rdE S wr A c s.l := H.out.keep (Below.agree (((Below.refl _ _).alloc (Nat.le_refl _) _).trans ((Hbl.out.trans (hb.mono (by omega))).mono (by omega))))
        have hi00 : (0 : Int) ≤ (i0 : Int) := by omega
        clear ho hb
        by_cases hlt : i0 < s.l.length
        · have hi1 : (i0 : Int) < (s.l.length : Int) := by omega
          have hi2 : (i0 : Int) < (N : Int) := by omega
          have hlg : i0 < s.g.length := by rw [Hlen.out]; exact hlt
          have hi3 : (i0 : Int) < (s.g.length : Int) := by omega
          have hr : s.g[i0]? = some (s.g.getD i0 false) := by simp [hlg]
          have x1 : wr.cell? ⟨w.heap.size, 1, none⟩ = some (.slice B s.g.length d) := ((Hbl.out.trans (Hb.out.mono (by omega))).cell (p := ⟨w.heap.size, 1, none⟩) (by simp)).trans (cell_of_row _ _ 1 _ _ _ (heap_alloc_at rfl))
          have hsg : Sl .bool S wr B d s.g := K.out.keep (Below.agree (((Below.refl _ _).alloc (Nat.le_refl _) _).trans ((Hbl.out.trans (Hb.out.mono (by omega))).mono (by omega))))
          obtain ⟨b2, o2, rfl, -, hb2, y0⟩ := bool_at hsg hr
          have hx3 := u64_cell Ho.out (k := i0) (by rw [fillF_len (by omega)]; omega)
          have hf3 := Ho.out.frozen i0
          clear hr hsg hsl
          cases hbv : s.g.getD i0 false with
          | true =>
            rw [hbv] at y0
            have hz : (fun j => if s.g.getD j false then 0 else 1) i0 = (0 : Int) := by simp only [hbv]; rfl
            have Hz := Lib.hid hz
            clear hz hbv
            go_wp2_with fail
            go_roundw
            case rel => exact ⟨i0 + 1, by omega, by go_num, by rw [← fillF_zero (by omega) Hz.out]; exact Ho.out, Hb.out⟩
            case measure => simp [intOf]; omega
          | false =>
            rw [hbv] at y0
            have hz : (if s.g.getD i0 false = true then (0 : Int) else 1) = 1 := by rw [hbv]; rfl
            have Hz := Lib.hid hz
            clear hz hbv
            go_wp2_with fail
            go_roundw
            case rel => exact ⟨i0 + 1, by omega, by go_num, by rw [← fillF_set (by omega), Hz.out]; exact u64_store Ho.out 1, Hb.out.setCell (by simp) _⟩
            case measure => simp [intOf]; omega
        · have hi1 : ¬ (i0 : Int) < (s.l.length : Int) := by omega
          have hil : i0 = s.l.length := by omega
          subst hil
          have hfl : (fillF N (fun j => if s.g.getD j false then 0 else 1) s.l.length).length = N := fillF_len hn
          clear hsl
          go_wp2_with (at_builtin; go_must ((refine wpList_append_E (S := fun b => F b ∨ (wo.heap.size ≤ b ∧ b ≤ wr.heap.size)) rfl (.tmp 59) (.tmp 61) rfl colsT (base := w.heap.size + 1) (v := .slice A1 4 c1) (xs := xs) (ys := [fillF N (fun j => if s.g.getD j false then 0 else 1) s.l.length]) (by rfl) (by rfl) rfl (nz := 5) (by simp [Hxl.out]) (HC.out.pre Hb.out _) (by have h := ColsF.lit (F := F) (Ho.out.flatSl u64_flat (T := fun b => wo.heap.size ≤ b) (fun b hb => hb)) (fun _ h _ => h) Hb.out.size; rw [hfl] at h; exact h) (by unfold maxLen; simp [Hxl.out]) (by simp [Hxl.out]) (by have := HC.out.size; simp; omega) HC.out.apart ?_); intro A5 c5 w5 hown5 hg5 hor5))
          go_roundw
          case rel =>
            refine ⟨5, _, xs ++ [fillF N (fun j => if s.g.getD j false then 0 else 1) s.l.length], A5, c5, by omega, rfl, rfl, ?_, HC.out.app Hb.out hown5 hg5 hor5⟩
            rw [Hxs.out, ← Hlen.out, fill_padB, ← HN.out]
            rfl
          case measure => simp [intOf]
    · go_wp2_with fail
      go_ret2
      have fin := HC.out
      rw [Hxs.out] at fin
      refine ⟨A1, c1, rfl, ?_, ((Below.refl _ _).alloc (Nat.le_refl _) _).trans (fin.bel.mono (by simp))⟩
      exact (show Own Enc.u64.slice _ wr (w.heap.size + 1) 48 (.slice A1 5 c1) (columnsF s log) from fin.own).toSl (fun b hb _ => by have := fin.ge b hb; simp at this; omega) (fun b hb _ _ => by omega)
end Go.Proofs.Ytlolppjnpmdpgaa
