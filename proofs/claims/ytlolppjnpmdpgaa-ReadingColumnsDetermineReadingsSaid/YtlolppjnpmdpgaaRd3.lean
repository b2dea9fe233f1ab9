/-
  Contracts of the readings (XRd3): Decode, Reading, check.
-/
import Derived.Test.YtlolppjnpmdpgaaRd1
namespace Go.Proofs.Ytlolppjnpmdpgaa
open Go.RowKit

theorem byte_words (a b d : UInt8) : (IntKind.i64.wrap (bits BinOp.and IntKind.u8 (a.toNat : Int) 15) = (a.toNat : Int) % 16 ∧ IntKind.i64.wrap (b.toNat : Int) = (b.toNat : Int) ∧ IntKind.i64.wrap ((a.toNat : Int) / 16) = (a.toNat : Int) / 16 ∧ IntKind.i64.wrap (d.toNat : Int) = (d.toNat : Int)) ∧
    (IntKind.i64.wrap ((a.toNat : Int).tmod 16) = (a.toNat : Int) % 16 ∧ IntKind.i64.wrap (b.toNat : Int) = (b.toNat : Int) ∧ IntKind.i64.wrap (IntKind.u8.wrap ((a.toNat : Int) / 16)) = (a.toNat : Int) / 16 ∧ IntKind.i64.wrap (d.toNat : Int) = (d.toNat : Int)) := by
  have h1 : ∀ x : Fin 256, IntKind.i64.wrap (bits BinOp.and IntKind.u8 (x.1 : Int) 15) = (x.1 : Int) % 16 ∧ IntKind.i64.wrap (x.1 : Int) = (x.1 : Int) ∧ IntKind.i64.wrap ((x.1 : Int) / 16) = (x.1 : Int) / 16 ∧ IntKind.i64.wrap ((x.1 : Int).tmod 16) = (x.1 : Int) % 16 ∧ IntKind.i64.wrap (IntKind.u8.wrap ((x.1 : Int) / 16)) = (x.1 : Int) / 16 := by decide +kernel
  have ha := h1 ⟨a.toNat, a.toNat_lt⟩
  have hb := h1 ⟨b.toNat, b.toNat_lt⟩
  have hd := h1 ⟨d.toNat, d.toNat_lt⟩
  exact ⟨⟨ha.1, hb.2.1, ha.2.2.1, hd.2.1⟩, ha.2.2.2.1, hb.2.1, ha.2.2.2.2, hd.2.1⟩

set_option maxHeartbeats 400000 in
theorem decodeP {S : Nat → Prop} {A : Option Addr} {c : Nat} (a b d : UInt8) (w : World) (h : Sl .u8 S w A c [a, b, d]) :
    Calls Try.prog 23 #[.slice A 3 c] w fun e w' => e = .returned (.tuple #[.agg #[.int .i64 (rdOf a b d).who, .int .i64 (rdOf a b d).whn, .int .i64 (rdOf a b d).knd, .int .i64 (rdOf a b d).val], .int .i64 0]) ∧ Below w.heap.size w w' := by
  obtain ⟨b1, o1, rfl, -, hb1, x0⟩ := u8_at h (i := 0) rfl
  obtain ⟨_, _, e1, -, -, x1⟩ := u8_at h (i := 1) rfl
  obtain ⟨_, _, e2, -, -, x2⟩ := u8_at h (i := 2) rfl
  cases e1; cases e2
  have hl := h.le
  have hm := h.capMax
  simp only [Nat.add_zero] at x0
  simp at hl
  go_enter Try.func23, Try.ntmps23
  go_wp2_with fail
  go_region_held3 (fun X => X.cell? ⟨b1, o1, none⟩ = some (.int .u8 (a.toNat : Int)) ∧ X.cell? ⟨b1, o1 + 1, none⟩ = some (.int .u8 (b.toNat : Int)) ∧ X.cell? ⟨b1, o1 + 2, none⟩ = some (.int .u8 (d.toNat : Int))) (go_keep) (fail)
  go_wp2_with fail
  exact bodyPost_ret (v := .tuple #[.agg #[.int .i64 ((a.toNat % 16 : Nat) : Int), .int .i64 (b.toNat : Int), .int .i64 ((a.toNat / 16 : Nat) : Int), .int .i64 (d.toNat : Int)], .int .i64 0]) (by simp [results, Try.results23, go_sem]; exact (byte_words a b d).1) rfl ⟨rfl, (by repeat' (first | with_reducible exact Below.refl _ _ | with_reducible assumption | with_reducible refine Below.setCell ?_ ?_ _ | with_reducible refine Below.drew ?_ | with_reducible refine below_drewN ?_ _ | with_reducible refine Below.alloc ?_ ?_ _ | (rintro _ ⟨⟩; simp <;> omega) | omega | (simp <;> omega)))⟩
set_option maxHeartbeats 400000 in
theorem decodeR {S : Nat → Prop} {A : Option Addr} {c : Nat} (a b d : UInt8) (w : World) (h : Sl .u8 S w A c [a, b, d]) :
    Calls Try.prog 24 #[.slice A 3 c] w fun e w' => e = .returned (.tuple #[.agg #[.int .i64 (rdOf a b d).who, .int .i64 (rdOf a b d).whn, .int .i64 (rdOf a b d).knd, .int .i64 (rdOf a b d).val], .int .i64 0]) ∧ Below w.heap.size w w' := by
  obtain ⟨b1, o1, rfl, -, hb1, x0⟩ := u8_at h (i := 0) rfl
  obtain ⟨_, _, e1, -, -, x1⟩ := u8_at h (i := 1) rfl
  obtain ⟨_, _, e2, -, -, x2⟩ := u8_at h (i := 2) rfl
  cases e1; cases e2
  have hl := h.le
  have hm := h.capMax
  simp only [Nat.add_zero] at x0
  simp at hl
  go_enter Try.func24, Try.ntmps24
  go_wp2_with fail
  go_region_held3 (fun X => X.cell? ⟨b1, o1, none⟩ = some (.int .u8 (a.toNat : Int)) ∧ X.cell? ⟨b1, o1 + 1, none⟩ = some (.int .u8 (b.toNat : Int)) ∧ X.cell? ⟨b1, o1 + 2, none⟩ = some (.int .u8 (d.toNat : Int))) (go_keep) (fail)
  go_wp2_with fail
  exact bodyPost_ret (v := .tuple #[.agg #[.int .i64 ((a.toNat % 16 : Nat) : Int), .int .i64 (b.toNat : Int), .int .i64 ((a.toNat / 16 : Nat) : Int), .int .i64 (d.toNat : Int)], .int .i64 0]) (by simp [results, Try.results24, go_sem]; exact (byte_words a b d).2) rfl ⟨rfl, (by repeat' (first | with_reducible exact Below.refl _ _ | with_reducible assumption | with_reducible refine Below.setCell ?_ ?_ _ | with_reducible refine Below.drew ?_ | with_reducible refine below_drewN ?_ _ | with_reducible refine Below.alloc ?_ ?_ _ | (rintro _ ⟨⟩; simp <;> omega) | omega | (simp <;> omega)))⟩
theorem decodeP_bad {l : List UInt8} {A : Option Addr} {c : Nat} (w : World) (hl : l.length ≠ 3) :
    Calls Try.prog 23 #[.slice A l.length c] w fun e w' => e = .returned (.tuple #[.agg #[.int .i64 0, .int .i64 0, .int .i64 0, .int .i64 0], .int .i64 5]) ∧ Below w.heap.size w w' := by
  have h : ((l.length : Int) != 3) = true := by simp; omega
  go_enter Try.func23, Try.ntmps23
  go_wp2_with fail
  exact bodyPost_ret (v := .tuple #[.agg #[.int .i64 0, .int .i64 0, .int .i64 0, .int .i64 0], .int .i64 5]) (by simp [results, Try.results23, go_sem]) rfl ⟨rfl, (by repeat' (first | with_reducible exact Below.refl _ _ | with_reducible assumption | with_reducible refine Below.setCell ?_ ?_ _ | with_reducible refine Below.drew ?_ | with_reducible refine below_drewN ?_ _ | with_reducible refine Below.alloc ?_ ?_ _ | (rintro _ ⟨⟩; simp <;> omega) | omega | (simp <;> omega)))⟩
theorem decodeR_bad {l : List UInt8} {A : Option Addr} {c : Nat} (w : World) (hl : l.length ≠ 3) :
    Calls Try.prog 24 #[.slice A l.length c] w fun e w' => e = .returned (.tuple #[.agg #[.int .i64 0, .int .i64 0, .int .i64 0, .int .i64 0], .int .i64 5]) ∧ Below w.heap.size w w' := by
  have h : ((l.length : Int) != 3) = true := by simp; omega
  go_enter Try.func24, Try.ntmps24
  go_wp2_with fail
  exact bodyPost_ret (v := .tuple #[.agg #[.int .i64 0, .int .i64 0, .int .i64 0, .int .i64 0], .int .i64 5]) (by simp [results, Try.results24, go_sem]) rfl ⟨rfl, (by repeat' (first | with_reducible exact Below.refl _ _ | with_reducible assumption | with_reducible refine Below.setCell ?_ ?_ _ | with_reducible refine Below.drew ?_ | with_reducible refine below_drewN ?_ _ | with_reducible refine Below.alloc ?_ ?_ _ | (rintro _ ⟨⟩; simp <;> omega) | omega | (simp <;> omega)))⟩

theorem pow_log (log : Int) (h0 : 0 ≤ log) (h1 : log ≤ 16) : ∃ N : Nat, 2 ^ log.toNat = N ∧ wrap64 (2 ^ log.toNat) = (N : Int) ∧ 1 ≤ N ∧ N ≤ 65536 := by
  have h : ∀ n : Fin 17, wrap64 (2 ^ n.1) = ((2 ^ n.1 : Nat) : Int) ∧ 1 ≤ 2 ^ n.1 ∧ 2 ^ n.1 ≤ 65536 := by decide +kernel
  exact ⟨_, rfl, h ⟨log.toNat, by omega⟩⟩
theorem checkP (s : Str) (A B : Option Addr) (c d : Nat) (log : Int) (w : World) : Calls Try.prog 46 #[.agg #[.slice A s.l.length c, .slice B s.g.length d], .int .i64 log] w fun e w' => e = .returned (.int .i64 (checkF s.l.length log)) ∧ Below w.heap.size w w' := by
  by_cases h0 : log < 0
  · go_enter Try.func46, Try.ntmps46
    go_wp2_with fail
    go_ret
    exact ⟨ret_int (by unfold checkF; rw [if_pos (.inl h0)]), (by repeat' (first | with_reducible exact Below.refl _ _ | with_reducible assumption | with_reducible refine Below.setCell ?_ ?_ _ | with_reducible refine Below.drew ?_ | with_reducible refine below_drewN ?_ _ | with_reducible refine Below.alloc ?_ ?_ _ | (rintro _ ⟨⟩; simp <;> omega) | omega | (simp <;> omega)))⟩
  · by_cases h1 : 16 < log
    · have h0' : 0 ≤ log := by omega
      go_enter Try.func46, Try.ntmps46
      go_wp2_with fail
      go_ret
      exact ⟨ret_int (by unfold checkF; rw [if_pos (.inr h1)]), (by repeat' (first | with_reducible exact Below.refl _ _ | with_reducible assumption | with_reducible refine Below.setCell ?_ ?_ _ | with_reducible refine Below.drew ?_ | with_reducible refine below_drewN ?_ _ | with_reducible refine Below.alloc ?_ ?_ _ | (rintro _ ⟨⟩; simp <;> omega) | omega | (simp <;> omega)))⟩
    · have h0' : 0 ≤ log := by omega
      have h1' : log ≤ 16 := by omega
      obtain ⟨N, hN, hw, -, -⟩ := pow_log log h0' h1'
      by_cases hl : N < s.l.length
      · have hl' : (N : Int) < (s.l.length : Int) := by omega
        have hN' := Lib.hid hN
        clear hN
        go_enter Try.func46, Try.ntmps46
        go_wp2_with fail
        go_quiet (fail)
        go_wp2_with fail
        go_ret
        exact ⟨ret_int (by unfold checkF; rw [if_neg (by omega), if_pos (by rw [hN'.out]; exact hl)]), (by repeat' (first | with_reducible exact Below.refl _ _ | with_reducible assumption | with_reducible refine Below.setCell ?_ ?_ _ | with_reducible refine Below.drew ?_ | with_reducible refine below_drewN ?_ _ | with_reducible refine Below.alloc ?_ ?_ _ | (rintro _ ⟨⟩; simp <;> omega) | omega | (simp <;> omega)))⟩
      · have hl' : (s.l.length : Int) ≤ (N : Int) := by omega
        have hN' := Lib.hid hN
        clear hN
        go_enter Try.func46, Try.ntmps46
        go_wp2_with fail
        go_quiet (fail)
        go_wp2_with fail
        go_ret
        exact ⟨ret_int (by unfold checkF; rw [if_neg (by omega), if_neg (by rw [hN'.out]; exact hl)]), (by repeat' (first | with_reducible exact Below.refl _ _ | with_reducible assumption | with_reducible refine Below.setCell ?_ ?_ _ | with_reducible refine Below.drew ?_ | with_reducible refine below_drewN ?_ _ | with_reducible refine Below.alloc ?_ ?_ _ | (rintro _ ⟨⟩; simp <;> omega) | omega | (simp <;> omega)))⟩

theorem lit3 (a b d : UInt8) (W : World) {t : TypeId} {g : Nat} (hg : W.heap.size = g) : Sl .u8 (fun _ => True) (W.alloc (.cells #[.int .u8 (a.toNat : Int), .int .u8 (b.toNat : Int), .int .u8 (d.toNat : Int)] t)) (some ⟨g, 0, none⟩) 3 [a, b, d] :=
  Sl.litAt (S := fun _ => True) hg (u8_elems [a, b, d]) (by unfold maxLen; simp) (fun _ _ _ => trivial) trivial
theorem readingR (a b d : UInt8) (w : World) :
    Calls Try.prog 25 #[.agg #[.int .u8 (a.toNat : Int), .int .u8 (b.toNat : Int), .int .u8 (d.toNat : Int)]] w fun e w' => e = .returned (.agg #[.int .i64 (rdOf a b d).who, .int .i64 (rdOf a b d).whn, .int .i64 (rdOf a b d).knd, .int .i64 (rdOf a b d).val]) ∧ Below w.heap.size w w' := by
  go_enter Try.func25, Try.ntmps25
  go_wp2_with (go_at_call 24; refine (decodeR a b d _ (lit3 a b d _ (by simp))).mono ?_; rintro e w1 ⟨rfl, hb1⟩; have hz1 := hb1.size; simp at hz1; have hl1 : w.heap.size + 1 < w1.heap.size := (by omega); have hk1 : w.heap.size + 1 < w.heap.size + 1 + 1 + 1 := (by omega); obtain ⟨hc1, hf1⟩ := bcellk (k := w.heap.size + 1 + 1 + 1) hb1 (by simp))
  exact bodyPost_ret (v := .agg #[.int .i64 (rdOf a b d).who, .int .i64 (rdOf a b d).whn, .int .i64 (rdOf a b d).knd, .int .i64 (rdOf a b d).val]) (by simp [results, Try.results25, go_sem, hl1, hc1, hk1]) rfl ⟨rfl, (by repeat' (first | with_reducible exact Below.refl _ _ | with_reducible assumption | with_reducible refine Below.trans ?_ (Below.mono hb1 ?_) | with_reducible refine Below.setCell ?_ ?_ _ | with_reducible refine Below.drew ?_ | with_reducible refine below_drewN ?_ _ | with_reducible refine Below.alloc ?_ ?_ _ | (rintro _ ⟨⟩; simp <;> omega) | omega | (simp <;> omega)))⟩
end Go.Proofs.Ytlolppjnpmdpgaa
