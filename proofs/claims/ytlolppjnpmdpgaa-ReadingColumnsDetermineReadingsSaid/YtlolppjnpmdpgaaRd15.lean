/-
  Contracts of the readings (XRd15): the reference's Bits.
-/
import Derived.Test.YtlolppjnpmdpgaaRd14
namespace Go.Proofs.Ytlolppjnpmdpgaa
open Go.RowKit

theorem bitsR_bad {s : Str} {A B : Option Addr} {c d : Nat} {log : Int} (w : World) (hm : s.l.length ≤ 9223372036854775807) (he : checkF s.l.length log ≠ 0) :
    Calls Try.prog 22 #[.agg #[.slice A s.l.length c, .slice B s.g.length d], .int .i64 log] w (ColRes w ([], checkF s.l.length log)) := by
  have hne : (checkF s.l.length log != 0) = true := by simpa using he
  obtain ⟨k, hk⟩ : ∃ k, checkF s.l.length log = k := ⟨_, rfl⟩
  have hcol := fun W => colsR_bad (A := A) (B := B) (c := c) (d := d) W hm he
  rw [hk] at hne hcol ⊢
  have Hcol := Lib.hid hcol
  clear hk he hcol
  go_enter Try.func22, Try.ntmps22
  go_wp2_with (go_at_call 20; refine (Hcol.out _).mono ?_; rintro e w1 ⟨A1, c1, rfl, hs1, hb1⟩)
  go_ret2
  exact ColRes.none rfl (by repeat' (first | with_reducible exact Below.refl _ _ | with_reducible assumption | with_reducible refine Below.trans ?_ (Below.mono hb1 ?_) | with_reducible refine Below.setCell ?_ ?_ _ | with_reducible refine Below.drew ?_ | with_reducible refine below_drewN ?_ _ | with_reducible refine Below.alloc ?_ ?_ _ | (rintro _ ⟨⟩; simp <;> omega) | omega | (simp <;> omega)))

theorem width_0 (w : World) : Calls Try.prog 34 #[.int .i64 0] w fun e w' => e = .returned (.int .i64 4) ∧ w = w' := widthRef 0 w
theorem width_1 (w : World) : Calls Try.prog 34 #[.int .i64 1] w fun e w' => e = .returned (.int .i64 8) ∧ w = w' := widthRef 1 w
theorem width_2 (w : World) : Calls Try.prog 34 #[.int .i64 2] w fun e w' => e = .returned (.int .i64 4) ∧ w = w' := widthRef 2 w
theorem width_3 (w : World) : Calls Try.prog 34 #[.int .i64 3] w fun e w' => e = .returned (.int .i64 8) ∧ w = w' := widthRef 3 w

theorem padF_len {N : Nat} {l : List Int} (h : l.length ≤ N) : (padF N l).length = N := by simp [padF]; omega
theorem padF_map {N : Nat} {l : List Int} (g : Int → Int) (h0 : g 0 = 0) : (padF N l).map g = padF N (l.map g) := by
  simp [padF, h0]
theorem colF_len {s : Str} {log : Int} (c : Nat) (h : s.l.length ≤ 2 ^ log.toNat) : (colF s log c).length = 2 ^ log.toNat := padF_len (by simpa using h)
theorem colF_bit (s : Str) (log : Int) (c k : Nat) : (colF s log c).map (fun x => bitF x k) = bitColF s log c k := by
  unfold colF bitColF
  rw [padF_map (fun x => bitF x k) (by simp [bitF]), List.map_map]
  rfl
theorem colF_small {s : Str} {log : Int} (c : Nat) (h : ∀ r ∈ s.l, ValidR r) : ∀ x ∈ colF s log c, 0 ≤ x ∧ x < 256 := by
  intro x hx
  rcases List.mem_append.1 hx with hx | hx
  · obtain ⟨r, hr, rfl⟩ := List.mem_map.1 hx
    exact field_small (h r hr) c
  · have := (List.mem_replicate.1 hx).2; omega
/-- A row of the call's own, collected since w0 (as 'Coll', for the loop's word). -/
def CollAt (w0 : World) (X : Nat → List Int) (n : Nat) (v i : Value) (wr : World) : Prop :=
  ∃ (j : Nat) (A1 : Option Addr) (c1 : Nat), j ≤ n ∧ i = .int .i64 j ∧ v = .slice A1 j c1 ∧ Coll .u64 50 w0 w0.heap.size (X j) v wr
/-- Columns are collected in slot v; their number is n1. -/
def ColsOf (w0 : World) (B : Nat) (xs : List (List Int)) (v : Value) (wr : World) : Prop :=
  ∃ (F : Nat → Prop) (A1 : Option Addr) (n1 c1 : Nat), v = .slice A1 n1 c1 ∧ ColsF F w0 B xs v wr

set_option maxRecDepth 100000 in
set_option maxHeartbeats 8000000 in
theorem bitsR_ok {s : Str} {A B : Option Addr} {c d : Nat} {log : Int} {S : Nat → Prop} (w : World) (he : checkF s.l.length log = 0) (h : Sl rdE S w A c s.l) (k : Sl .bool S w B d s.g) (ok : OkStr s) :
    Calls Try.prog 22 #[.agg #[.slice A s.l.length c, .slice B s.g.length d], .int .i64 log] w (ColRes w (bitsF s log, 0)) := by
  have hr0 : 0 ≤ log ∧ log ≤ 16 ∧ s.l.length ≤ 2 ^ log.toNat := by
    unfold checkF at he
    split at he
    · simp at he
    · split at he
      · simp at he
      · omega
  obtain ⟨h0, h1, hn⟩ := hr0
  obtain ⟨N, hN, -, hN1, hN2⟩ := pow_log log h0 h1
  have hcl := fun c => colF_len (s := s) (log := log) c hn
  rw [hN] at hcl
  have Hcl := Lib.hid hcl
  have Hsm := Lib.hid (fun c => colF_small (s := s) (log := log) c ok.valid)
  have hcol := fun W hh hk => columnsR_ok (A := A) (B := B) (c := c) (d := d) (S := S) W he hh hk ok
  have Hcol := Lib.hid hcol
  have H := Lib.hid h
  have K := Lib.hid k
  clear hN he h k ok hcl hcol hn
  go_enter Try.func22, Try.ntmps22
  go_wp2_with (go_at_call 20; refine (Hcol.out _ (H.out.keep ((Agree.refl _ _).alloc _)) (K.out.keep ((Agree.refl _ _).alloc _))).mono ?_; rintro e w1 ⟨A1, c1, rfl, hs1, hb1⟩)
  have hs1' : Sl Enc.u64.slice (fun _ => True) w1 A1 c1 (columnsF s log) := hs1.sub fun _ _ _ => trivial
  have Hs1 := Lib.hid hs1'
  have Hb1 := Lib.hid hb1
  clear hs1 hs1' hb1
  go_loopw [8, 9] (fun v i wr => ∃ j : Nat, j ≤ 4 ∧ i = .int .i64 j ∧ ColsOf w1 w1.heap.size (bitsK s log j) v wr) (fun _ i _ => 4 - (intOf i).toNat)
  case atStart =>
    exact ⟨0, by omega, rfl, fun _ => False, some ⟨w1.heap.size, 0, none⟩, 0, 0, rfl, ⟨Own.lit0 Enc.u64.slice (fun _ => False) _ _ (Nat.le_refl _), fun _ h => h.elim, fun _ _ h => h, fun _ h => h.elim, (Below.refl _ _).alloc (Nat.le_refl _) _, Nat.le_refl _, by simp⟩⟩
  case round =>
    obtain ⟨j, hj, rfl, F, A2, n2, c2, rfl, hC⟩ := hrel
    have HC := Lib.hid hC
    clear hC
    rcases (by omega : j = 0 ∨ j = 1 ∨ j = 2 ∨ j = 3 ∨ j = 4) with rfl | rfl | rfl | rfl | rfl
    · rw [show Value.int IntKind.i64 ((0 : Nat) : Int) = Value.int IntKind.i64 0 from rfl]
      go_wp2_with fail
      obtain ⟨wo, hwo⟩ : ∃ wo : World, wo = wr := ⟨_, rfl⟩
      subst hwo
      go_loopw [8, 10] (fun v i wr => ∃ k : Nat, k ≤ 4 ∧ i = .int .i64 k ∧ ColsOf w1 w1.heap.size (bitsT s log 0 k) v wr) (fun _ i _ => 4 - (intOf i).toNat)
      case atStart => exact ⟨0, by omega, rfl, F, A2, n2, c2, rfl, by rw [bitsT_zero]; exact HC.out⟩
      case round =>
        obtain ⟨k, hk, rfl, F2, A3, n3, c3, rfl, hC3⟩ := hrel
        have hl3 := (Own.len hC3.own)
        have hn3 : n3 ≤ 32 := by rw [hl3]; have := bitsK_len s log 0 (by omega); simp [bitsT]; omega
        have HC3 := Lib.hid hC3
        have Hl3 := Lib.hid hl3
        clear hC3 hl3
        have hk0 : (0 : Int) ≤ (k : Int) := by omega
        by_cases hlt : k < 4
        · have hk1 : (k : Int) < 4 := by omega
          go_wp2_with (go_at_call 34; refine (width_0 _).mono ?_; rintro e w2 ⟨rfl, rfl⟩)
          obtain ⟨wp, hwp⟩ : ∃ wp : World, wp = wr := ⟨_, rfl⟩
          subst hwp
          go_loopw [11, 12] (fun v i wr => CollAt wp (fun n => ((colF s log 0).take n).map (fun x => bitF x k)) N v i wr) (fun _ i _ => N - (intOf i).toNat)
          case atStart => exact ⟨0, some ⟨wp.heap.size, 0, none⟩, 0, Nat.zero_le _, rfl, rfl, ⟨Own.lit0 _ _ _ _ (Nat.le_refl _), (Below.refl _ _).alloc (Nat.le_refl _) _, Nat.le_refl _, by simp⟩⟩
          case round =>
            obtain ⟨i, A4, c4, hi, rfl, rfl, hK⟩ := hrel
            have b1 : Below w1.heap.size w1 wr := HC3.out.bel.trans (hK.bel.mono HC3.out.bel.size)
            obtain ⟨b2, o2, B2, d2, rfl, -, hb2, x0, h2⟩ := col_at (r := colF s log 0) (i := 0) (Hs1.out.keep (Below.agree b1)) rfl
            rw [Hcl.out 0] at x0
            try simp only [Nat.add_zero] at x0
            have H2 := Lib.hid h2
            have HK := Lib.hid hK
            have lo := hK.own.lt
            have hKs := hK.size
            have hl5 : ((5 : Int)) = ((columnsF s log).length : Int) := rfl
            have hi0 : (0 : Int) ≤ (i : Int) := by omega
            clear h2 hK b1
            by_cases hlt2 : i < N
            · have hi1 : (i : Int) < (N : Int) := by omega
              obtain ⟨x, hx⟩ : ∃ x, (colF s log 0)[i]? = some x := ⟨_, List.getElem?_eq_getElem (by rw [Hcl.out 0]; exact hlt2)⟩
              obtain ⟨b5, o5, rfl, -, hb5, y0⟩ := u64_at H2.out hx
              obtain ⟨q0, q1⟩ := Hsm.out 0 x (List.mem_of_getElem? hx)
              have hbw := bit_word x q0 q1 k
              have Hx := Lib.hid (take_snocR hx)
              clear hx
              have hnz : (((colF s log 0).take i).map (fun x => bitF x k)).length = i := by rw [List.length_map, List.length_take, Hcl.out 0]; omega
              have Hnz := Lib.hid hnz
              clear hnz
              go_wp2_with (at_builtin; go_must ((refine wpList_append_E (S := fun b => b = wr.heap.size) rfl (.tmp 43) (.tmp 54) rfl u64sT (base := wp.heap.size) (v := .slice A4 i c4) (xs := ((colF s log 0).take i).map (fun x => bitF x k)) (ys := [bitF x k]) (by rfl) (by rfl) rfl (nz := i + 1) (by rw [List.length_append, Hnz.out]; rfl) ((HK.out.own.flat u64_flat).alloc _) (Sl.litAt (S := fun b => b = wr.heap.size) rfl (.single rfl) (by unfold maxLen; simp) (fun _ h _ => h) rfl) (by rw [Hnz.out]; unfold maxLen; simp; omega) (by rw [Hnz.out]; simp; omega) (by simp; omega) (fun g hg (hs : g = wr.heap.size) => absurd (lo g hg).2 (by omega)) ?_); intro A5 c5 w5 hown5 hg5 hor5))
              go_roundw
              case rel => exact ⟨i + 1, A5, c5, by omega, by go_num, rfl, by show Coll _ _ _ _ (((colF s log 0).take (i + 1)).map (fun x => bitF x k)) _ _; rw [Hx.out, List.map_append]; exact HK.out.app u64_flat hown5 hg5⟩
              case measure => simp [intOf]; omega
            · have hi1 : ¬ (i : Int) < (N : Int) := by omega
              have hiN : i = N := by omega
              subst hiN
              have hcol : ((colF s log 0).take i).map (fun x => bitF x k) = bitColF s log 0 k := by rw [List.take_of_length_le (by rw [Hcl.out 0]; exact Nat.le_refl _), colF_bit]
              have hKK : Coll .u64 50 wp wp.heap.size (((colF s log 0).take i).map (fun x => bitF x k)) (.slice A4 i c4) wr := HK.out
              rw [hcol] at hKK
              have hbl : (bitColF s log 0 k).length = i := (Own.len hKK.own).symm
              have HKK := Lib.hid hKK
              have Hbl := Lib.hid hbl
              clear hcol hKK hbl
              go_wp2_with (at_builtin; go_must ((refine wpList_append_E (S := fun b => F2 b ∨ (wp.heap.size ≤ b ∧ b ≤ wr.heap.size)) rfl (.tmp 56) (.tmp 58) rfl colsT (base := w1.heap.size) (v := .slice A3 n3 c3) (xs := bitsT s log 0 k) (ys := [bitColF s log 0 k]) (by rfl) (by rfl) rfl (nz := n3 + 1) (by rw [List.length_append, ← Hl3.out]; rfl) (HC3.out.pre HKK.out.bel _) (by have h := ColsF.lit (F := F2) (HKK.out.own.flatSl u64_flat (T := fun b => wp.heap.size ≤ b) (fun b hb => hb)) (fun _ h _ => h) HKK.out.bel.size; rw [Hbl.out] at h; exact h) (by rw [← Hl3.out]; unfold maxLen; simp; omega) (by rw [← Hl3.out]; simp; omega) (by have := HC3.out.size; simp; omega) HC3.out.apart ?_); intro A6 c6 w6 hown6 hg6 hor6))
              go_roundw
              case rel => exact ⟨k + 1, by omega, by go_num, _, A6, n3 + 1, c6, rfl, by rw [bitsT_succ]; exact HC3.out.app HKK.out.bel hown6 hg6 hor6⟩
              case measure => simp [intOf]; omega
        · have hk1 : ¬ (k : Int) < 4 := by omega
          have hkb : k = 4 := by omega
          go_wp2_with (go_at_call 34; refine (width_0 _).mono ?_; rintro e w2 ⟨rfl, rfl⟩)
          go_roundw
          case rel =>
            have fin := HC3.out
            rw [hkb] at fin
            exact ⟨1, by omega, rfl, F2, A3, n3, c3, rfl, fin⟩
          case measure => simp [intOf]
    · rw [show Value.int IntKind.i64 ((1 : Nat) : Int) = Value.int IntKind.i64 1 from rfl]
      go_wp2_with fail
      obtain ⟨wo, hwo⟩ : ∃ wo : World, wo = wr := ⟨_, rfl⟩
      subst hwo
      go_loopw [8, 10] (fun v i wr => ∃ k : Nat, k ≤ 8 ∧ i = .int .i64 k ∧ ColsOf w1 w1.heap.size (bitsT s log 1 k) v wr) (fun _ i _ => 8 - (intOf i).toNat)
      case atStart => exact ⟨0, by omega, rfl, F, A2, n2, c2, rfl, by rw [bitsT_zero]; exact HC.out⟩
      case round =>
        obtain ⟨k, hk, rfl, F2, A3, n3, c3, rfl, hC3⟩ := hrel
        have hl3 := (Own.len hC3.own)
        have hn3 : n3 ≤ 32 := by rw [hl3]; have := bitsK_len s log 1 (by omega); simp [bitsT]; omega
        have HC3 := Lib.hid hC3
        have Hl3 := Lib.hid hl3
        clear hC3 hl3
        have hk0 : (0 : Int) ≤ (k : Int) := by omega
        by_cases hlt : k < 8
        · have hk1 : (k : Int) < 8 := by omega
          go_wp2_with (go_at_call 34; refine (width_1 _).mono ?_; rintro e w2 ⟨rfl, rfl⟩)
          obtain ⟨wp, hwp⟩ : ∃ wp : World, wp = wr := ⟨_, rfl⟩
          subst hwp
          go_loopw [11, 12] (fun v i wr => CollAt wp (fun n => ((colF s log 1).take n).map (fun x => bitF x k)) N v i wr) (fun _ i _ => N - (intOf i).toNat)
          case atStart => exact ⟨0, some ⟨wp.heap.size, 0, none⟩, 0, Nat.zero_le _, rfl, rfl, ⟨Own.lit0 _ _ _ _ (Nat.le_refl _), (Below.refl _ _).alloc (Nat.le_refl _) _, Nat.le_refl _, by simp⟩⟩
          case round =>
            obtain ⟨i, A4, c4, hi, rfl, rfl, hK⟩ := hrel
            have b1 : Below w1.heap.size w1 wr := HC3.out.bel.trans (hK.bel.mono HC3.out.bel.size)
            obtain ⟨b2, o2, B2, d2, rfl, -, hb2, x0, h2⟩ := col_at (r := colF s log 1) (i := 1) (Hs1.out.keep (Below.agree b1)) rfl
            rw [Hcl.out 1] at x0
            try simp only [Nat.add_zero] at x0
            have H2 := Lib.hid h2
            have HK := Lib.hid hK
            have lo := hK.own.lt
            have hKs := hK.size
            have hl5 : ((5 : Int)) = ((columnsF s log).length : Int) := rfl
            have hi0 : (0 : Int) ≤ (i : Int) := by omega
            clear h2 hK b1
            by_cases hlt2 : i < N
            · have hi1 : (i : Int) < (N : Int) := by omega
              obtain ⟨x, hx⟩ : ∃ x, (colF s log 1)[i]? = some x := ⟨_, List.getElem?_eq_getElem (by rw [Hcl.out 1]; exact hlt2)⟩
              obtain ⟨b5, o5, rfl, -, hb5, y0⟩ := u64_at H2.out hx
              obtain ⟨q0, q1⟩ := Hsm.out 1 x (List.mem_of_getElem? hx)
              have hbw := bit_word x q0 q1 k
              have Hx := Lib.hid (take_snocR hx)
              clear hx
              have hnz : (((colF s log 1).take i).map (fun x => bitF x k)).length = i := by rw [List.length_map, List.length_take, Hcl.out 1]; omega
              have Hnz := Lib.hid hnz
              clear hnz
              go_wp2_with (at_builtin; go_must ((refine wpList_append_E (S := fun b => b = wr.heap.size) rfl (.tmp 43) (.tmp 54) rfl u64sT (base := wp.heap.size) (v := .slice A4 i c4) (xs := ((colF s log 1).take i).map (fun x => bitF x k)) (ys := [bitF x k]) (by rfl) (by rfl) rfl (nz := i + 1) (by rw [List.length_append, Hnz.out]; rfl) ((HK.out.own.flat u64_flat).alloc _) (Sl.litAt (S := fun b => b = wr.heap.size) rfl (.single rfl) (by unfold maxLen; simp) (fun _ h _ => h) rfl) (by rw [Hnz.out]; unfold maxLen; simp; omega) (by rw [Hnz.out]; simp; omega) (by simp; omega) (fun g hg (hs : g = wr.heap.size) => absurd (lo g hg).2 (by omega)) ?_); intro A5 c5 w5 hown5 hg5 hor5))
              go_roundw
              case rel => exact ⟨i + 1, A5, c5, by omega, by go_num, rfl, by show Coll _ _ _ _ (((colF s log 1).take (i + 1)).map (fun x => bitF x k)) _ _; rw [Hx.out, List.map_append]; exact HK.out.app u64_flat hown5 hg5⟩
              case measure => simp [intOf]; omega
            · have hi1 : ¬ (i : Int) < (N : Int) := by omega
              have hiN : i = N := by omega
              subst hiN
              have hcol : ((colF s log 1).take i).map (fun x => bitF x k) = bitColF s log 1 k := by rw [List.take_of_length_le (by rw [Hcl.out 1]; exact Nat.le_refl _), colF_bit]
              have hKK : Coll .u64 50 wp wp.heap.size (((colF s log 1).take i).map (fun x => bitF x k)) (.slice A4 i c4) wr := HK.out
              rw [hcol] at hKK
              have hbl : (bitColF s log 1 k).length = i := (Own.len hKK.own).symm
              have HKK := Lib.hid hKK
              have Hbl := Lib.hid hbl
              clear hcol hKK hbl
              go_wp2_with (at_builtin; go_must ((refine wpList_append_E (S := fun b => F2 b ∨ (wp.heap.size ≤ b ∧ b ≤ wr.heap.size)) rfl (.tmp 56) (.tmp 58) rfl colsT (base := w1.heap.size) (v := .slice A3 n3 c3) (xs := bitsT s log 1 k) (ys := [bitColF s log 1 k]) (by rfl) (by rfl) rfl (nz := n3 + 1) (by rw [List.length_append, ← Hl3.out]; rfl) (HC3.out.pre HKK.out.bel _) (by have h := ColsF.lit (F := F2) (HKK.out.own.flatSl u64_flat (T := fun b => wp.heap.size ≤ b) (fun b hb => hb)) (fun _ h _ => h) HKK.out.bel.size; rw [Hbl.out] at h; exact h) (by rw [← Hl3.out]; unfold maxLen; simp; omega) (by rw [← Hl3.out]; simp; omega) (by have := HC3.out.size; simp; omega) HC3.out.apart ?_); intro A6 c6 w6 hown6 hg6 hor6))
              go_roundw
              case rel => exact ⟨k + 1, by omega, by go_num, _, A6, n3 + 1, c6, rfl, by rw [bitsT_succ]; exact HC3.out.app HKK.out.bel hown6 hg6 hor6⟩
              case measure => simp [intOf]; omega
        · have hk1 : ¬ (k : Int) < 8 := by omega
          have hkb : k = 8 := by omega
          go_wp2_with (go_at_call 34; refine (width_1 _).mono ?_; rintro e w2 ⟨rfl, rfl⟩)
          go_roundw
          case rel =>
            have fin := HC3.out
            rw [hkb] at fin
            exact ⟨2, by omega, rfl, F2, A3, n3, c3, rfl, fin⟩
          case measure => simp [intOf]
    · rw [show Value.int IntKind.i64 ((2 : Nat) : Int) = Value.int IntKind.i64 2 from rfl]
      go_wp2_with fail
      obtain ⟨wo, hwo⟩ : ∃ wo : World, wo = wr := ⟨_, rfl⟩
      subst hwo
      go_loopw [8, 10] (fun v i wr => ∃ k : Nat, k ≤ 4 ∧ i = .int .i64 k ∧ ColsOf w1 w1.heap.size (bitsT s log 2 k) v wr) (fun _ i _ => 4 - (intOf i).toNat)
      case atStart => exact ⟨0, by omega, rfl, F, A2, n2, c2, rfl, by rw [bitsT_zero]; exact HC.out⟩
      case round =>
        obtain ⟨k, hk, rfl, F2, A3, n3, c3, rfl, hC3⟩ := hrel
        have hl3 := (Own.len hC3.own)
        have hn3 : n3 ≤ 32 := by rw [hl3]; have := bitsK_len s log 2 (by omega); simp [bitsT]; omega
        have HC3 := Lib.hid hC3
        have Hl3 := Lib.hid hl3
        clear hC3 hl3
        have hk0 : (0 : Int) ≤ (k : Int) := by omega
        by_cases hlt : k < 4
        · have hk1 : (k : Int) < 4 := by omega
          go_wp2_with (go_at_call 34; refine (width_2 _).mono ?_; rintro e w2 ⟨rfl, rfl⟩)
          obtain ⟨wp, hwp⟩ : ∃ wp : World, wp = wr := ⟨_, rfl⟩
          subst hwp
          go_loopw [11, 12] (fun v i wr => CollAt wp (fun n => ((colF s log 2).take n).map (fun x => bitF x k)) N v i wr) (fun _ i _ => N - (intOf i).toNat)
          case atStart => exact ⟨0, some ⟨wp.heap.size, 0, none⟩, 0, Nat.zero_le _, rfl, rfl, ⟨Own.lit0 _ _ _ _ (Nat.le_refl _), (Below.refl _ _).alloc (Nat.le_refl _) _, Nat.le_refl _, by simp⟩⟩
          case round =>
            obtain ⟨i, A4, c4, hi, rfl, rfl, hK⟩ := hrel
            have b1 : Below w1.heap.size w1 wr := HC3.out.bel.trans (hK.bel.mono HC3.out.bel.size)
            obtain ⟨b2, o2, B2, d2, rfl, -, hb2, x0, h2⟩ := col_at (r := colF s log 2) (i := 2) (Hs1.out.keep (Below.agree b1)) rfl
            rw [Hcl.out 2] at x0
            try simp only [Nat.add_zero] at x0
            have H2 := Lib.hid h2
            have HK := Lib.hid hK
            have lo := hK.own.lt
            have hKs := hK.size
            have hl5 : ((5 : Int)) = ((columnsF s log).length : Int) := rfl
            have hi0 : (0 : Int) ≤ (i : Int) := by omega
            clear h2 hK b1
            by_cases hlt2 : i < N
            · have hi1 : (i : Int) < (N : Int) := by omega
              obtain ⟨x, hx⟩ : ∃ x, (colF s log 2)[i]? = some x := ⟨_, List.getElem?_eq_getElem (by rw [Hcl.out 2]; exact hlt2)⟩
              obtain ⟨b5, o5, rfl, -, hb5, y0⟩ := u64_at H2.out hx
              obtain ⟨q0, q1⟩ := Hsm.out 2 x (List.mem_of_getElem? hx)
              have hbw := bit_word x q0 q1 k
              have Hx := Lib.hid (take_snocR hx)
              clear hx
              have hnz : (((colF s log 2).take i).map (fun x => bitF x k)).length = i := by rw [List.length_map, List.length_take, Hcl.out 2]; omega
              have Hnz := Lib.hid hnz
              clear hnz
              go_wp2_with (at_builtin; go_must ((refine wpList_append_E (S := fun b => b = wr.heap.size) rfl (.tmp 43) (.tmp 54) rfl u64sT (base := wp.heap.size) (v := .slice A4 i c4) (xs := ((colF s log 2).take i).map (fun x => bitF x k)) (ys := [bitF x k]) (by rfl) (by rfl) rfl (nz := i + 1) (by rw [List.length_append, Hnz.out]; rfl) ((HK.out.own.flat u64_flat).alloc _) (Sl.litAt (S := fun b => b = wr.heap.size) rfl (.single rfl) (by unfold maxLen; simp) (fun _ h _ => h) rfl) (by rw [Hnz.out]; unfold maxLen; simp; omega) (by rw [Hnz.out]; simp; omega) (by simp; omega) (fun g hg (hs : g = wr.heap.size) => absurd (lo g hg).2 (by omega)) ?_); intro A5 c5 w5 hown5 hg5 hor5))
              go_roundw
              case rel => exact ⟨i + 1, A5, c5, by omega, by go_num, rfl, by show Coll _ _ _ _ (((colF s log 2).take (i + 1)).map (fun x => bitF x k)) _ _; rw [Hx.out, List.map_append]; exact HK.out.app u64_flat hown5 hg5⟩
              case measure => simp [intOf]; omega
            · have hi1 : ¬ (i : Int) < (N : Int) := by omega
              have hiN : i = N := by omega
              subst hiN
              have hcol : ((colF s log 2).take i).map (fun x => bitF x k) = bitColF s log 2 k := by rw [List.take_of_length_le (by rw [Hcl.out 2]; exact Nat.le_refl _), colF_bit]
              have hKK : Coll .u64 50 wp wp.heap.size (((colF s log 2).take i).map (fun x => bitF x k)) (.slice A4 i c4) wr := HK.out
              rw [hcol] at hKK
              have hbl : (bitColF s log 2 k).length = i := (Own.len hKK.own).symm
              have HKK := Lib.hid hKK
              have Hbl := Lib.hid hbl
              clear hcol hKK hbl
              go_wp2_with (at_builtin; go_must ((refine wpList_append_E (S := fun b => F2 b ∨ (wp.heap.size ≤ b ∧ b ≤ wr.heap.size)) rfl (.tmp 56) (.tmp 58) rfl colsT (base := w1.heap.size) (v := .slice A3 n3 c3) (xs := bitsT s log 2 k) (ys := [bitColF s log 2 k]) (by rfl) (by rfl) rfl (nz := n3 + 1) (by rw [List.length_append, ← Hl3.out]; rfl) (HC3.out.pre HKK.out.bel _) (by have h := ColsF.lit (F := F2) (HKK.out.own.flatSl u64_flat (T := fun b => wp.heap.size ≤ b) (fun b hb => hb)) (fun _ h _ => h) HKK.out.bel.size; rw [Hbl.out] at h; exact h) (by rw [← Hl3.out]; unfold maxLen; simp; omega) (by rw [← Hl3.out]; simp; omega) (by have := HC3.out.size; simp; omega) HC3.out.apart ?_); intro A6 c6 w6 hown6 hg6 hor6))
              go_roundw
              case rel => exact ⟨k + 1, by omega, by go_num, _, A6, n3 + 1, c6, rfl, by rw [bitsT_succ]; exact HC3.out.app HKK.out.bel hown6 hg6 hor6⟩
              case measure => simp [intOf]; omega
        · have hk1 : ¬ (k : Int) < 4 := by omega
          have hkb : k = 4 := by omega
          go_wp2_with (go_at_call 34; refine (width_2 _).mono ?_; rintro e w2 ⟨rfl, rfl⟩)
          go_roundw
          case rel =>
            have fin := HC3.out
            rw [hkb] at fin
            exact ⟨3, by omega, rfl, F2, A3, n3, c3, rfl, fin⟩
          case measure => simp [intOf]
    · rw [show Value.int IntKind.i64 ((3 : Nat) : Int) = Value.int IntKind.i64 3 from rfl]
      go_wp2_with fail
      obtain ⟨wo, hwo⟩ : ∃ wo : World, wo = wr := ⟨_, rfl⟩
      subst hwo
      go_loopw [8, 10] (fun v i wr => ∃ k : Nat, k ≤ 8 ∧ i = .int .i64 k ∧ ColsOf w1 w1.heap.size (bitsT s log 3 k) v wr) (fun _ i _ => 8 - (intOf i).toNat)
      case atStart => exact ⟨0, by omega, rfl, F, A2, n2, c2, rfl, by rw [bitsT_zero]; exact HC.out⟩
      case round =>
        obtain ⟨k, hk, rfl, F2, A3, n3, c3, rfl, hC3⟩ := hrel
        have hl3 := (Own.len hC3.own)
        have hn3 : n3 ≤ 32 := by rw [hl3]; have := bitsK_len s log 3 (by omega); simp [bitsT]; omega
        have HC3 := Lib.hid hC3
        have Hl3 := Lib.hid hl3
        clear hC3 hl3
        have hk0 : (0 : Int) ≤ (k : Int) := by omega
        by_cases hlt : k < 8
        · have hk1 : (k : Int) < 8 := by omega
          go_wp2_with (go_at_call 34; refine (width_3 _).mono ?_; rintro e w2 ⟨rfl, rfl⟩)
          obtain ⟨wp, hwp⟩ : ∃ wp : World, wp = wr := ⟨_, rfl⟩
          subst hwp
          go_loopw [11, 12] (fun v i wr => CollAt wp (fun n => ((colF s log 3).take n).map (fun x => bitF x k)) N v i wr) (fun _ i _ => N - (intOf i).toNat)
          case atStart => exact ⟨0, some ⟨wp.heap.size, 0, none⟩, 0, Nat.zero_le _, rfl, rfl, ⟨Own.lit0 _ _ _ _ (Nat.le_refl _), (Below.refl _ _).alloc (Nat.le_refl _) _, Nat.le_refl _, by simp⟩⟩
          case round =>
            obtain ⟨i, A4, c4, hi, rfl, rfl, hK⟩ := hrel
            have b1 : Below w1.heap.size w1 wr := HC3.out.bel.trans (hK.bel.mono HC3.out.bel.size)
            obtain ⟨b2, o2, B2, d2, rfl, -, hb2, x0, h2⟩ := col_at (r := colF s log 3) (i := 3) (Hs1.out.keep (Below.agree b1)) rfl
            rw [Hcl.out 3] at x0
            try simp only [Nat.add_zero] at x0
            have H2 := Lib.hid h2
            have HK := Lib.hid hK
            have lo := hK.own.lt
            have hKs := hK.size
            have hl5 : ((5 : Int)) = ((columnsF s log).length : Int) := rfl
            have hi0 : (0 : Int) ≤ (i : Int) := by omega
            clear h2 hK b1
            by_cases hlt2 : i < N
            · have hi1 : (i : Int) < (N : Int) := by omega
              obtain ⟨x, hx⟩ : ∃ x, (colF s log 3)[i]? = some x := ⟨_, List.getElem?_eq_getElem (by rw [Hcl.out 3]; exact hlt2)⟩
              obtain ⟨b5, o5, rfl, -, hb5, y0⟩ := u64_at H2.out hx
              obtain ⟨q0, q1⟩ := Hsm.out 3 x (List.mem_of_getElem? hx)
              have hbw := bit_word x q0 q1 k
              have Hx := Lib.hid (take_snocR hx)
              clear hx
              have hnz : (((colF s log 3).take i).map (fun x => bitF x k)).length = i := by rw [List.length_map, List.length_take, Hcl.out 3]; omega
              have Hnz := Lib.hid hnz
              clear hnz
              go_wp2_with (at_builtin; go_must ((refine wpList_append_E (S := fun b => b = wr.heap.size) rfl (.tmp 43) (.tmp 54) rfl u64sT (base := wp.heap.size) (v := .slice A4 i c4) (xs := ((colF s log 3).take i).map (fun x => bitF x k)) (ys := [bitF x k]) (by rfl) (by rfl) rfl (nz := i + 1) (by rw [List.length_append, Hnz.out]; rfl) ((HK.out.own.flat u64_flat).alloc _) (Sl.litAt (S := fun b => b = wr.heap.size) rfl (.single rfl) (by unfold maxLen; simp) (fun _ h _ => h) rfl) (by rw [Hnz.out]; unfold maxLen; simp; omega) (by rw [Hnz.out]; simp; omega) (by simp; omega) (fun g hg (hs : g = wr.heap.size) => absurd (lo g hg).2 (by omega)) ?_); intro A5 c5 w5 hown5 hg5 hor5))
              go_roundw
              case rel => exact ⟨i + 1, A5, c5, by omega, by go_num, rfl, by show Coll _ _ _ _ (((colF s log 3).take (i + 1)).map (fun x => bitF x k)) _ _; rw [Hx.out, List.map_append]; exact HK.out.app u64_flat hown5 hg5⟩
              case measure => simp [intOf]; omega
            · have hi1 : ¬ (i : Int) < (N : Int) := by omega
              have hiN : i = N := by omega
              subst hiN
              have hcol : ((colF s log 3).take i).map (fun x => bitF x k) = bitColF s log 3 k := by rw [List.take_of_length_le (by rw [Hcl.out 3]; exact Nat.le_refl _), colF_bit]
              have hKK : Coll .u64 50 wp wp.heap.size (((colF s log 3).take i).map (fun x => bitF x k)) (.slice A4 i c4) wr := HK.out
              rw [hcol] at hKK
              have hbl : (bitColF s log 3 k).length = i := (Own.len hKK.own).symm
              have HKK := Lib.hid hKK
              have Hbl := Lib.hid hbl
              clear hcol hKK hbl
              go_wp2_with (at_builtin; go_must ((refine wpList_append_E (S := fun b => F2 b ∨ (wp.heap.size ≤ b ∧ b ≤ wr.heap.size)) rfl (.tmp 56) (.tmp 58) rfl colsT (base := w1.heap.size) (v := .slice A3 n3 c3) (xs := bitsT s log 3 k) (ys := [bitColF s log 3 k]) (by rfl) (by rfl) rfl (nz := n3 + 1) (by rw [List.length_append, ← Hl3.out]; rfl) (HC3.out.pre HKK.out.bel _) (by have h := ColsF.lit (F := F2) (HKK.out.own.flatSl u64_flat (T := fun b => wp.heap.size ≤ b) (fun b hb => hb)) (fun _ h _ => h) HKK.out.bel.size; rw [Hbl.out] at h; exact h) (by rw [← Hl3.out]; unfold maxLen; simp; omega) (by rw [← Hl3.out]; simp; omega) (by have := HC3.out.size; simp; omega) HC3.out.apart ?_); intro A6 c6 w6 hown6 hg6 hor6))
              go_roundw
              case rel => exact ⟨k + 1, by omega, by go_num, _, A6, n3 + 1, c6, rfl, by rw [bitsT_succ]; exact HC3.out.app HKK.out.bel hown6 hg6 hor6⟩
              case measure => simp [intOf]; omega
        · have hk1 : ¬ (k : Int) < 8 := by omega
          have hkb : k = 8 := by omega
          go_wp2_with (go_at_call 34; refine (width_3 _).mono ?_; rintro e w2 ⟨rfl, rfl⟩)
          go_roundw
          case rel =>
            have fin := HC3.out
            rw [hkb] at fin
            exact ⟨4, by omega, rfl, F2, A3, n3, c3, rfl, fin⟩
          case measure => simp [intOf]
    · go_wp2_with fail
      go_ret2
      have fin := HC.out
      rw [bitsK_all] at fin
      have hl := Own.len fin.own
      have hz := Hb1.out.size
      simp at hz
      refine ⟨A2, c2, (show Ending.returned (.tuple #[.slice A2 n2 c2, .int .i64 0]) = _ by rw [hl]), ?_, (((Below.refl _ _).alloc (Nat.le_refl _) _).trans (Hb1.out.mono (by simp))).trans (fin.bel.mono (by omega))⟩
      exact (show Own Enc.u64.slice _ wr w1.heap.size 48 (.slice A2 n2 c2) (bitsF s log) from fin.own).toSl (fun b hb _ => by have := fin.ge b hb; omega) (fun b hb _ _ => by omega)
end Go.Proofs.Ytlolppjnpmdpgaa
