/-
  Contracts of the readings (XRd7): the reference's Same and SameColumns, at equal data.
-/
import Derived.Test.YtlolppjnpmdpgaaRd6
namespace Go.Proofs.Ytlolppjnpmdpgaa
open Go.RowKit

set_option maxHeartbeats 1000000 in
theorem sameStr_eq {s : Str} {A B A' B' : Option Addr} {c d c' d' : Nat} {S T : Nat → Prop} (w : World) (h : Sl rdE S w A c s.l) (k : Sl .bool S w B d s.g) (h' : Sl rdE T w A' c' s.l) (k' : Sl .bool T w B' d' s.g) :
    Calls Try.prog 16 #[.agg #[.slice A s.l.length c, .slice B s.g.length d], .agg #[.slice A' s.l.length c', .slice B' s.g.length d']] w fun e w' => e = .returned (.bool true) ∧ Below w.heap.size w w' := by
  have hm := h.max
  have hm' := k.max
  have H := Lib.hid h
  have K := Lib.hid k
  have H' := Lib.hid h'
  have K' := Lib.hid k'
  clear h k h' k'
  go_enter Try.func16, Try.ntmps16
  go_wp2_with fail
  go_loopw [5] (fun i wr => ∃ j : Nat, j ≤ s.l.length ∧ i = .int .i64 j ∧ Below (w.heap.size + 1 + 1) ((w.alloc (.cells #[.slice A s.l.length c, .slice B s.g.length d] 30)).alloc (.cells #[.slice A' s.l.length c', .slice B' s.g.length d'] 30)) wr) (fun i _ => s.l.length - (intOf i).toNat)
  case atStart => exact ⟨0, Nat.zero_le _, rfl, Below.refl _ _⟩
  case round =>
    obtain ⟨j, hj, rfl, hb⟩ := hrel
    have hc0 := fun o => hb.cell (p := ⟨w.heap.size, o, none⟩) (by simp; omega)
    have hc1 := fun o => hb.cell (p := ⟨w.heap.size + 1, o, none⟩) (by simp)
    have hsz := hb.size
    simp at hsz
    have hlw : w.heap.size < wr.heap.size := by omega
    have b1 : Below w.heap.size w wr := (((Below.refl _ _).alloc (Nat.le_refl _) _).alloc (by simp) _).trans (hb.mono (by omega))
    have B1 := Lib.hid b1
    have Hb := Lib.hid hb
    clear b1 hb
    by_cases hlt : j < s.l.length
    · obtain ⟨r, hr⟩ : ∃ r, s.l[j]? = some r := ⟨_, List.getElem?_eq_getElem hlt⟩
      obtain ⟨b2, o2, rfl, -, hb2, x0, x1, x2, x3⟩ := rd_at (H.out.keep (Below.agree B1.out)) hr
      obtain ⟨b3, o3, rfl, -, hb3, y0, y1, y2, y3⟩ := rd_at (H'.out.keep (Below.agree B1.out)) hr
      have hj0 : (0 : Int) ≤ (j : Int) := by omega
      have hj1 : (j : Int) < (s.l.length : Int) := by omega
      clear hr
      go_wp2_with fail
      go_quiet (fail)
      go_wp2_with fail
      go_roundw
      case rel => exact ⟨j + 1, by omega, by go_num, below_drewN Hb.out _⟩
      case measure => simp [intOf]; omega
    · have hj1 : ¬ (j : Int) < (s.l.length : Int) := by omega
      go_wp2_with fail
      obtain ⟨wo, hwo⟩ : ∃ wo : World, wo = wr := ⟨_, rfl⟩
      subst hwo
      go_loopw [6] (fun i wr => ∃ j : Nat, j ≤ s.g.length ∧ i = .int .i64 j ∧ Below (w.heap.size + 1 + 1) ((w.alloc (.cells #[.slice A s.l.length c, .slice B s.g.length d] 30)).alloc (.cells #[.slice A' s.l.length c', .slice B' s.g.length d'] 30)) wr) (fun i _ => s.g.length - (intOf i).toNat)
      case atStart => exact ⟨0, Nat.zero_le _, rfl, Hb.out⟩
      case round =>
        obtain ⟨j, hj, rfl, hb⟩ := hrel
        have hc0 := fun o => hb.cell (p := ⟨w.heap.size, o, none⟩) (by simp; omega)
        have hc1 := fun o => hb.cell (p := ⟨w.heap.size + 1, o, none⟩) (by simp)
        have hsz := hb.size
        simp at hsz
        have hlw : w.heap.size < wr.heap.size := by omega
        have b1 : Below w.heap.size w wr := (((Below.refl _ _).alloc (Nat.le_refl _) _).alloc (by simp) _).trans (hb.mono (by omega))
        have B1 := Lib.hid b1
        have Hb := Lib.hid hb
        clear b1 hb
        by_cases hlt : j < s.g.length
        · obtain ⟨r, hr⟩ : ∃ r, s.g[j]? = some r := ⟨_, List.getElem?_eq_getElem hlt⟩
          obtain ⟨b2, o2, rfl, -, hb2, x0⟩ := bool_at (K.out.keep (Below.agree B1.out)) hr
          obtain ⟨b3, o3, rfl, -, hb3, y0⟩ := bool_at (K'.out.keep (Below.agree B1.out)) hr
          have hj0 : (0 : Int) ≤ (j : Int) := by omega
          have hj1 : (j : Int) < (s.g.length : Int) := by omega
          clear hr
          go_wp2_with fail
          go_quiet (fail)
          go_wp2_with fail
          go_roundw
          case rel => exact ⟨j + 1, by omega, by go_num, below_drewN Hb.out _⟩
          case measure => simp [intOf]; omega
        · have hj1 : ¬ (j : Int) < (s.g.length : Int) := by omega
          go_wp2_with fail
          go_ret
          exact ⟨rfl, B1.out⟩

set_option maxHeartbeats 2000000 in
theorem sameCols_eq {l : List (List Int)} {A A' : Option Addr} {c c' : Nat} {S T : Nat → Prop} (w : World) (h : Sl Enc.u64.slice S w A c l) (h' : Sl Enc.u64.slice T w A' c' l) :
    Calls Try.prog 26 #[.slice A l.length c, .slice A' l.length c'] w fun e w' => e = .returned (.bool true) ∧ Below w.heap.size w w' := by
  have hm := h.max
  have H := Lib.hid h
  have H' := Lib.hid h'
  clear h h'
  go_enter Try.func26, Try.ntmps26
  go_wp2_with fail
  go_loopw [5] (fun i wr => ∃ j : Nat, j ≤ l.length ∧ i = .int .i64 j ∧ Below w.heap.size w wr) (fun i _ => l.length - (intOf i).toNat)
  case atStart => exact ⟨0, Nat.zero_le _, rfl, Below.refl _ _⟩
  case round =>
    obtain ⟨j, hj, rfl, hb⟩ := hrel
    have B1 := Lib.hid hb
    clear hb
    by_cases hlt : j < l.length
    · obtain ⟨r, hr⟩ : ∃ r, l[j]? = some r := ⟨_, List.getElem?_eq_getElem hlt⟩
      obtain ⟨b2, o2, B2, d2, rfl, -, hb2, x0, h2⟩ := col_at (H.out.keep (Below.agree B1.out)) hr
      obtain ⟨b3, o3, B3, d3, rfl, -, hb3, y0, h3⟩ := col_at (H'.out.keep (Below.agree B1.out)) hr
      have hm2 := h2.max
      have H2 := Lib.hid h2
      have H3 := Lib.hid h3
      have Hr := Lib.hid hr
      have hj0 : (0 : Int) ≤ (j : Int) := by omega
      have hj1 : (j : Int) < (l.length : Int) := by omega
      clear hr h2 h3
      go_wp2_with fail
      go_quiet (fail)
      go_wp2_with fail
      obtain ⟨wo, hwo⟩ : ∃ wo : World, wo = wr := ⟨_, rfl⟩
      subst hwo
      go_loopw [6] (fun i wr => ∃ k : Nat, k ≤ r.length ∧ i = .int .i64 k ∧ Below wo.heap.size wo wr) (fun i _ => r.length - (intOf i).toNat)
      case atStart => exact ⟨0, Nat.zero_le _, rfl, below_drewN (Below.refl _ _) _⟩
      case round =>
        obtain ⟨k, hk, rfl, hb⟩ := hrel
        have hw2 : b2 < wr.heap.size := Nat.lt_of_lt_of_le hb2 hb.size
        have hw3 : b3 < wr.heap.size := Nat.lt_of_lt_of_le hb3 hb.size
        have x1 : wr.cell? ⟨b2, o2 + j, none⟩ = some (.slice B2 r.length d2) := (hb.cell (p := ⟨b2, o2 + j, none⟩) hb2).trans x0
        have y1 : wr.cell? ⟨b3, o3 + j, none⟩ = some (.slice B3 r.length d3) := (hb.cell (p := ⟨b3, o3 + j, none⟩) hb3).trans y0
        have B2' := Lib.hid hb
        clear hb
        by_cases hlk : k < r.length
        · obtain ⟨x, hx⟩ : ∃ x, r[k]? = some x := ⟨_, List.getElem?_eq_getElem hlk⟩
          obtain ⟨b4, o4, rfl, -, hb4, x2⟩ := u64_at (H2.out.keep (Below.agree B2'.out)) hx
          obtain ⟨b5, o5, rfl, -, hb5, y2⟩ := u64_at (H3.out.keep (Below.agree B2'.out)) hx
          have hk0 : (0 : Int) ≤ (k : Int) := by omega
          have hk1 : (k : Int) < (r.length : Int) := by omega
          clear hx x0 y0
          go_wp2_with fail
          go_quiet (fail)
          go_wp2_with fail
          go_roundw
          case rel => exact ⟨k + 1, by omega, by go_num, below_drewN B2'.out _⟩
          case measure => simp [intOf]; omega
        · have hk1 : ¬ (k : Int) < (r.length : Int) := by omega
          clear x0 y0
          go_wp2_with fail
          go_roundw
          case rel => exact ⟨j + 1, by omega, by go_num, B1.out.trans (B2'.out.mono B1.out.size)⟩
          case measure => simp [intOf]; omega
    · have hj1 : ¬ (j : Int) < (l.length : Int) := by omega
      go_wp2_with fail
      go_ret
      exact ⟨rfl, B1.out⟩
end Go.Proofs.Ytlolppjnpmdpgaa
