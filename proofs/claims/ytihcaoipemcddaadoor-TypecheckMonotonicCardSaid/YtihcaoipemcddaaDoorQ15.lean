/-
  Contracts of the type checker's reference (XQ15): Possible, Largest, Satisfiable.
-/
import Derived.Test.YtihcaoipemcddaaDoorQ1
import Derived.Test.YtihcaoipemcddaaDoorQF
namespace Go.Proofs.YtihcaoipemcddaaDoor
open Go.RowKit

theorem ret_i {k : IntKind} {a b : Int} (h : a = b) : Ending.returned (.int k a) = .returned (.int k b) := by rw [h]
def possT (col v : Int) (c : Cd) : Bool := !decide (c.col = col ∧ (v < c.lo ∨ c.hi < v))
set_option maxRecDepth 100000 in
set_option maxHeartbeats 2000000 in
theorem possRef {l : List Cd} {A : Option Addr} {c : Nat} {S : Nat → Prop} (col v : Int) (w : World) (h : Sl cdE S w A c l) :
    Calls Tryd.prog 38 #[.slice A l.length c, .int .i64 col, .int .i64 v] w fun e w' => e = .returned (.bool (possB l col v)) ∧ w = w' := by
  have hm := h.max
  have H := Lib.hid h
  clear h
  have hp : possB l col v = (l.all (possT col v) && decide (0 ≤ v ∧ v ≤ maxC col)) := rfl
  have HP := Lib.hid hp
  clear hp
  go_enter Tryd.func38, Tryd.ntmps38
  go_wp2_with fail
  go_loop [7] (fun i => ∃ j : Nat, j ≤ l.length ∧ i = .int .i64 j ∧ (l.take j).all (possT col v) = true) (fun i => l.length - (intOf i).toNat)
  case atStart => exact ⟨0, Nat.zero_le _, rfl, rfl⟩
  case round =>
    obtain ⟨j, hj, rfl, ha⟩ := hrel
    have Ha := Lib.hid ha
    clear ha
    have hj0 : (0 : Int) ≤ (j : Int) := by omega
    by_cases hlt : j < l.length
    · obtain ⟨x, hx⟩ : ∃ x, l[j]? = some x := ⟨_, List.getElem?_eq_getElem hlt⟩
      obtain ⟨b1, o1, rfl, -, l1, x0, x1, x2⟩ := cd_at H.out hx
      have hj1 : (j : Int) < (l.length : Int) := by omega
      have hn : (l.take (j + 1)).all (possT col v) = ((l.take j).all (possT col v) && possT col v x) := by rw [take_snocR hx]; simp
      have Hn := Lib.hid hn
      have Hx := Lib.hid hx
      clear hx hn
      by_cases c1 : x.col = col
      · have f1 : (x.col == col) = true := by simp [c1]
        by_cases c2 : v < x.lo
        · have ht := Lib.hid (show possT col v x = false by unfold possT; rw [decide_eq_true ⟨c1, .inl c2⟩]; rfl)
          have hf := Lib.hid (show possB l col v = false by rw [HP.out, List.all_eq_false.2 ⟨x, List.mem_of_getElem? Hx.out, by rw [ht.out]; simp⟩]; rfl)
          clear c1
          go_wp2_with fail
          go_ret
          exact ⟨ret_b hf.out.symm, rfl⟩
        · have f2 : decide (v < x.lo) = false := decide_eq_false c2
          by_cases c3 : x.hi < v
          · have ht := Lib.hid (show possT col v x = false by unfold possT; rw [decide_eq_true ⟨c1, .inr c3⟩]; rfl)
            have hf := Lib.hid (show possB l col v = false by rw [HP.out, List.all_eq_false.2 ⟨x, List.mem_of_getElem? Hx.out, by rw [ht.out]; simp⟩]; rfl)
            clear c1
            go_wp2_with fail
            go_ret
            exact ⟨ret_b hf.out.symm, rfl⟩
          · have f3 : decide (x.hi < v) = false := decide_eq_false c3
            have ht := Lib.hid (show possT col v x = true by unfold possT; rw [decide_eq_false (fun h => by omega)]; rfl)
            clear c1
            go_wp2_with fail
            go_round
            case rel => exact ⟨j + 1, by omega, by go_num, by rw [Hn.out, Ha.out, ht.out]; rfl⟩
            case measure => simp [intOf]; omega
      · have f1 : (x.col == col) = false := by simpa using c1
        have ht := Lib.hid (show possT col v x = true by unfold possT; rw [decide_eq_false (fun h => c1 h.1)]; rfl)
        clear c1
        go_wp2_with fail
        go_round
        case rel => exact ⟨j + 1, by omega, by go_num, by rw [Hn.out, Ha.out, ht.out]; rfl⟩
        case measure => simp [intOf]; omega
    · have hj1 : ¬ (j : Int) < (l.length : Int) := by omega
      have hall : l.all (possT col v) = true := by have := Ha.out; rwa [List.take_of_length_le (by omega)] at this
      have HA := Lib.hid hall
      clear hall
      by_cases c4 : 0 ≤ v
      · have hf := Lib.hid (show possB l col v = decide (v ≤ maxC col) by rw [HP.out, HA.out, Bool.true_and]; exact decide_eq_decide.2 (by omega))
        go_wp2_with (go_at_call 26; refine (maxRef _ _).mono ?_; rintro e w2 ⟨rfl, rfl⟩)
        go_ret
        exact ⟨ret_b hf.out.symm, rfl⟩
      · have f4 : decide (0 ≤ v) = false := decide_eq_false c4
        have hf := Lib.hid (show possB l col v = false by rw [HP.out, decide_eq_false (fun h => c4 h.1), Bool.and_false])
        go_wp2_with fail
        go_ret
        exact ⟨ret_b hf.out.symm, rfl⟩
set_option maxHeartbeats 2000000 in
theorem largeRef {l : List Cd} {A : Option Addr} {c : Nat} {S : Nat → Prop} {col : Int} (w : World) (h : Sl cdE S w A c l) (h0 : 0 ≤ col) (h3 : col ≤ 3) :
    Calls Tryd.prog 24 #[.slice A l.length c, .int .i64 col] w fun e w' => e = .returned (.int .i64 (largeF l col)) ∧ w = w' := by
  have H := Lib.hid h
  have hmx := maxC_pos col
  clear h
  obtain ⟨M, hM⟩ : ∃ M, maxC col = M := ⟨_, rfl⟩
  rw [hM] at hmx
  have HM := Lib.hid hM
  clear hM
  go_enter Tryd.func24, Tryd.ntmps24
  go_wp2_with (go_at_call 26; refine (maxRef _ _).mono ?_; rw [HM.out]; rintro e w2 ⟨rfl, rfl⟩)
  go_loop [5] (fun i => ∃ u : Int, -1 ≤ u ∧ u ≤ M ∧ i = .int .i64 u ∧ Hid (∀ x, u < x → x ≤ M → possB l col x = false)) (fun i => (intOf i + 1).toNat)
  case atStart => exact ⟨M, by omega, by omega, rfl, Lib.hid fun x h1 h2 => by omega⟩
  case round =>
    obtain ⟨u, hu0, hu1, rfl, Hu⟩ := hrel
    by_cases hge : 0 ≤ u
    · cases hpu : possB l col u with
      | true =>
        have hf := Lib.hid (large_found h0 h3 hpu fun x h1 h2 => Hu.out x h1 (by rw [← HM.out]; exact h2))
        have Hpu := Lib.hid hpu
        clear hpu
        go_wp2_with (go_at_call 38; refine (possRef _ _ _ H.out).mono ?_; rw [Hpu.out]; rintro e w3 ⟨rfl, rfl⟩)
        go_ret
        exact ⟨ret_i hf.out.symm, rfl⟩
      | false =>
        have Hpu := Lib.hid hpu
        clear hpu
        go_wp2_with (go_at_call 38; refine (possRef _ _ _ H.out).mono ?_; rw [Hpu.out]; rintro e w3 ⟨rfl, rfl⟩)
        go_round
        case rel => exact ⟨u - 1, by omega, by omega, by go_num, Lib.hid fun x h1 h2 => by
          rcases (by omega : x = u ∨ u < x) with rfl | h
          · exact Hpu.out
          · exact Hu.out x h h2⟩
        case measure => simp [intOf]; omega
    · have hf := Lib.hid (large_none (l := l) h0 h3 fun x h1 h2 => Hu.out x (by omega) (by rw [← HM.out]; exact h2))
      have hge' : ¬ (0 : Int) ≤ u := hge
      go_wp2_with fail
      go_ret
      exact ⟨ret_i hf.out.symm, rfl⟩
/-- The first j columns can be met. -/
def satT (l : List Cd) (j : Nat) : Bool := ([0, 1, 2, 3].take j).all fun col => decide (0 ≤ largeF l col)
theorem satT_all {l : List Cd} (hv : ∀ x ∈ l, ValidCd x) : satT l 4 = satB l := by
  rw [satB_large hv]
  unfold satT
  simp only [List.take, List.all_cons, List.all_nil, Bool.and_true]
  rw [Bool.eq_iff_iff]
  simp only [Bool.and_eq_true, decide_eq_true_eq]
theorem satT_succ (l : List Cd) {j : Nat} (h : j < 4) : satT l (j + 1) = (satT l j && decide (0 ≤ largeF l (j : Int))) := by
  match j, h with
  | 0, _ => simp [satT]
  | 1, _ => simp [satT]
  | 2, _ => simp [satT, Bool.and_assoc]
  | 3, _ => simp [satT, Bool.and_assoc]
theorem satT_false {l : List Cd} {j : Nat} (h : j < 4) (hf : satT l (j + 1) = false) : satT l 4 = false := by
  have h1 := satT_succ l (j := 1) (by omega)
  have h2 := satT_succ l (j := 2) (by omega)
  have h3 := satT_succ l (j := 3) (by omega)
  match j, h with
  | 0, _ => rw [h3, h2, h1, hf]; rfl
  | 1, _ => rw [h3, h2, hf]; rfl
  | 2, _ => rw [h3, hf]; rfl
  | 3, _ => exact hf
set_option maxHeartbeats 2000000 in
theorem satRef {l : List Cd} {A : Option Addr} {c : Nat} {S : Nat → Prop} (w : World) (h : Sl cdE S w A c l) (hv : ∀ x ∈ l, ValidCd x) :
    Calls Tryd.prog 25 #[.slice A l.length c] w fun e w' => e = .returned (.bool (satB l)) ∧ w = w' := by
  have H := Lib.hid h
  have HS := Lib.hid (satT_all hv)
  clear h hv
  go_enter Tryd.func25, Tryd.ntmps25
  go_wp2_with fail
  go_loop [3] (fun i => ∃ j : Nat, j ≤ 4 ∧ i = .int .i64 j ∧ satT l j = true) (fun i => 4 - (intOf i).toNat)
  case atStart => exact ⟨0, by omega, rfl, rfl⟩
  case round =>
    obtain ⟨j, hj, rfl, ha⟩ := hrel
    have Ha := Lib.hid ha
    clear ha
    have hj0 : (0 : Int) ≤ (j : Int) := by omega
    by_cases hlt : j < 4
    · have hj1 : (j : Int) < 4 := by omega
      have hs := Lib.hid (satT_succ l hlt)
      obtain ⟨z, hz⟩ : ∃ z, largeF l (j : Int) = z := ⟨_, rfl⟩
      have HZ := Lib.hid hz
      clear hz
      by_cases hz0 : z < 0
      · have hf := Lib.hid (satT_false hlt (by rw [hs.out, HZ.out, decide_eq_false (by omega), Bool.and_false]))
        go_wp2_with (go_at_call 24; refine (largeRef _ H.out hj0 (by omega)).mono ?_; rw [HZ.out]; rintro e w3 ⟨rfl, rfl⟩)
        go_ret
        exact ⟨ret_b (by rw [← HS.out, hf.out]), rfl⟩
      · have hz1 : ¬ z < 0 := hz0
        go_wp2_with (go_at_call 24; refine (largeRef _ H.out hj0 (by omega)).mono ?_; rw [HZ.out]; rintro e w3 ⟨rfl, rfl⟩)
        go_round
        case rel => exact ⟨j + 1, by omega, by go_num, by rw [hs.out, Ha.out, HZ.out, decide_eq_true (by omega)]; rfl⟩
        case measure => simp [intOf]; omega
    · have hj1 : ¬ (j : Int) < 4 := by omega
      obtain rfl : j = 4 := by omega
      go_wp2_with fail
      go_ret
      exact ⟨ret_b (by rw [← HS.out, Ha.out]), rfl⟩
end Go.Proofs.YtihcaoipemcddaaDoor
