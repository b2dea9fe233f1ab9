/-
  Contracts of the type checker (XQ8): whether a filter can be met; products of 64 bits.
-/
import Derived.Test.YtihcaoipemcddaaDoorQ7
import Derived.Test.YtihcaoipemcddaaDoorQ2
import Derived.Lib.Mul64
import Derived.Laws.Bits64b
import Derived.Shelf.Bits.Mul64
namespace Go.Proofs.YtihcaoipemcddaaDoor
open Go.RowKit

def emptyB (l : List Cd) (col : Int) : Bool := decide ((underF l col).2 < (underF l col).1)
theorem satB_any (l : List Cd) : satB l = !([0, 1, 2, 3].any (emptyB l)) := by
  unfold satB emptyB
  simp only [List.any_cons, List.any_nil, Bool.or_false]
  rw [Bool.eq_iff_iff]
  simp only [Bool.not_eq_true', Bool.or_eq_false_iff, decide_eq_true_eq, decide_eq_false_iff_not]
  omega
theorem sat1P {l : List Cd} {A : Option Addr} {c p : Nat} {S : Nat → Prop} (col : Int) (w : World) (hw : WidOk w) (h : Sl cdE S w A c l) (hp : w.cell? ⟨p, 0, none⟩ = some (.slice A l.length c)) (h0 : -9223372036854775808 ≤ col) (h1 : col ≤ 9223372036854775807) :
    Calls Tryd.prog 62 #[.int .i64 col, .pointer (some ⟨p, 0, none⟩)] w fun e w' => e = .returned (.bool (emptyB l col)) ∧ Below w.heap.size w w' := by
  have H := Lib.hid h
  have HW := Lib.hid hw
  clear h hw
  go_enter Tryd.func62, Tryd.ntmps62
  go_wp2_with (go_at_call 59; refine (underP _ _ HW.out H.out h0 h1).mono ?_; rintro e w1 ⟨rfl, hb1⟩)
  go_ret
  exact ⟨rfl, hb1.alloc hb1.size _⟩
theorem indexI {l : List Cd} {xs : List Int} {A B : Option Addr} {c d p : Nat} {S T : Nat → Prop} (w : World) (hw : WidOk w) (h : Sl cdE S w A c l) (hp : w.cell? ⟨p, 0, none⟩ = some (.slice A l.length c)) (k : Sl .i64 T w B d xs) (hx : ∀ x ∈ xs, 0 ≤ x ∧ x ≤ 3) :
    Calls Tryd.prog 65 #[.slice B xs.length d, .func (.func 62) #[] #[.pointer (some ⟨p, 0, none⟩)]] w (SignB (xs.any (emptyB l)) w) := by
  have hm := k.max
  have H := Lib.hid h
  have HW := Lib.hid hw
  have K := Lib.hid k
  have HX := Lib.hid hx
  have HP := Lib.hid hp
  clear h hw k hx hp
  go_enter Tryd.func65, Tryd.ntmps65
  go_wp2_with fail
  go_loopw [8] (fun i wr => ∃ j : Nat, j ≤ xs.length ∧ i = .int .i64 j ∧ (xs.take j).any (emptyB l) = false ∧ Below w.heap.size w wr) (fun i _ => xs.length - (intOf i).toNat)
  case atStart => exact ⟨0, Nat.zero_le _, rfl, rfl, Below.refl _ _⟩
  case round =>
    obtain ⟨j, hj, rfl, hb, bb⟩ := hrel
    have Hb := Lib.hid hb
    have B0 := Lib.hid bb
    clear hb
    by_cases hlt : j < xs.length
    · obtain ⟨x, hx⟩ : ∃ x, xs[j]? = some x := ⟨_, List.getElem?_eq_getElem hlt⟩
      obtain ⟨b1, o1, rfl, -, hb1, x0⟩ := i64_at (K.out.keep (Below.agree bb)) hx
      obtain ⟨hx0, hx3⟩ := HX.out x (List.mem_of_getElem? hx)
      have hj0 : (0 : Int) ≤ (j : Int) := by omega
      have hj1 : (j : Int) < (xs.length : Int) := by omega
      have hs : (xs.take (j + 1)).any (emptyB l) = ((xs.take j).any (emptyB l) || emptyB l x) := by rw [take_snocR hx]; simp
      have Hs := Lib.hid hs
      have Hx := Lib.hid hx
      have pp := (bb.cell (p := ⟨p, 0, none⟩) (World.block_lt_of_cell? w _ HP.out)).trans HP.out
      have Hl := Lib.hid (H.out.keep (Below.agree bb))
      have HW' := mvW HW bb
      clear hs hx bb
      cases hok : emptyB l x with
      | false =>
        have Hok := Lib.hid hok
        clear hok
        go_wp2_with (go_at_call 62; refine (sat1P x _ HW'.out Hl.out pp (by omega) (by omega)).mono ?_; rw [Hok.out]; rintro e w2 ⟨rfl, hb2⟩)
        go_roundw
        case rel => exact ⟨j + 1, by omega, by go_num, by rw [Hs.out, Hb.out, Hok.out]; rfl, B0.out.trans (hb2.mono B0.out.size)⟩
        case measure => simp [intOf]; omega
      | true =>
        have Hok := Lib.hid hok
        clear hok
        go_wp2_with (go_at_call 62; refine (sat1P x _ HW'.out Hl.out pp (by omega) (by omega)).mono ?_; rw [Hok.out]; rintro e w2 ⟨rfl, hb2⟩)
        go_ret
        refine ⟨j, rfl, ?_, B0.out.trans (hb2.mono B0.out.size)⟩
        have : xs.any (emptyB l) = true := List.any_eq_true.2 ⟨x, List.mem_of_getElem? Hx.out, Hok.out⟩
        rw [this]; simp
    · have hj1 : ¬ (j : Int) < (xs.length : Int) := by omega
      clear bb
      go_wp2_with fail
      go_ret
      refine ⟨-1, rfl, ?_, B0.out⟩
      have := Hb.out
      rw [List.take_of_length_le (by omega)] at this
      rw [this]; rfl
theorem containsI {l : List Cd} {xs : List Int} {A B : Option Addr} {c d p n : Nat} {S T : Nat → Prop} (w : World) (hw : WidOk w) (h : Sl cdE S w A c l) (hp : w.cell? ⟨p, 0, none⟩ = some (.slice A l.length c)) (k : Sl .i64 T w B d xs) (hx : ∀ x ∈ xs, 0 ≤ x ∧ x ≤ 3) (hn : xs.length = n) :
    Calls Tryd.prog 61 #[.slice B n d, .func (.func 62) #[] #[.pointer (some ⟨p, 0, none⟩)]] w fun e w' => e = .returned (.bool (xs.any (emptyB l))) ∧ Below w.heap.size w w' := by
  subst hn
  have H := Lib.hid h
  have HW := Lib.hid hw
  have K := Lib.hid k
  have HX := Lib.hid hx
  have HP := Lib.hid hp
  clear h hw k hx hp
  go_enter Tryd.func61, Tryd.ntmps61
  go_wp2_with (go_at_call 65; refine (indexI _ HW.out H.out HP.out K.out HX.out).mono ?_; rintro e w2 ⟨z, rfl, hz, hb2⟩)
  go_ret
  exact ⟨rfl, hb2⟩
theorem satP {l : List Cd} {A : Option Addr} {c : Nat} {S : Nat → Prop} (w : World) (hw : WidOk w) (h : Sl cdE S w A c l) :
    Calls Tryd.prog 57 #[.slice A l.length c] w fun e w' => e = .returned (.bool (satB l)) ∧ Below w.heap.size w w' := by
  have H := Lib.hid h
  have HW := Lib.hid hw
  clear h hw
  have hB : Below w.heap.size w ((w.alloc (.cells #[.slice A l.length c] 44)).alloc (.cells #[.int .i64 0, .int .i64 1, .int .i64 2, .int .i64 3] 3)) := (by repeat' (first | with_reducible exact Below.refl _ _ | with_reducible assumption | with_reducible refine Below.setCell ?_ ?_ _ | with_reducible refine Below.drew ?_ | with_reducible refine below_drewN ?_ _ | with_reducible refine Below.alloc ?_ ?_ _ | (rintro _ ⟨⟩; simp <;> omega) | omega | (simp <;> omega)))
  have hp : (((w.alloc (.cells #[.slice A l.length c] 44)).alloc (.cells #[.int .i64 0, .int .i64 1, .int .i64 2, .int .i64 3] 3))).cell? ⟨w.heap.size, 0, none⟩ = some (.slice A l.length c) := cell_of_row _ _ 0 _ _ _ ((Below.heap_alloc _ _ _ (by simp)).trans (heap_alloc_at rfl))
  have HP := Lib.hid hp
  have HB := Lib.hid hB
  have hk : Sl .i64 (fun _ => True) ((w.alloc (.cells #[.slice A l.length c] 44)).alloc (.cells #[.int .i64 0, .int .i64 1, .int .i64 2, .int .i64 3] 3)) (some ⟨w.heap.size + 1, 0, none⟩) 4 [0, 1, 2, 3] :=
    Sl.litAt (S := fun _ => True) (cs := [.int .i64 0, .int .i64 1, .int .i64 2, .int .i64 3]) (xs := [0, 1, 2, 3]) (by simp) ⟨[_], _, rfl, rfl, [_], _, rfl, rfl, [_], _, rfl, rfl, [_], _, rfl, rfl, rfl⟩ (by unfold maxLen; simp) (fun _ _ _ => trivial) trivial
  have HK := Lib.hid hk
  clear hp hB hk
  go_enter Tryd.func57, Tryd.ntmps57
  go_wp2_with (go_at_call 61; refine (containsI (l := l) (xs := [0, 1, 2, 3]) _ (HW.out.keep HB.out) (H.out.keep (Below.agree HB.out)) HP.out HK.out (by simp) rfl).mono ?_; rintro e w2 ⟨rfl, hb2⟩)
  go_ret
  exact ⟨ret_b (by rw [satB_any]; simp), HB.out.trans (hb2.mono HB.out.size)⟩
end Go.Proofs.YtihcaoipemcddaaDoor
