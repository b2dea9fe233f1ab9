/-
  Contracts of the network chapter (XNet5).
-/
import Derived.Test.YtmaaniogcmlfbaaNet1
import Derived.Deep.LoopGhost
namespace Go.Proofs.Ytmaaniogcmlfbaa
open Go.RowKit

theorem convB {S : Nat → Prop} {A : Option Addr} {c : Nat} {l : List UInt8} {w : World} (h : Sl .u8 S w A c l) (W : World) (k : Agree S w W) :
    (convert 30 9 (.slice A l.length c)).run Try.prog W = .ok (.string ⟨l.toArray⟩) W :=
  conv_bytes Try.underlying30 Try.underlying5 Try.underlying9 (h.keep k)

set_option maxRecDepth 100000 in
set_option maxHeartbeats 400000 in
theorem samePacket_eq {S T : Nat → Prop} {A B : Option Addr} {c d : Nat} {p : Pk} (w : World) (h : Sl .u8 S w A c p.b) (k : Sl .u8 T w B d p.b) :
    Calls Try.prog 22 #[.agg #[.int .i64 p.fr, .int .i64 p.to_, .int .i64 p.at_, .slice A p.b.length c], .agg #[.int .i64 p.fr, .int .i64 p.to_, .int .i64 p.at_, .slice B p.b.length d]] w fun e w' =>
      e = .returned (.bool true) ∧ Below w.heap.size w w' := by
  have e1 := convB h ((w.alloc (.cells #[.int .i64 p.fr, .int .i64 p.to_, .int .i64 p.at_, .slice A p.b.length c] 32)).alloc (.cells #[.int .i64 p.fr, .int .i64 p.to_, .int .i64 p.at_, .slice B p.b.length d] 32)) (((Agree.refl _ _).alloc _).alloc _)
  have e2 := convB k ((w.alloc (.cells #[.int .i64 p.fr, .int .i64 p.to_, .int .i64 p.at_, .slice A p.b.length c] 32)).alloc (.cells #[.int .i64 p.fr, .int .i64 p.to_, .int .i64 p.at_, .slice B p.b.length d] 32)) (((Agree.refl _ _).alloc _).alloc _)
  clear h k
  go_enter Try.func22, Try.ntmps22
  go_wp2_with fail
  go_ret
  exact ⟨rfl, (by repeat' (first | with_reducible exact Below.refl _ _ | with_reducible assumption | with_reducible refine Below.setCell ?_ ?_ _ | with_reducible refine Below.drew ?_ | with_reducible refine below_drewN ?_ _ | with_reducible refine Below.alloc ?_ ?_ _ | (rintro _ ⟨⟩; simp <;> omega) | omega | (simp <;> omega)))⟩

set_option maxRecDepth 100000 in
set_option maxHeartbeats 400000 in
theorem samePackets_eq {S T : Nat → Prop} {A B : Option Addr} {c d : Nat} {ps : List Pk} (w : World) (h : Sl pkE S w A c ps) (k : Sl pkE T w B d ps) :
    Calls Try.prog 18 #[.slice A ps.length c, .slice B ps.length d] w fun e w' => e = .returned (.bool true) ∧ Below w.heap.size w w' := by
  have hm := h.max
  go_enter Try.func18, Try.ntmps18
  go_wp2_with fail
  go_loopw [5] (fun i wr => ∃ k : Nat, k ≤ ps.length ∧ i = .int .i64 k ∧ Below w.heap.size w wr) (fun i _ => ps.length - (intOf i).toNat)
  case atStart => exact ⟨0, Nat.zero_le _, rfl, Below.refl _ _⟩
  case round =>
    obtain ⟨j, hj, rfl, hb⟩ := hrel
    by_cases hlt : j < ps.length
    · obtain ⟨b1, o1, B1, d1, rfl, _, hb1, x0, x1, x2, x3, hs1⟩ := pk_at h (List.getElem?_eq_getElem hlt)
      obtain ⟨b2, o2, B2, d2, rfl, _, hb2, y0, y1, y2, y3, hs2⟩ := pk_at k (List.getElem?_eq_getElem hlt)
      have r := fun W (hW : Below w.heap.size w W) => (bcell hW).1
      have hj0 : (0 : Int) ≤ (j : Int) := by omega
      have hj1 : (j : Int) < (ps.length : Int) := by omega
      go_wp2_with fail
      go_region_held3 (fun W => Below w.heap.size w W) (first | exact Below.trans (by assumption) (Below.mono hb4 (Below.size (by assumption))) | (with_reducible refine Below.drew ?_; assumption) | assumption)
        (first
          | (go_at_call 22; refine (samePacket_eq _ (hs1.keep (Below.agree (by assumption))) (hs2.keep (Below.agree (by assumption)))).mono ?_; rintro e w4 ⟨rfl, hb4⟩))
      have hb5 : Below w.heap.size w w4 := by assumption
      go_wp2_with fail
      go_roundw
      case rel => exact ⟨j + 1, by omega, by go_num, hb5⟩
      case measure => simp [intOf]; omega
    · go_wp2_with fail
      go_ret
      exact ⟨rfl, hb⟩

set_option maxRecDepth 100000 in
set_option maxHeartbeats 400000 in
theorem same_eq {S T : Nat → Prop} {A B : Option Addr} {c d : Nat} {n : Nt} (w : World) (h : Sl pkE S w A c n.way) (k : Sl pkE T w B d n.way) :
    Calls Try.prog 19 #[.agg #[.int .i64 n.now, .slice A n.way.length c], .agg #[.int .i64 n.now, .slice B n.way.length d]] w fun e w' => e = .returned (.bool true) ∧ Below w.heap.size w w' := by
  go_enter Try.func19, Try.ntmps19
  go_wp2_with (go_at_call 18; refine (samePackets_eq _ (h.keep (((Agree.refl _ _).alloc _).alloc _)) (k.keep (((Agree.refl _ _).alloc _).alloc _))).mono ?_; rintro e w4 ⟨rfl, hb4⟩)
  go_ret
  exact ⟨rfl, (by repeat' (first | with_reducible exact Below.refl _ _ | with_reducible assumption | with_reducible refine Below.trans ?_ (Below.mono hb4 ?_) | with_reducible refine Below.setCell ?_ ?_ _ | with_reducible refine Below.drew ?_ | with_reducible refine below_drewN ?_ _ | with_reducible refine Below.alloc ?_ ?_ _ | (rintro _ ⟨⟩; simp <;> omega) | omega | (simp <;> omega)))⟩

theorem newN (w : World) : Calls Try.prog 10 #[] w fun e w' => e = .returned (.agg #[.int .i64 0, .slice none 0 0]) ∧ Below w.heap.size w w' := by
  go_enter Try.func10, Try.ntmps10
  go_wp2_with fail
  exact bodyPost_ret (v := .agg #[.int .i64 0, .slice none 0 0]) (by simp [results, Try.results10, go_sem]) rfl ⟨rfl, (by repeat' (first | with_reducible exact Below.refl _ _ | with_reducible assumption | with_reducible refine Below.setCell ?_ ?_ _ | with_reducible refine Below.drew ?_ | with_reducible refine below_drewN ?_ _ | with_reducible refine Below.alloc ?_ ?_ _ | (rintro _ ⟨⟩; simp <;> omega) | omega | (simp <;> omega)))⟩
theorem newR (w : World) : Calls Try.prog 15 #[] w fun e w' => e = .returned (.agg #[.int .i64 0, .slice none 0 0]) ∧ Below w.heap.size w w' := by
  go_enter Try.func15, Try.ntmps15
  go_wp2_with fail
  exact bodyPost_ret (v := .agg #[.int .i64 0, .slice none 0 0]) (by simp [results, Try.results15, go_sem]) rfl ⟨rfl, (by repeat' (first | with_reducible exact Below.refl _ _ | with_reducible assumption | with_reducible refine Below.setCell ?_ ?_ _ | with_reducible refine Below.drew ?_ | with_reducible refine below_drewN ?_ _ | with_reducible refine Below.alloc ?_ ?_ _ | (rintro _ ⟨⟩; simp <;> omega) | omega | (simp <;> omega)))⟩


set_option maxRecDepth 100000 in
set_option maxHeartbeats 400000 in
theorem made_any {S : Nat → Prop} {A : Option Addr} {c : Nat} {p : Pk} (x y z : Int) (sd : Bool) (w : World) (h : Sl .u8 S w A c p.b) :
    Calls Try.prog 12 #[.agg #[.int .i64 x, .int .i64 y, .int .i64 z, .int .i64 p.fr, .int .i64 p.to_, .int .i64 p.at_, .slice A p.b.length c, .bool sd]] w fun e w' =>
      ∃ c', e = .returned (.agg #[.int .i64 (madeF p).fr, .int .i64 (madeF p).to_, .int .i64 (madeF p).at_, .slice A (madeF p).b.length c']) ∧ Sl .u8 S w' A c' (madeF p).b ∧ Below w.heap.size w w' := by
  have h1 := h.le
  have h2 := h.capMax
  by_cases hl : p.b.length ≤ 40
  · go_enter Try.func12, Try.ntmps12
    go_wp2_with fail
    refine bodyPost_ret (v := .agg #[.int .i64 p.fr, .int .i64 p.to_, .int .i64 (p.at_.tmod 1000), .slice A p.b.length c]) (by simp [results, Try.results12, go_sem]) rfl ⟨c, by simp only [madeF, List.take_of_length_le hl], ?_, (by repeat' (first | with_reducible exact Below.refl _ _ | with_reducible assumption | with_reducible refine Below.setCell ?_ ?_ _ | with_reducible refine Below.drew ?_ | with_reducible refine below_drewN ?_ _ | with_reducible refine Below.alloc ?_ ?_ _ | (rintro _ ⟨⟩; simp <;> omega) | omega | (simp <;> omega)))⟩
    simp only [madeF, List.take_of_length_le hl]
    exact h.keep (Below.agree (by repeat' (first | with_reducible exact Below.refl _ _ | with_reducible assumption | with_reducible refine Below.setCell ?_ ?_ _ | with_reducible refine Below.drew ?_ | with_reducible refine below_drewN ?_ _ | with_reducible refine Below.alloc ?_ ?_ _ | (rintro _ ⟨⟩; simp <;> omega) | omega | (simp <;> omega))))
  · have h40 := h.take 40
    go_enter Try.func12, Try.ntmps12
    go_wp2_with fail
    refine bodyPost_ret (v := .agg #[.int .i64 p.fr, .int .i64 p.to_, .int .i64 (p.at_.tmod 1000), .slice A 40 c]) (by simp [results, Try.results12, go_sem]) rfl ⟨c, by simp only [madeF, List.length_take_of_le (show 40 ≤ p.b.length by omega)], ?_, (by repeat' (first | with_reducible exact Below.refl _ _ | with_reducible assumption | with_reducible refine Below.setCell ?_ ?_ _ | with_reducible refine Below.drew ?_ | with_reducible refine below_drewN ?_ _ | with_reducible refine Below.alloc ?_ ?_ _ | (rintro _ ⟨⟩; simp <;> omega) | omega | (simp <;> omega)))⟩
    exact h40.keep (Below.agree (by repeat' (first | with_reducible exact Below.refl _ _ | with_reducible assumption | with_reducible refine Below.setCell ?_ ?_ _ | with_reducible refine Below.drew ?_ | with_reducible refine below_drewN ?_ _ | with_reducible refine Below.alloc ?_ ?_ _ | (rintro _ ⟨⟩; simp <;> omega) | omega | (simp <;> omega))))
end Go.Proofs.Ytmaaniogcmlfbaa
