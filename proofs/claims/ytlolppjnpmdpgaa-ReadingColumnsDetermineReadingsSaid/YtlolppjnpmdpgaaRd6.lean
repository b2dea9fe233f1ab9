/-
  Contracts of the readings (XRd6): the reference's Live, ValidStream, Same, SameColumns.
-/
import Derived.Test.YtlolppjnpmdpgaaRd5
namespace Go.Proofs.Ytlolppjnpmdpgaa
open Go.RowKit

def liveT (s : Str) (j : Nat) : List Rd := (((s.l.zip s.g).take j).filter fun p => !p.2).map (·.1)
theorem liveT_all (s : Str) (h : s.g.length = s.l.length) : liveT s s.l.length = liveF s := by
  unfold liveT liveF
  rw [List.take_of_length_le (by simp [h])]
theorem liveT_snoc {s : Str} {j : Nat} {r : Rd} {b : Bool} (hl : s.l[j]? = some r) (hg : s.g[j]? = some b) : liveT s (j + 1) = liveT s j ++ (if b then [] else [r]) := by
  unfold liveT
  have h : (s.l.zip s.g)[j]? = some (r, b) := by
    rw [List.getElem?_zip_eq_some]; exact ⟨hl, hg⟩
  rw [take_snocR h]
  cases b <;> simp
theorem liveT_len (s : Str) (j : Nat) : (liveT s j).length ≤ j := by
  unfold liveT
  rw [List.length_map]
  exact Nat.le_trans (List.length_filter_le _ _) (List.length_take_le _ _)
theorem liveF_len (s : Str) : (liveF s).length ≤ s.l.length := by
  unfold liveF
  rw [List.length_map]
  refine Nat.le_trans (List.length_filter_le _ _) ?_
  rw [List.length_zip]; exact Nat.min_le_left _ _

/-- Readings in a slice that the call made. -/
def RdsRes (S : Nat → Prop) (w : World) (l : List Rd) (e : Ending) (w' : World) : Prop :=
  ∃ A c, e = .returned (.slice A l.length c) ∧ Sl rdE (Fresh S w) w' A c l ∧ Below w.heap.size w w'

/-- A row of the call's own, of what holds no addresses; nothing that lay below B has turned. -/
structure Coll {α : Type} (E : Enc α) (e : TypeId) (w0 : World) (B : Nat) (xs : List α) (v : Value) (wr : World) : Prop where
  own : Own E (fun _ => False) wr B e v xs
  bel : Below w0.heap.size w0 wr
  base : w0.heap.size ≤ B
  size : B ≤ wr.heap.size
theorem Coll.app {α : Type} {E : Enc α} (hE : E.Flat) {e e2 : TypeId} {w0 wr w6 : World} {B : Nat} {xs ys : List α} {v v' : Value} {S : Nat → Prop} {cells : Array Value} (h : Coll E e w0 B xs v wr)
    (ho : Own E S w6 B e v' (xs ++ ys)) (hg : (wr.alloc (.cells cells e2)).grownBy w6 v.ownBlock) : Coll E e w0 B (xs ++ ys) v' w6 := by
  have hz := hg.size
  have h1 := h.size
  have h2 := h.base
  simp at hz
  exact ⟨ho.flat hE, (h.bel.alloc (by omega) _).grown hg (by simp; omega) (fun k hk => by have := (h.own.lt k hk).1; omega), h.base, by omega⟩

set_option maxHeartbeats 1000000 in
theorem liveR {s : Str} {A B : Option Addr} {c d : Nat} {S : Nat → Prop} (w : World) (h : Sl rdE S w A c s.l) (k : Sl .bool S w B d s.g) (hg : s.g.length = s.l.length) (hl : s.l.length ≤ 1000) :
    Calls Try.prog 33 #[.agg #[.slice A s.l.length c, .slice B s.g.length d]] w (RdsRes S w (liveF s)) := by
  have H := Lib.hid h
  have K := Lib.hid k
  have Hg := Lib.hid hg
  clear h k hg
  go_enter Try.func33, Try.ntmps33
  go_wp2_with fail
  go_loopw [3, 4] (fun v i wr => ∃ j : Nat, j ≤ s.l.length ∧ i = .int .i64 j ∧ Coll rdE 24 (w.alloc (.cells #[.slice A s.l.length c, .slice B s.g.length d] 30)) (w.heap.size + 1) (liveT s j) v wr) (fun _ i _ => s.l.length - (intOf i).toNat)
  case atStart => exact ⟨0, Nat.zero_le _, rfl, ⟨Own.litAt _ _ _ _ (by simp) (Nat.le_refl _), (by repeat' (first | with_reducible exact Below.refl _ _ | with_reducible assumption | with_reducible refine Below.setCell ?_ ?_ _ | with_reducible refine Below.drew ?_ | with_reducible refine below_drewN ?_ _ | with_reducible refine Below.alloc ?_ ?_ _ | (rintro _ ⟨⟩; simp <;> omega) | omega | (simp <;> omega))), by simp, by simp⟩⟩
  case round =>
    obtain ⟨j, hj, rfl, hC⟩ := hrel
    have hcb := fun o => hC.bel.cell (p := ⟨w.heap.size, o, none⟩) (by simp)
    have hsz := hC.size
    have hll := liveT_len s j
    have lo := hC.own.lt
    obtain ⟨A1, c1, rfl, -⟩ := hC.own.form
    have HC := Lib.hid hC
    clear hC
    by_cases hlt : j < s.l.length
    · obtain ⟨r, hr⟩ : ∃ r, s.l[j]? = some r := ⟨_, List.getElem?_eq_getElem hlt⟩
      obtain ⟨b, hb⟩ : ∃ b, s.g[j]? = some b := ⟨_, List.getElem?_eq_getElem (by rw [Hg.out]; exact hlt)⟩
      have hS := Lib.hid (liveT_snoc hr hb)
      have b1 : Below w.heap.size w wr := ((Below.refl _ _).alloc (Nat.le_refl _) _).trans (HC.out.bel.mono (by simp))
      obtain ⟨b2, o2, rfl, -, hb2, x0, x1, x2, x3⟩ := rd_at (H.out.keep (Below.agree b1)) hr
      obtain ⟨b3, o3, rfl, -, hb3, y0⟩ := bool_at (K.out.keep (Below.agree b1)) hb
      have hj0 : (0 : Int) ≤ (j : Int) := by omega
      have hj1 : (j : Int) < (s.l.length : Int) := by omega
      have hj2 : (j : Int) < (s.g.length : Int) := by have := Hg.out; omega
      have B1 := Lib.hid b1
      clear hr hb b1
      cases b with
      | true =>
        go_wp2_with fail
        go_roundw
        case rel => exact ⟨j + 1, by omega, by go_num, by rw [hS.out]; simpa using HC.out⟩
        case measure => simp [intOf]; omega
      | false =>
        go_wp2_with (at_builtin; go_must ((refine wpList_append_E (S := fun b => b = wr.heap.size) rfl (.tmp 19) (.tmp 25) rfl rdsT (base := w.heap.size + 1) (v := .slice A1 (liveT s j).length c1) (xs := liveT s j) (ys := [r]) (by rfl) (by rfl) rfl (nz := (liveT s j).length + 1) (by simp) ((HC.out.own.flat rdE_flat).alloc _) (Sl.litAt (S := fun b => b = wr.heap.size) rfl (.single rdE_shut) (by unfold maxLen; simp) (fun _ h _ => h) rfl) (by unfold maxLen; simp; omega) (by simp; omega) (by simp; omega) (fun g hg (hs : g = wr.heap.size) => absurd (lo g hg).2 (by omega)) ?_; intro A5 c5 w5 hown5 hg5 hor5)))
        go_roundw
        case rel => exact ⟨j + 1, by omega, by go_num, by rw [hS.out]; exact HC.out.app rdE_flat hown5 hg5⟩
        case measure => simp [intOf]; omega
    · have hjl : j = s.l.length := by omega
      subst hjl
      have hj1 : ¬ (s.l.length : Int) < (s.l.length : Int) := by omega
      go_wp2_with fail
      go_ret
      have e := liveT_all s Hg.out
      refine ⟨A1, c1, (show Ending.returned (.slice A1 (liveT s s.l.length).length c1) = _ by rw [e]), ?_, ((Below.refl _ _).alloc (Nat.le_refl _) _).trans (HC.out.bel.mono (by simp))⟩
      rw [← e]
      exact HC.out.own.flatSl rdE_flat fun b hb => .inr (by omega)

theorem liveP_stub : True := trivial
set_option maxHeartbeats 1000000 in
theorem validStreamR {s : Str} {A B : Option Addr} {c d : Nat} {S : Nat → Prop} (w : World) (h : Sl rdE S w A c s.l) (ok : OkStr s) (hl : s.l.length ≤ 1000) :
    Calls Try.prog 32 #[.agg #[.slice A s.l.length c, .slice B s.g.length d]] w fun e w' => e = .returned (.bool true) ∧ Below w.heap.size w w' := by
  have H := Lib.hid h
  have Hg := Lib.hid ok.len
  have hv := Lib.hid ok.valid
  clear h ok
  go_enter Try.func32, Try.ntmps32
  go_wp2_with fail
  go_loopw [3] (fun i wr => ∃ j : Nat, j ≤ s.l.length ∧ i = .int .i64 j ∧ Below (w.heap.size + 1) (w.alloc (.cells #[.slice A s.l.length c, .slice B s.g.length d] 30)) wr) (fun i _ => s.l.length - (intOf i).toNat)
  case atStart => exact ⟨0, Nat.zero_le _, rfl, Below.refl _ _⟩
  case round =>
    obtain ⟨j, hj, rfl, hb⟩ := hrel
    have hcb := fun o => hb.cell (p := ⟨w.heap.size, o, none⟩) (by simp)
    have hsz := hb.size
    simp at hsz
    have hlw : w.heap.size < wr.heap.size := by omega
    have b1 : Below w.heap.size w wr := ((Below.refl _ _).alloc (Nat.le_refl _) _).trans (hb.mono (by simp))
    have B1 := Lib.hid b1
    have Hb := Lib.hid hb
    clear b1 hb
    by_cases hlt : j < s.l.length
    · obtain ⟨r, hr⟩ : ∃ r, s.l[j]? = some r := ⟨_, List.getElem?_eq_getElem hlt⟩
      have hvr : validB r = true := by simpa [validB] using hv.out r (List.mem_of_getElem? hr)
      obtain ⟨b2, o2, rfl, -, hb2, x0, x1, x2, x3⟩ := rd_at (H.out.keep (Below.agree B1.out)) hr
      have hj0 : (0 : Int) ≤ (j : Int) := by omega
      have hj1 : (j : Int) < (s.l.length : Int) := by omega
      clear hr
      go_wp2_with (go_at_call 18; refine (validR_any r _).mono ?_; rintro e w2 ⟨rfl, hb3⟩)
      go_roundw
      case rel => exact ⟨j + 1, by omega, by go_num, Hb.out.trans (hb3.mono (by omega))⟩
      case measure => simp [intOf]; omega
    · have hj1 : ¬ (j : Int) < (s.l.length : Int) := by omega
      have hm : ((s.l.length : Int) ≤ 65536) = True := by simp; omega
      have hq : ((s.g.length : Int) == (s.l.length : Int)) = true := by simp [Hg.out]
      go_wp2_with fail
      go_ret
      exact ⟨rfl, B1.out⟩
end Go.Proofs.Ytlolppjnpmdpgaa
