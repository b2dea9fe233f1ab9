/-
  Texts of this claim, merged: Rd4, Rd5, Rd6, Live1. Conditions: as each theorem says.
-/
import Derived.RangeFuncNested
import Derived.RangeFuncBound
import Derived.RangeFuncCalls
import Derived.RangeFuncLeaves
import Derived.RangeFuncBox
import Derived.Shelf.Abstract
import Derived.Shelf.RegionOpen
import Derived.WalkKit
import Derived.OwnWalkIn
import Derived.TacticsInMore
import Derived.LoopNIn
import Derived.LoopIn
import Derived.Sort.EveryDepth
import Derived.Test.YtpdblgchfkcgpaaV1
import Derived.Test.YtpdblgchfkcgpaaV2
set_option linter.unusedSimpArgs false
set_option linter.unusedVariables false
namespace Go.Proofs.Ytpdblgchfkcgpaa
open Go.RowKit

/-- A stream and the number of an error. -/
def StRes (S : Nat → Prop) (w : World) (p : Str × Int) (e : Ending) (w' : World) : Prop :=
  ∃ A c B d, e = .returned (.tuple #[.agg #[.slice A p.1.l.length c, .slice B p.1.g.length d], .int .i64 p.2]) ∧ Sl rdE (Fresh S w) w' A c p.1.l ∧ Sl .bool (Fresh S w) w' B d p.1.g ∧ Below w.heap.size w w'
theorem StRes.none {S : Nat → Prop} {w w' : World} {k : Int} {e : Ending} (he : e = .returned (.tuple #[.agg #[.slice none 0 0, .slice none 0 0], .int .i64 k])) (hb : Below w.heap.size w w') : StRes S w (emptyStr, k) e w' :=
  ⟨_, 0, _, 0, he, Sl.nil_ _ _ _ _ (Nat.zero_le _), Sl.nil_ _ _ _ _ (Nat.zero_le _), hb⟩
theorem KB.two {N g : Nat} {gs : List (Nat × Nat)} {W0 w W : World} {u v : Value} (h : KB N gs W0 w ((W.setCell ⟨g, 0, none⟩ u).setCell ⟨g, 1, none⟩ v)) (hg : (g, 2) ∈ gs) :
    ((W.setCell ⟨g, 0, none⟩ u).setCell ⟨g, 1, none⟩ v).cell? ⟨g, 0, none⟩ = some u ∧ ((W.setCell ⟨g, 0, none⟩ u).setCell ⟨g, 1, none⟩ v).cell? ⟨g, 1, none⟩ = some v := by
  obtain ⟨cs, t, h1, h2⟩ := h.keep.box _ hg
  cases hW : W.heap[g]? with
  | none => simp [World.setCell, Array.getElem?_modify, hW] at h1
  | some o =>
    cases o with
    | cells ds e f =>
      simp [World.setCell, Array.getElem?_modify, hW] at h1
      obtain ⟨h1, rfl, rfl⟩ := h1
      have hh := heap_set (i := 1) (u := v) (heap_set (i := 0) (u := u) hW)
      have hl : ds.size = 2 := by rw [← h1] at h2; simpa using h2
      refine ⟨(cell_of_row _ _ 0 _ _ _ hh).trans ?_, (cell_of_row _ _ 1 _ _ _ hh).trans ?_⟩ <;> simp [Array.getElem?_setIfInBounds, hl]
    | _ => simp [World.setCell, Array.getElem?_modify, hW] at h1
theorem gcellB {W w6 : World} {row : Option Nat} {B N : Nat} (hg : W.grownBy w6 row) (lo : ∀ k, row = some k → B ≤ k ∧ k < N) (hB : B ≤ W.heap.size) :
    (∀ b o, b < B → w6.cell? ⟨b, o, none⟩ = W.cell? ⟨b, o, none⟩) ∧ (∀ b o, b < B → w6.frozen? ⟨b, o, none⟩ = W.frozen? ⟨b, o, none⟩) :=
  ⟨fun b o h => World.cell?_of_block (a := ⟨b, o, none⟩) (hg.block b (by omega) (fun e => by have := (lo b e.symm).1; omega)), fun b o h => World.frozen?_of_block (a := ⟨b, o, none⟩) (hg.block b (by omega) (fun e => by have := (lo b e.symm).1; omega))⟩

theorem Own.grownNe {α : Type} {E : Enc α} {w w' : World} {base : Nat} {e : TypeId} {v : Value} {xs : List α} {row : Option Nat} (h : Own E (fun _ => False) w base e v xs) (hg : w.grownBy w' row) (hne : ∀ k, v.ownBlock = some k → row ≠ some k) : Own E (fun _ => False) w' base e v xs := by
  refine h.grown hg ?_ (fun _ _ h => h)
  cases hv : v.ownBlock with
  | none => exact .inl rfl
  | some k => exact .inr (fun e => hne k hv e.symm)

theorem takeR_bad {s : Str} {A B : Option Addr} {c d : Nat} {S : Nat → Prop} (r : Rd) (w : World) (hv : validB r = false) :
    Calls Try.prog 23 #[.agg #[.slice A s.l.length c, .slice B s.g.length d], .agg #[.int .i64 r.who, .int .i64 r.whn, .int .i64 r.knd, .int .i64 r.val]] w (StRes S w (takeF s r)) := by
  have ht : takeF s r = (emptyStr, 1) := by unfold takeF; rw [if_neg (by simp [hv])]
  rw [ht]
  go_enter Try.func23, Try.ntmps23
  go_wp2_with (go_at_call 46; refine (validR_any r _).mono ?_; rintro e w1 ⟨rfl, hb1⟩; have bz_hb1 := hb1.size; simp [World.setCell] at bz_hb1; have bl0_hb1 : w.heap.size < w1.heap.size := (by omega); have bk0_hb1 : w.heap.size < w.heap.size + 1 + 1 + 1 := (by omega); have bl1_hb1 : w.heap.size + 1 < w1.heap.size := (by omega); have bk1_hb1 : w.heap.size + 1 < w.heap.size + 1 + 1 + 1 := (by omega); have bl2_hb1 : w.heap.size + 1 + 1 < w1.heap.size := (by omega); have bk2_hb1 : w.heap.size + 1 + 1 < w.heap.size + 1 + 1 + 1 := (by omega); obtain ⟨hc_hb1, hf_hb1⟩ := bcellk (k := w.heap.size + 1 + 1 + 1) hb1 (by simp [World.setCell]))
  exact bodyPost_ret (v := .tuple #[.agg #[.slice none 0 0, .slice none 0 0], .int .i64 1]) (by simp [results, Try.results23, go_sem, *]) rfl (StRes.none rfl (by repeat' (first | with_reducible exact Below.refl _ _ | with_reducible assumption | with_reducible refine Below.trans ?_ (Below.mono hb1 ?_) | with_reducible refine Below.setCell ?_ ?_ _ | with_reducible refine Below.drew ?_ | with_reducible refine below_drewN ?_ _ | with_reducible refine Below.alloc ?_ ?_ _ | (rintro _ ⟨⟩; simp <;> omega) | omega | (simp <;> omega))))
theorem takeP_bad {s : Str} {A B : Option Addr} {c d : Nat} {S : Nat → Prop} (r : Rd) (w : World) (hv : validB r = false) :
    Calls Try.prog 16 #[.agg #[.slice A s.l.length c, .slice B s.g.length d], .agg #[.int .i64 r.who, .int .i64 r.whn, .int .i64 r.knd, .int .i64 r.val]] w (StRes S w (takeF s r)) := by
  have ht : takeF s r = (emptyStr, 1) := by unfold takeF; rw [if_neg (by simp [hv])]
  rw [ht]
  go_enter Try.func16, Try.ntmps16
  go_wp2_with (go_at_call 21; refine (validP_any r _).mono ?_; rintro e w1 ⟨rfl, hb1⟩; have bz_hb1 := hb1.size; simp [World.setCell] at bz_hb1; have bl0_hb1 : w.heap.size < w1.heap.size := (by omega); have bk0_hb1 : w.heap.size < w.heap.size + 1 + 1 + 1 := (by omega); have bl1_hb1 : w.heap.size + 1 < w1.heap.size := (by omega); have bk1_hb1 : w.heap.size + 1 < w.heap.size + 1 + 1 + 1 := (by omega); have bl2_hb1 : w.heap.size + 1 + 1 < w1.heap.size := (by omega); have bk2_hb1 : w.heap.size + 1 + 1 < w.heap.size + 1 + 1 + 1 := (by omega); obtain ⟨hc_hb1, hf_hb1⟩ := bcellk (k := w.heap.size + 1 + 1 + 1) hb1 (by simp [World.setCell]))
  exact bodyPost_ret (v := .tuple #[.agg #[.slice none 0 0, .slice none 0 0], .int .i64 1]) (by simp [results, Try.results16, go_sem, *]) rfl (StRes.none rfl (by repeat' (first | with_reducible exact Below.refl _ _ | with_reducible assumption | with_reducible refine Below.trans ?_ (Below.mono hb1 ?_) | with_reducible refine Below.setCell ?_ ?_ _ | with_reducible refine Below.drew ?_ | with_reducible refine below_drewN ?_ _ | with_reducible refine Below.alloc ?_ ?_ _ | (rintro _ ⟨⟩; simp <;> omega) | omega | (simp <;> omega))))
set_option maxRecDepth 100000 in
set_option maxHeartbeats 1000000 in
theorem takeR_ok {s : Str} {A B : Option Addr} {c d : Nat} {S : Nat → Prop} (r : Rd) (w : World) (hv : validB r = true) (h : Sl rdE S w A c s.l) (k : Sl .bool S w B d s.g) (hl : s.l.length ≤ 1000) (hg : s.g.length ≤ 1000) :
    Calls Try.prog 23 #[.agg #[.slice A s.l.length c, .slice B s.g.length d], .agg #[.int .i64 r.who, .int .i64 r.whn, .int .i64 r.knd, .int .i64 r.val]] w (StRes S w (takeF s r)) := by
  have ht : takeF s r = (⟨s.l ++ [r], s.g ++ [false]⟩, 0) := by unfold takeF; rw [if_pos hv, if_neg (by omega)]
  rw [ht]
  have H := Lib.hid (h.old.sub (T := fun b => b < w.heap.size) fun b hb _ => hb.2)
  have K := Lib.hid (k.old.sub (T := fun b => b < w.heap.size) fun b hb _ => hb.2)
  have hl1 : ((65536 : Int) ≤ (s.l.length : Int)) = False := by simp; omega
  clear h k ht
  go_enter Try.func23, Try.ntmps23
  go_wp2_with (first
    | (go_at_call 46; refine (validR_any r _).mono ?_; rintro e w1 ⟨rfl, hb1⟩; have H1 := Lib.hid ((H.out.keep (((Agree.refl _ _).alloc _).alloc _ |>.alloc _)).keep (Below.agree hb1)); have K1 := Lib.hid ((K.out.keep (((Agree.refl _ _).alloc _).alloc _ |>.alloc _)).keep (Below.agree hb1)); have bz_hb1 := hb1.size; simp [World.setCell] at bz_hb1; have bl0_hb1 : w.heap.size < w1.heap.size := (by omega); have bk0_hb1 : w.heap.size < w.heap.size + 1 + 1 + 1 := (by omega); have bl1_hb1 : w.heap.size + 1 < w1.heap.size := (by omega); have bk1_hb1 : w.heap.size + 1 < w.heap.size + 1 + 1 + 1 := (by omega); have bl2_hb1 : w.heap.size + 1 + 1 < w1.heap.size := (by omega); have bk2_hb1 : w.heap.size + 1 + 1 < w.heap.size + 1 + 1 + 1 := (by omega); obtain ⟨hc_hb1, hf_hb1⟩ := bcellk (k := w.heap.size + 1 + 1 + 1) hb1 (by simp [World.setCell]))
    | (at_builtin; refine wpList_append_E (S := fun b => b < w.heap.size) rfl (.tmp 17) (.tmp 19) rfl rdsT (base := w1.heap.size) (v := .slice (some ⟨w1.heap.size, 0, none⟩) 0 0) (xs := []) (ys := s.l) (by rfl) (by rfl) rfl (nz := s.l.length) (by simp) (Own.lit0 _ _ _ _ (Nat.le_refl _)) (H1.out.keep ((Agree.refl _ _).alloc _)) (by unfold maxLen; simp; omega) (by simp; omega) (by simp) (by rintro g ⟨⟩ h; simp at h; omega) ?_; intro A2 c2 w2 hown2 hg2 hor2; have hz2 := hg2.size; simp at hz2; obtain ⟨hc2, hf2⟩ := gcell hg2 (by simp); have lt0_w2 : w.heap.size < w2.heap.size := (by omega); have lt1_w2 : w.heap.size + 1 < w2.heap.size := (by omega); have lt2_w2 : w.heap.size + 1 + 1 < w2.heap.size := (by omega))
    | (at_builtin; refine wpList_append_E (S := fun b => b < w.heap.size) rfl (.tmp 21) (.tmp 23) rfl boolsT (base := w2.heap.size) (v := .slice (some ⟨w2.heap.size, 0, none⟩) 0 0) (xs := []) (ys := s.g) (by rfl) (by rfl) rfl (nz := s.g.length) (by simp) (Own.lit0 _ _ _ _ (Nat.le_refl _)) (((K1.out.keep ((Agree.refl _ _).alloc _)).keep ((Agree.refl _ _).grown hg2 (by rintro g ⟨⟩ h; simp at h; omega))).keep ((Agree.refl _ _).alloc _)) (by unfold maxLen; simp; omega) (by simp; omega) (by simp) (by rintro g ⟨⟩ h; simp at h; omega) ?_; intro A3 c3 w3 hown3 hg3 hor3; have hz3 := hg3.size; simp at hz3; obtain ⟨hc3, hf3⟩ := gcell hg3 (by simp); have lt0_w3 : w.heap.size < w3.heap.size := (by omega); have lt1_w3 : w.heap.size + 1 < w3.heap.size := (by omega); have lt2_w3 : w.heap.size + 1 + 1 < w3.heap.size := (by omega); have HL3 : Hid (Own rdE (fun b => b < w.heap.size ∨ b = w3.heap.size) w3 w1.heap.size 47 (.slice A2 s.l.length c2) s.l) := Lib.hid ((((show Own rdE _ w2 w1.heap.size 47 (.slice A2 s.l.length c2) s.l from hown2).flat rdE_flat (T := fun _ => False)).grownNew hg3 (Nat.le_refl _) (fun h => h)).flat rdE_flat); have HG3 : Hid (Own .bool (fun b => b < w.heap.size) w3 w2.heap.size 4 (.slice A3 s.g.length c3) s.g) := Lib.hid hown3)
    | (at_builtin; refine wpList_append_E (S := fun b => b < w.heap.size ∨ b = w3.heap.size) rfl (.tmp 25) (.tmp 27) rfl rdsT (base := w1.heap.size) (v := .slice A2 s.l.length c2) (xs := s.l) (ys := [r]) (by rfl) (by rfl) rfl (nz := s.l.length + 1) (by simp) (HL3.out.alloc _) (Sl.litAt (S := fun b => b < w.heap.size ∨ b = w3.heap.size) rfl (.single rdE_shut) (by unfold maxLen; simp) (fun _ h _ => h) (.inr rfl)) (by unfold maxLen; simp; omega) (by simp; omega) (by simp; omega) (fun g hg hs => (by have := HL3.out.lt g hg; omega)) ?_; go_must ((intro A4 c4 w4 hown4 hg4 hor4; have hz4 := hg4.size; simp at hz4; have lo2 := HL3.out.lt; have lo3 := HG3.out.lt; obtain ⟨hc4, hf4⟩ := gcellB (B := w1.heap.size) hg4 (fun k hk => ⟨(lo2 k hk).1, (lo2 k hk).2⟩) (by simp; omega); have lt0_w4 : w.heap.size < w4.heap.size := (by omega); have lt1_w4 : w.heap.size + 1 < w4.heap.size := (by omega); have lt2_w4 : w.heap.size + 1 + 1 < w4.heap.size := (by omega); have HG4 : Hid (Own .bool (fun _ => False) w4 w2.heap.size 4 (.slice A3 s.g.length c3) s.g) := Lib.hid (((HG3.out.flat bool_flat).alloc _).grownNe hg4 (fun k hk e => (by have h1 := (show Own rdE _ w2 w1.heap.size 47 (.slice A2 s.l.length c2) s.l from hown2).lt k e; have h2 := lo3 k hk; omega))); have HL4 : Hid (Own rdE (fun _ => False) w4 w1.heap.size 47 (.slice A4 (s.l.length + 1) c4) (s.l ++ [r])) := Lib.hid (Own.flat rdE_flat hown4); have hor4' : ∀ k, (Value.slice A4 (s.l.length + 1) c4).ownBlock = some k → k < w2.heap.size ∨ w3.heap.size ≤ k := (fun k hk => (by rcases hor4 k hk with h | h; exact .inl ((show Own rdE _ w2 w1.heap.size 47 (.slice A2 s.l.length c2) s.l from hown2).lt k h).2; right; simp at h; omega)))))
    | (at_builtin; refine wpList_append_E (S := fun b => b = w4.heap.size) rfl (.tmp 29) (.tmp 30) rfl boolsT (base := w2.heap.size) (v := .slice A3 s.g.length c3) (xs := s.g) (ys := [false]) (by rfl) (by rfl) rfl (nz := s.g.length + 1) (by simp) ((HG4.out.flat bool_flat).alloc _) (Sl.litAt (S := fun b => b = w4.heap.size) rfl (.single rfl) (by unfold maxLen; simp) (fun _ h _ => h) rfl) (by unfold maxLen; simp; omega) (by simp; omega) (by simp; omega) (fun g hg hs => (by have := HG4.out.lt g hg; omega)) ?_; go_must ((intro A5 c5 w5 hown5 hg5 hor5; have hz5 := hg5.size; simp at hz5; obtain ⟨hc5, hf5⟩ := gcellB (B := w2.heap.size) hg5 (fun k hk => ⟨(lo3 k hk).1, (lo3 k hk).2⟩) (by simp; omega); have lt0_w5 : w.heap.size < w5.heap.size := (by omega); have lt1_w5 : w.heap.size + 1 < w5.heap.size := (by omega); have lt2_w5 : w.heap.size + 1 + 1 < w5.heap.size := (by omega); have HL5 : Hid (Own rdE (fun _ => False) w5 w1.heap.size 47 (.slice A4 (s.l.length + 1) c4) (s.l ++ [r])) := Lib.hid ((HL4.out.alloc _).grownNe hg5 (fun k hk e => (by have h1 := lo3 k e; have h2 := hor4' k hk; omega))); have HG5 : Hid (Own .bool (fun _ => False) w5 w2.heap.size 4 (.slice A5 (s.g.length + 1) c5) (s.g ++ [false])) := Lib.hid (Own.flat bool_flat hown5)))))
  refine bodyPost_ret (v := .tuple #[.agg #[.slice A4 (s.l.length + 1) c4, .slice A5 (s.g.length + 1) c5], .int .i64 0]) (by simp [results, Try.results23, go_sem, *]) rfl ⟨A4, c4, A5, c5, by simp, ?_, ?_, ?_⟩
  · exact ((HL5.out.set (fun e => by have := (HL5.out.lt _ e).1; simp at this; omega) (fun h => h) _).set (fun e => by have := (HL5.out.lt _ e).1; simp at this; omega) (fun h => h) _).flatSl rdE_flat (fun b hb => .inr (by omega))
  · exact ((HG5.out.set (fun e => by have := (HG5.out.lt _ e).1; simp at this; omega) (fun h => h) _).set (fun e => by have := (HG5.out.lt _ e).1; simp at this; omega) (fun h => h) _).flatSl bool_flat (fun b hb => .inr (by omega))
  · have b1 : Below w.heap.size w w1 := (((Below.refl _ _).alloc (Nat.le_refl _) _).alloc (by simp) _ |>.alloc (by simp; omega) _).trans (hb1.mono (by simp; omega))
    exact ((((((((b1.alloc b1.size _).grown hg2 (by simp; omega) (by rintro k ⟨⟩; exact b1.size)).alloc (by omega) _).grown hg3 (by simp; omega) (by rintro k ⟨⟩; show w.heap.size ≤ w2.heap.size; omega)).alloc (by omega) _).grown hg4 (by simp; omega) (fun k hk => by have := (lo2 k hk).1; omega)).alloc (by omega) _).grown hg5 (by simp; omega) (fun k hk => by have := (lo3 k hk).1; omega)).setCell (by simp; omega) _ |>.setCell (by simp; omega) _

set_option maxRecDepth 100000 in
set_option maxHeartbeats 1000000 in
theorem takeP_ok {s : Str} {A B : Option Addr} {c d : Nat} {S : Nat → Prop} (r : Rd) (w : World) (hv : validB r = true) (h : Sl rdE S w A c s.l) (k : Sl .bool S w B d s.g) (hl : s.l.length ≤ 1000) (hg : s.g.length ≤ 1000) :
    Calls Try.prog 16 #[.agg #[.slice A s.l.length c, .slice B s.g.length d], .agg #[.int .i64 r.who, .int .i64 r.whn, .int .i64 r.knd, .int .i64 r.val]] w (StRes S w (takeF s r)) := by
  have ht : takeF s r = (⟨s.l ++ [r], s.g ++ [false]⟩, 0) := by unfold takeF; rw [if_pos hv, if_neg (by omega)]
  rw [ht]
  have hcl := h.le
  have hcg := k.le
  have H := Lib.hid (h.old.sub (T := fun b => b < w.heap.size) fun b hb _ => hb.2)
  have K := Lib.hid (k.old.sub (T := fun b => b < w.heap.size) fun b hb _ => hb.2)
  have hl1 : ((65536 : Int) ≤ (s.l.length : Int)) = False := by simp; omega
  clear h k ht
  go_enter Try.func16, Try.ntmps16
  go_wp2_with (first
    | (go_at_call 21; refine (validP_any r _).mono ?_; rintro e w1 ⟨rfl, hb1⟩; have H1 := Lib.hid ((H.out.keep (((Agree.refl _ _).alloc _).alloc _ |>.alloc _)).keep (Below.agree hb1)); have K1 := Lib.hid ((K.out.keep (((Agree.refl _ _).alloc _).alloc _ |>.alloc _)).keep (Below.agree hb1)); have bz_hb1 := hb1.size; simp [World.setCell] at bz_hb1; have bl0_hb1 : w.heap.size < w1.heap.size := (by omega); have bk0_hb1 : w.heap.size < w.heap.size + 1 + 1 + 1 := (by omega); have bl1_hb1 : w.heap.size + 1 < w1.heap.size := (by omega); have bk1_hb1 : w.heap.size + 1 < w.heap.size + 1 + 1 + 1 := (by omega); have bl2_hb1 : w.heap.size + 1 + 1 < w1.heap.size := (by omega); have bk2_hb1 : w.heap.size + 1 + 1 < w.heap.size + 1 + 1 + 1 := (by omega); obtain ⟨hc_hb1, hf_hb1⟩ := bcellk (k := w.heap.size + 1 + 1 + 1) hb1 (by simp [World.setCell])))
  have b1 : Below w.heap.size w w1 := (((Below.refl _ _).alloc (Nat.le_refl _) _).alloc (by simp) _ |>.alloc (by simp; omega) _).trans (hb1.mono (by simp; omega))
  have kb : KB (w1.heap.size) [(w.heap.size + 2, 2)] w1 w w1 := ⟨⟨Nat.le_refl _, fun _ _ _ => rfl, by
    intro p hp
    simp only [List.mem_singleton] at hp
    subst hp
    exact ⟨#[.slice none 0 0, .slice none 0 0], 28, (hb1.block _ (by simp)).trans (heap_alloc_at (by simp)), rfl⟩⟩, b1, by omega, by simp⟩
  obtain ⟨r1, r2, r3, r4, -⟩ := KB.rules (w1.heap.size) [(w.heap.size + 2, 2)] w1 w
  have HA : Hid (Sl rdE (fun _ => True) w1 A s.l.length s.l) := Lib.hid (H1.out.clip.sub fun _ _ _ => trivial)
  have HG : Hid (Sl .bool (fun _ => True) w1 B s.g.length s.g) := Lib.hid (K1.out.clip.sub fun _ _ _ => trivial)
  go_region_held3 (fun X => KB (w1.heap.size) [(w.heap.size + 2, 2)] w1 w X) (first | with_reducible assumption | (with_reducible refine KB.drew ?_; with_reducible assumption) | (with_reducible refine KB.alloc ?_ _; with_reducible assumption) | (with_reducible refine KB.drew (KB.alloc ?_ _); with_reducible assumption) | (with_reducible refine KB.drew (KB.alloc (KB.alloc ?_ _) _); with_reducible assumption) | (refine KB.call ?_ (by assumption); with_reducible assumption) | (refine KB.call (KB.drew ?_) (by assumption); with_reducible assumption) | (refine KB.call (KB.alloc ?_ _) (by assumption); with_reducible assumption) | (refine KB.call (KB.drew (KB.alloc ?_ _)) (by assumption); with_reducible assumption) | (refine KB.set (KB.set (by assumption) (by simp) _) (by simp) _) | (refine KB.set (by assumption) (by simp) _))
    (first
      | (go_at_call 41; refine (clipR _ _ _ _ hcl).mono ?_; rintro e w2 ⟨rfl, rfl⟩)
      | (go_at_call 42; refine (clipBool _ _ _ _ hcg).mono ?_; rintro e w2 ⟨rfl, rfl⟩)
      | (refine step_append_full (S := fun _ => True) rfl (.tmp 19) (.tmp 21) rfl rdsT (xs := s.l) (ys := [r]) (by rfl) rfl (by rfl) rfl (nz := s.l.length + 1) (by simp) (HA.out.keep (by repeat' (first | with_reducible exact Agree.refl _ _ | with_reducible assumption | with_reducible refine Agree.alloc ?_ _ | with_reducible refine Agree.drew ?_ | with_reducible refine Agree.drewN ?_ _ | with_reducible refine Agree.call ?_ (by with_reducible assumption)))) (by repeat' (first | with_reducible refine Sl.drew ?_ | exact Sl.litAt (S := fun _ => True) (by first | rfl | simp | (simp [World.setCell]; done)) (.single (by first | exact rdE_shut | rfl)) (by unfold maxLen; simp) (fun _ _ _ => trivial) trivial | with_reducible refine Sl.alloc_ ?_ _ | with_reducible refine Sl.call_ ?_ (by with_reducible assumption))) (by simp) (by unfold maxLen; simp; omega) (by simp; omega) ?_; intro A3 c3 w3 hown3 hb3)
      | (refine step_append_full (S := fun _ => True) rfl (.tmp 25) (.tmp 26) rfl boolsT (xs := s.g) (ys := [false]) (by rfl) rfl (by rfl) rfl (nz := s.g.length + 1) (by simp) (HG.out.keep (by repeat' (first | with_reducible exact Agree.refl _ _ | with_reducible assumption | with_reducible refine Agree.alloc ?_ _ | with_reducible refine Agree.drew ?_ | with_reducible refine Agree.drewN ?_ _ | with_reducible refine Agree.call ?_ (by with_reducible assumption)))) (by repeat' (first | with_reducible refine Sl.drew ?_ | exact Sl.litAt (S := fun _ => True) (by first | rfl | simp | (simp [World.setCell]; done)) (.single (by first | exact rdE_shut | rfl)) (by unfold maxLen; simp) (fun _ _ _ => trivial) trivial | with_reducible refine Sl.alloc_ ?_ _ | with_reducible refine Sl.call_ ?_ (by with_reducible assumption))) (by simp) (by unfold maxLen; simp; omega) (by simp; omega) ?_; intro A4 c4 w4 hown4 hb4))
  all_goals
    have hz3 := hb3.size
    have hz4 := hb4.size
    simp at hz3 hz4
  all_goals first
    | (have o3 := Own.call (Own.alloc hown3 _) hb4; have o4 := hown4; go_wp2_with fail; have kbf := (by assumption : KB (w1.heap.size) [(w.heap.size + 2, 2)] w1 w _); obtain ⟨e0, e1⟩ := KB.two kbf (by simp); have lo3 := o3.lt; have lo4 := o4.lt; exact bodyPost_ret (v := .tuple #[.agg #[.slice A3 (s.l.length + 1) c3, .slice A4 (s.g.length + 1) c4], .int .i64 0]) (by simp [results, Try.results16, go_sem, e0, e1]) rfl ⟨A3, c3, A4, c4, by simp, (((o3.flat rdE_flat (T := fun _ => False)).set (fun e => (by have := (lo3 _ e).1; (try simp at this); omega)) (fun h => h) _).set (fun e => (by have := (lo3 _ e).1; (try simp at this); omega)) (fun h => h) _).flatSl rdE_flat (fun b hb => .inr (by (try simp at hb); omega)), (((o4.flat bool_flat (T := fun _ => False)).set (fun e => (by have := (lo4 _ e).1; (try simp at this); omega)) (fun h => h) _).set (fun e => (by have := (lo4 _ e).1; (try simp at this); omega)) (fun h => h) _).flatSl bool_flat (fun b hb => .inr (by (try simp at hb); omega)), kbf.below⟩)
    | (have o3 := Own.call hown3 hb4; have o4 := hown4; go_wp2_with fail; have kbf := (by assumption : KB (w1.heap.size) [(w.heap.size + 2, 2)] w1 w _); obtain ⟨e0, e1⟩ := KB.two kbf (by simp); have lo3 := o3.lt; have lo4 := o4.lt; exact bodyPost_ret (v := .tuple #[.agg #[.slice A3 (s.l.length + 1) c3, .slice A4 (s.g.length + 1) c4], .int .i64 0]) (by simp [results, Try.results16, go_sem, e0, e1]) rfl ⟨A3, c3, A4, c4, by simp, (((o3.flat rdE_flat (T := fun _ => False)).set (fun e => (by have := (lo3 _ e).1; (try simp at this); omega)) (fun h => h) _).set (fun e => (by have := (lo3 _ e).1; (try simp at this); omega)) (fun h => h) _).flatSl rdE_flat (fun b hb => .inr (by (try simp at hb); omega)), (((o4.flat bool_flat (T := fun _ => False)).set (fun e => (by have := (lo4 _ e).1; (try simp at this); omega)) (fun h => h) _).set (fun e => (by have := (lo4 _ e).1; (try simp at this); omega)) (fun h => h) _).flatSl bool_flat (fun b hb => .inr (by (try simp at hb); omega)), kbf.below⟩)
    | (have o3 := hown3; have o4 := Own.call (Own.alloc hown4 _) hb3; go_wp2_with fail; have kbf := (by assumption : KB (w1.heap.size) [(w.heap.size + 2, 2)] w1 w _); obtain ⟨e0, e1⟩ := KB.two kbf (by simp); have lo3 := o3.lt; have lo4 := o4.lt; exact bodyPost_ret (v := .tuple #[.agg #[.slice A3 (s.l.length + 1) c3, .slice A4 (s.g.length + 1) c4], .int .i64 0]) (by simp [results, Try.results16, go_sem, e0, e1]) rfl ⟨A3, c3, A4, c4, by simp, (((o3.flat rdE_flat (T := fun _ => False)).set (fun e => (by have := (lo3 _ e).1; (try simp at this); omega)) (fun h => h) _).set (fun e => (by have := (lo3 _ e).1; (try simp at this); omega)) (fun h => h) _).flatSl rdE_flat (fun b hb => .inr (by (try simp at hb); omega)), (((o4.flat bool_flat (T := fun _ => False)).set (fun e => (by have := (lo4 _ e).1; (try simp at this); omega)) (fun h => h) _).set (fun e => (by have := (lo4 _ e).1; (try simp at this); omega)) (fun h => h) _).flatSl bool_flat (fun b hb => .inr (by (try simp at hb); omega)), kbf.below⟩)
    | (have o3 := hown3; have o4 := Own.call hown4 hb3; go_wp2_with fail; have kbf := (by assumption : KB (w1.heap.size) [(w.heap.size + 2, 2)] w1 w _); obtain ⟨e0, e1⟩ := KB.two kbf (by simp); have lo3 := o3.lt; have lo4 := o4.lt; exact bodyPost_ret (v := .tuple #[.agg #[.slice A3 (s.l.length + 1) c3, .slice A4 (s.g.length + 1) c4], .int .i64 0]) (by simp [results, Try.results16, go_sem, e0, e1]) rfl ⟨A3, c3, A4, c4, by simp, (((o3.flat rdE_flat (T := fun _ => False)).set (fun e => (by have := (lo3 _ e).1; (try simp at this); omega)) (fun h => h) _).set (fun e => (by have := (lo3 _ e).1; (try simp at this); omega)) (fun h => h) _).flatSl rdE_flat (fun b hb => .inr (by (try simp at hb); omega)), (((o4.flat bool_flat (T := fun _ => False)).set (fun e => (by have := (lo4 _ e).1; (try simp at this); omega)) (fun h => h) _).set (fun e => (by have := (lo4 _ e).1; (try simp at this); omega)) (fun h => h) _).flatSl bool_flat (fun b hb => .inr (by (try simp at hb); omega)), kbf.below⟩)
end Go.Proofs.Ytpdblgchfkcgpaa
namespace Go.Proofs.Ytpdblgchfkcgpaa
open Go.RowKit

theorem bool_cells {S : Nat → Prop} {w : World} : ∀ {l : List Bool} {cs : List Value}, Elems .bool S w cs l → cs = l.map Value.bool
  | [], _, h => h
  | b :: l, _, ⟨c, d, e, h1, h2⟩ => by
    have h1' : c = [.bool b] := h1
    rw [e, h1', bool_cells h2]; rfl
theorem bool_elems {S : Nat → Prop} {w : World} : ∀ (l : List Bool), Elems .bool S w (l.map Value.bool) l
  | [] => rfl
  | _ :: l => ⟨[_], _, rfl, rfl, bool_elems l⟩
theorem bool_store {S : Nat → Prop} {w : World} {base n c g k : Nat} {e : TypeId} {l : List Bool} (h : Own .bool S w base e (.slice (some ⟨g, 0, none⟩) n c) l) (u : Bool) :
    Own .bool S (w.setCell ⟨g, k, none⟩ (.bool u)) base e (.slice (some ⟨g, 0, none⟩) n c) (l.set k u) := by
  refine ((h.flat bool_flat (T := fun _ => False)).stored (ys := l.set k u) (fun h => h) (by simp) (fun cs hel => ?_) rfl).flat bool_flat
  rw [bool_cells hel, ← List.map_set]
  exact bool_elems _
theorem bool_cell {S : Nat → Prop} {w : World} {base n c g k : Nat} {e : TypeId} {l : List Bool} (h : Own .bool S w base e (.slice (some ⟨g, 0, none⟩) n c) l) (hk : k < l.length) :
    w.cell? ⟨g, k, none⟩ = some (.bool (l.getD k false)) := by
  obtain ⟨cs, hr, hc⟩ := h.at_ (k := k) (List.getElem?_eq_getElem hk)
  cases hr
  have h1 := hc 0 _ rfl
  simp only [List.getD_eq_getElem?_getD, List.getElem?_eq_getElem hk, Option.getD_some]
  simpa [Enc.bool] using h1

theorem eqNilBool (w : World) (a : Option Addr) (n c : Nat) : (binOp .eql 26 (.slice a n c) (.slice none 0 0)).run Try.prog w = .ok (.bool a.isNone) w := Lib.run_eql_slice_nil (P := Try.prog) w _ _ a n c 0 0 Try.underlying26

theorem cloneBool {S : Nat → Prop} {A : Option Addr} {c : Nat} {l : List Bool} (w : World) (h : Sl .bool S w A c l) (hl : l.length ≤ 1000) :
    Calls Try.prog 43 #[.slice A l.length c] w fun e w' => ∃ A' c', e = .returned (.slice A' l.length c') ∧ Own .bool (fun _ => False) w' w.heap.size 4 (.slice A' l.length c') l ∧ Below w.heap.size w w' := by
  have hn := eqNilBool
  have H := Lib.hid (h.old.sub (T := fun b => b < w.heap.size) fun b hb _ => hb.2)
  rcases A with _ | a
  · have hl0 : l = [] := by
      obtain ⟨_, _, cs, hr, he⟩ := h
      rcases l with _ | ⟨x, l⟩
      · rfl
      · obtain ⟨d, ds, rfl, hd, _⟩ := he
        cases hd
        obtain ⟨a, ha, _⟩ := hr (by simp)
        cases ha
    subst hl0
    clear H h
    go_enter Try.func43, Try.ntmps43
    go_wp2_with fail
    go_ret
    exact ⟨_, _, rfl, Own.nil_ _ _ _ _ _, Below.refl _ _⟩
  · clear h
    go_enter Try.func43, Try.ntmps43
    go_wp2_with (at_builtin; refine wpList_append_E (S := fun b => b < w.heap.size) rfl (.tmp 5) (.tmp 6) rfl boolsT (base := w.heap.size) (v := .slice (some ⟨w.heap.size, 0, none⟩) 0 0) (xs := []) (ys := l) (by rfl) (by rfl) rfl (nz := l.length) (by simp) (Own.lit0 _ _ _ _ (Nat.le_refl _)) (H.out.keep ((Agree.refl _ _).alloc _)) (by unfold maxLen; simp; omega) (by simp; omega) (by simp) (by rintro g ⟨⟩ h; exact Nat.lt_irrefl _ h) ?_; intro A1 c1 w1 hown1 hg1 _)
    go_ret
    exact ⟨A1, c1, rfl, Own.flat bool_flat hown1, ((Below.refl _ _).alloc (Nat.le_refl _) _).grown hg1 (by simp) (by rintro k ⟨⟩; exact Nat.le_refl _)⟩

theorem retractP_none {s : Str} {A B : Option Addr} {c d : Nat} {S : Nat → Prop} (i : Int) (w : World) (hi : i < 0 ∨ (s.l.length : Int) ≤ i) :
    Calls Try.prog 17 #[.agg #[.slice A s.l.length c, .slice B s.g.length d], .int .i64 i] w (StRes S w (retractF s i)) := by
  have ht : retractF s i = (emptyStr, 4) := by unfold retractF; rw [if_pos hi]
  rw [ht]
  rcases hi with hi | hi
  · go_enter Try.func17, Try.ntmps17
    go_wp2_with fail
    exact bodyPost_ret (v := .tuple #[.agg #[.slice none 0 0, .slice none 0 0], .int .i64 4]) (by simp [results, Try.results17, go_sem, *]) rfl (StRes.none rfl (by repeat' (first | with_reducible exact Below.refl _ _ | with_reducible assumption | with_reducible refine Below.setCell ?_ ?_ _ | with_reducible refine Below.drew ?_ | with_reducible refine below_drewN ?_ _ | with_reducible refine Below.alloc ?_ ?_ _ | (rintro _ ⟨⟩; simp <;> omega) | omega | (simp <;> omega))))
  · have h1 : 0 ≤ i := by omega
    go_enter Try.func17, Try.ntmps17
    go_wp2_with fail
    exact bodyPost_ret (v := .tuple #[.agg #[.slice none 0 0, .slice none 0 0], .int .i64 4]) (by simp [results, Try.results17, go_sem, *]) rfl (StRes.none rfl (by repeat' (first | with_reducible exact Below.refl _ _ | with_reducible assumption | with_reducible refine Below.setCell ?_ ?_ _ | with_reducible refine Below.drew ?_ | with_reducible refine below_drewN ?_ _ | with_reducible refine Below.alloc ?_ ?_ _ | (rintro _ ⟨⟩; simp <;> omega) | omega | (simp <;> omega))))
theorem retractP_gone {s : Str} {A B : Option Addr} {c d i : Nat} {S : Nat → Prop} (w : World) (k : Sl .bool S w B d s.g) (hl : i < s.l.length) (hg : s.g.length = s.l.length) (hi : s.g[i]? = some true) :
    Calls Try.prog 17 #[.agg #[.slice A s.l.length c, .slice B s.g.length d], .int .i64 i] w (StRes S w (retractF s i)) := by
  have ht : retractF s i = (emptyStr, 120) := by unfold retractF; rw [if_neg (by omega), if_pos (by simp [List.getD_eq_getElem?_getD, hi])]
  rw [ht]
  have hm := k.max
  have hcm := k.capMax
  have hle := k.le
  obtain ⟨b1, o1, rfl, -, hb1, x0⟩ := bool_at k hi
  have h0 : (0 : Int) ≤ (i : Int) := by omega
  have h1 : (i : Int) < (s.l.length : Int) := by omega
  have h2 : (i : Int) < (s.g.length : Int) := by omega
  clear hi k hg
  go_enter Try.func17, Try.ntmps17
  go_wp2_with fail
  exact bodyPost_ret (v := .tuple #[.agg #[.slice none 0 0, .slice none 0 0], .int .i64 120]) (by simp [results, Try.results17, go_sem, *]) rfl (StRes.none rfl (by repeat' (first | with_reducible exact Below.refl _ _ | with_reducible assumption | with_reducible refine Below.setCell ?_ ?_ _ | with_reducible refine Below.drew ?_ | with_reducible refine below_drewN ?_ _ | with_reducible refine Below.alloc ?_ ?_ _ | (rintro _ ⟨⟩; simp <;> omega) | omega | (simp <;> omega))))
theorem retractR_gone {s : Str} {A B : Option Addr} {c d i : Nat} {S : Nat → Prop} (w : World) (k : Sl .bool S w B d s.g) (hl : i < s.l.length) (hg : s.g.length = s.l.length) (hi : s.g[i]? = some true) :
    Calls Try.prog 22 #[.agg #[.slice A s.l.length c, .slice B s.g.length d], .int .i64 i] w (StRes S w (retractF s i)) := by
  have ht : retractF s i = (emptyStr, 120) := by unfold retractF; rw [if_neg (by omega), if_pos (by simp [List.getD_eq_getElem?_getD, hi])]
  rw [ht]
  have hm := k.max
  have hcm := k.capMax
  have hle := k.le
  obtain ⟨b1, o1, rfl, -, hb1, x0⟩ := bool_at k hi
  have h0 : (0 : Int) ≤ (i : Int) := by omega
  have h1 : (i : Int) < (s.l.length : Int) := by omega
  have h2 : (i : Int) < (s.g.length : Int) := by omega
  clear hi k hg
  go_enter Try.func22, Try.ntmps22
  go_wp2_with fail
  exact bodyPost_ret (v := .tuple #[.agg #[.slice none 0 0, .slice none 0 0], .int .i64 120]) (by simp [results, Try.results22, go_sem, *]) rfl (StRes.none rfl (by repeat' (first | with_reducible exact Below.refl _ _ | with_reducible assumption | with_reducible refine Below.setCell ?_ ?_ _ | with_reducible refine Below.drew ?_ | with_reducible refine below_drewN ?_ _ | with_reducible refine Below.alloc ?_ ?_ _ | (rintro _ ⟨⟩; simp <;> omega) | omega | (simp <;> omega))))

set_option maxHeartbeats 1000000 in
theorem retractP_ok {s : Str} {A B : Option Addr} {c d i : Nat} {S : Nat → Prop} (w : World) (h : Sl rdE S w A c s.l) (k : Sl .bool S w B d s.g) (hl : i < s.l.length) (hg : s.g.length = s.l.length) (hl2 : s.l.length ≤ 1000) (hi : s.g[i]? = some false) :
    Calls Try.prog 17 #[.agg #[.slice A s.l.length c, .slice B s.g.length d], .int .i64 i] w (StRes S w (retractF s i)) := by
  have ht : retractF s i = (⟨s.l, s.g.set i true⟩, 0) := by unfold retractF; rw [if_neg (by omega), if_neg (by simp [List.getD_eq_getElem?_getD, hi])]; simp
  rw [ht]
  have hm := k.max
  have hcm := k.capMax
  have hle := k.le
  have hg1000 : s.g.length ≤ 1000 := by omega
  obtain ⟨b1, o1, rfl, -, hb1, x0⟩ := bool_at k hi
  have h0 : (0 : Int) ≤ (i : Int) := by omega
  have h1 : (i : Int) < (s.l.length : Int) := by omega
  have h2 : (i : Int) < (s.g.length : Int) := by omega
  have hig : i < s.g.length := by omega
  have Hg := Lib.hid hg
  have K := Lib.hid k
  have H := Lib.hid h
  clear hi k hg ht h
  go_enter Try.func17, Try.ntmps17
  go_wp2_with (go_at_call 43; refine (cloneBool (S := S) _ (K.out.keep (by repeat' (first | with_reducible exact Agree.refl _ _ | with_reducible assumption | with_reducible refine Agree.alloc ?_ _ | with_reducible refine Agree.drew ?_ | with_reducible refine Agree.drewN ?_ _ | with_reducible refine Agree.call ?_ (by with_reducible assumption)))) hg1000).mono ?_; rintro e w1 ⟨A1, c1, rfl, hown1, hb1⟩; have bz_hb1 := hb1.size; simp [World.setCell] at bz_hb1; have bl0_hb1 : w.heap.size < w1.heap.size := (by omega); have bk0_hb1 : w.heap.size < w.heap.size + 1 + 1 := (by omega); have bl1_hb1 : w.heap.size + 1 < w1.heap.size := (by omega); have bk1_hb1 : w.heap.size + 1 < w.heap.size + 1 + 1 := (by omega); obtain ⟨hc_hb1, hf_hb1⟩ := bcellk (k := w.heap.size + 1 + 1) hb1 (by simp [World.setCell]); obtain ⟨g, rfl, hbg, hgl, -⟩ := Own.block hown1 (by omega); have hx := bool_cell hown1 hig; have hfx := hown1.frozen i; simp at hbg; have hn1 : g ≠ w.heap.size := (by omega); have hn2 : g ≠ w.heap.size + 1 := (by omega); have hn3 : w.heap.size ≠ g := (by omega); have hn4 : w.heap.size + 1 ≠ g := (by omega); have Ho := Lib.hid hown1; clear hown1)
  have b1 : Below w.heap.size w w1 := (by repeat' (first | with_reducible exact Below.refl _ _ | with_reducible assumption | with_reducible refine Below.trans ?_ (Below.mono hb1 ?_) | with_reducible refine Below.setCell ?_ ?_ _ | with_reducible refine Below.drew ?_ | with_reducible refine below_drewN ?_ _ | with_reducible refine Below.alloc ?_ ?_ _ | (rintro _ ⟨⟩; simp <;> omega) | omega | (simp <;> omega)))
  refine bodyPost_ret (v := .tuple #[.agg #[.slice A s.l.length c, .slice (some ⟨g, 0, none⟩) s.g.length c1], .int .i64 0]) (by simp [results, Try.results17, go_sem, *]) rfl ⟨A, c, some ⟨g, 0, none⟩, c1, by simp, ?_, ?_, ((b1.setCell (by show w.heap.size ≤ g; omega) _).setCell (by simp) _).setCell (by simp) _⟩
  · exact (((H.out.old.keep (Below.agree b1)).keep (((Agree.refl _ _).set (fun h => absurd h.2 (by show ¬ g < w.heap.size; omega)) _).set (fun h => absurd h.2 (by show ¬ w.heap.size + 1 < w.heap.size; omega)) _ |>.set (fun h => absurd h.2 (by show ¬ w.heap.size + 1 < w.heap.size; omega)) _)).sub fun b hb _ => .inl hb.1)
  · have h9 := bool_store (k := i) Ho.out true
    exact ((h9.set (p := ⟨w.heap.size + 1, 0, none⟩) (fun e => hn2 (Option.some.inj e)) (fun h => h) _).set (p := ⟨w.heap.size + 1, 1, none⟩) (fun e => hn2 (Option.some.inj e)) (fun h => h) _).flatSl bool_flat (fun b hb => .inr (by simp at hb; omega))

set_option maxHeartbeats 1000000 in
theorem retractR_ok {s : Str} {A B : Option Addr} {c d i : Nat} {S : Nat → Prop} (w : World) (h : Sl rdE S w A c s.l) (k : Sl .bool S w B d s.g) (hl : i < s.l.length) (hg : s.g.length = s.l.length) (hl2 : s.l.length ≤ 1000) (hi : s.g[i]? = some false) :
    Calls Try.prog 22 #[.agg #[.slice A s.l.length c, .slice B s.g.length d], .int .i64 i] w (StRes S w (retractF s i)) := by
  have ht : retractF s i = (⟨s.l, s.g.set i true⟩, 0) := by unfold retractF; rw [if_neg (by omega), if_neg (by simp [List.getD_eq_getElem?_getD, hi])]; simp
  rw [ht]
  have hm := k.max
  have hcm := k.capMax
  have hle := k.le
  have hg1000 : s.g.length ≤ 1000 := by omega
  obtain ⟨b1, o1, rfl, -, hb1, x0⟩ := bool_at k hi
  have h0 : (0 : Int) ≤ (i : Int) := by omega
  have h1 : (i : Int) < (s.l.length : Int) := by omega
  have h2 : (i : Int) < (s.g.length : Int) := by omega
  have hig : i < s.g.length := by omega
  have Hg := Lib.hid hg
  have K := Lib.hid (k.old.sub (T := fun b => b < w.heap.size) fun b hb _ => hb.2)
  have H := Lib.hid (h.old.sub (T := fun b => b < w.heap.size) fun b hb _ => hb.2)
  clear hi k hg ht h
  go_enter Try.func22, Try.ntmps22
  go_wp2_with (first
    | (at_builtin; refine wpList_append_E (S := fun b => b < w.heap.size) rfl (.tmp 23) (.tmp 25) rfl boolsT (base := w.heap.size + 1 + 1) (v := .slice (some ⟨w.heap.size + 1 + 1, 0, none⟩) 0 0) (xs := []) (ys := s.g) (by rfl) (by rfl) rfl (nz := s.g.length) (by simp) (Own.litAt _ _ _ _ (by simp) (Nat.le_refl _)) (K.out.keep (by repeat' (first | with_reducible exact Agree.refl _ _ | with_reducible assumption | with_reducible refine Agree.alloc ?_ _ | with_reducible refine Agree.drew ?_ | with_reducible refine Agree.drewN ?_ _ | with_reducible refine Agree.call ?_ (by with_reducible assumption)))) (by unfold maxLen; simp; omega) (by simp; omega) (by simp) (by rintro g ⟨⟩ h; simp at h; omega) ?_; go_must ((intro A1 c1 w1 hown1 hg1 hor1; have hz1 := hg1.size; simp at hz1; obtain ⟨hc1, hf1⟩ := gcell (g := w.heap.size + 1 + 1) hg1 (by simp); have Ho1 : Own .bool (fun _ => False) w1 (w.heap.size + 1 + 1) 4 (.slice A1 s.g.length c1) s.g := Own.flat bool_flat hown1; obtain ⟨g, rfl, hbg, hgl, -⟩ := Own.block Ho1 (by omega); have hx := bool_cell Ho1 hig; have hfx := Ho1.frozen i; have hn1 : g ≠ w.heap.size := (by omega); have hn2 : g ≠ w.heap.size + 1 := (by omega); have hn3 : w.heap.size ≠ g := (by omega); have hn4 : w.heap.size + 1 ≠ g := (by omega); have Ho := Lib.hid Ho1; have ls1 : w.heap.size < w1.heap.size := (by omega); have ls2 : w.heap.size + 1 < w1.heap.size := (by omega); have ls3 : w.heap.size < w.heap.size + 1 + 1 := (by omega); have hA1 : Hid (Agree (fun b => b < w.heap.size) w w1) := Lib.hid ((((Agree.refl _ _).alloc _).alloc _ |>.alloc _).grown hg1 (by rintro g ⟨⟩ h; simp at h; omega)); clear hown1 Ho1)))
    | (at_builtin; refine wpList_append_E (S := fun b => b < w.heap.size) rfl (.tmp 30) (.tmp 32) rfl rdsT (base := w1.heap.size) (v := .slice (some ⟨w1.heap.size, 0, none⟩) 0 0) (xs := []) (ys := s.l) (by rfl) (by rfl) rfl (nz := s.l.length) (by simp) (Own.litAt _ _ _ _ (by simp [World.setCell]) (Nat.le_refl _)) (((H.out.keep hA1.out).keep ((Agree.refl _ _).set (fun h => absurd h (by show ¬ g < w.heap.size; omega)) _)).keep ((Agree.refl _ _).alloc _)) (by unfold maxLen; simp; omega) (by simp; omega) (by simp [World.setCell]) (by rintro g ⟨⟩ h; simp at h; omega) ?_; go_must ((intro A2 c2 w2 hown2 hg2 hor2; have hz2 := hg2.size; simp [World.setCell] at hz2; obtain ⟨hc2, hf2⟩ := gcell (g := w1.heap.size) hg2 (by simp [World.setCell]); have ls4 : w.heap.size + 1 < w2.heap.size := (by omega)))))
  have Ho2 : Own rdE (fun _ => False) w2 w1.heap.size 47 (.slice A2 s.l.length c2) s.l := Own.flat rdE_flat hown2
  have lo2 := Ho2.lt
  have Hg2 : Own .bool (fun _ => False) w2 (w.heap.size + 1 + 1) 4 (.slice (some ⟨g, 0, none⟩) s.g.length c1) (s.g.set i true) := (bool_store (k := i) Ho.out true).grownNew hg2 (by simp [World.setCell]) (fun h => h)
  have b1 : Below w.heap.size w w1 := (((Below.refl _ _).alloc (Nat.le_refl _) _).alloc (by simp) _ |>.alloc (by simp; omega) _).grown hg1 (by simp; omega) (by rintro k ⟨⟩; show w.heap.size ≤ w.heap.size + 1 + 1; omega)
  have b2 : Below w.heap.size w w2 := ((b1.setCell (by show w.heap.size ≤ g; omega) _).alloc (by simp [World.setCell]; omega) _).grown hg2 (by simp [World.setCell]; omega) (by rintro k ⟨⟩; show w.heap.size ≤ w1.heap.size; omega)
  refine bodyPost_ret (v := .tuple #[.agg #[.slice A2 s.l.length c2, .slice (some ⟨g, 0, none⟩) s.g.length c1], .int .i64 0]) (by simp [results, Try.results22, go_sem, *]) rfl ⟨A2, c2, some ⟨g, 0, none⟩, c1, by simp, ?_, ?_, (b2.setCell (by simp) _).setCell (by simp) _⟩
  · exact ((Ho2.set (fun e => absurd (lo2 _ e).1 (by simp; omega)) (fun h => h) _).set (fun e => absurd (lo2 _ e).1 (by simp; omega)) (fun h => h) _).flatSl rdE_flat (fun b hb => .inr (by omega))
  · exact ((Hg2.set (p := ⟨w.heap.size + 1, 0, none⟩) (fun e => hn2 (Option.some.inj e)) (fun h => h) _).set (p := ⟨w.heap.size + 1, 1, none⟩) (fun e => hn2 (Option.some.inj e)) (fun h => h) _).flatSl bool_flat (fun b hb => .inr (by omega))
end Go.Proofs.Ytpdblgchfkcgpaa
namespace Go.Proofs.Ytpdblgchfkcgpaa
open Go.RowKit

def liveT (s : Str) (j : Nat) : List Rd := (((s.l.zip s.g).take j).filter fun p => !p.2).map (·.1)
theorem liveT_all (s : Str) (h : s.g.length = s.l.length) : liveT s s.l.length = liveF s := by
  unfold liveT liveF
  rw [List.take_of_length_le (by simp [h])]
theorem liveT_snoc {s : Str} {j : Nat} {r : Rd} {b : Bool} (hl : s.l[j]? = some r) (hg : s.g[j]? = some b) : liveT s (j + 1) = liveT s j ++ (if b then [] else [r]) := by
  unfold liveT
  have h : (s.l.zip s.g)[j]? = some (r, b) := by
    rw [List.getElem?_zip_eq_some]; exact ⟨hl, hg⟩
  rw [take_snocR h]
  cases b <;> simp
theorem liveT_len (s : Str) (j : Nat) : (liveT s j).length ≤ j := by
  unfold liveT
  rw [List.length_map]
  exact Nat.le_trans (List.length_filter_le _ _) (List.length_take_le _ _)
/-- Readings in a slice that the call made. -/
def RdsRes (S : Nat → Prop) (w : World) (l : List Rd) (e : Ending) (w' : World) : Prop :=
  ∃ A c, e = .returned (.slice A l.length c) ∧ Sl rdE (Fresh S w) w' A c l ∧ Below w.heap.size w w'

/-- A row of the call's own, of what holds no addresses; nothing that lay below B has turned. -/
structure Coll {α : Type} (E : Enc α) (e : TypeId) (w0 : World) (B : Nat) (xs : List α) (v : Value) (wr : World) : Prop where
  own : Own E (fun _ => False) wr B e v xs
  bel : Below w0.heap.size w0 wr
  base : w0.heap.size ≤ B
  size : B ≤ wr.heap.size
theorem Coll.app {α : Type} {E : Enc α} (hE : E.Flat) {e e2 : TypeId} {w0 wr w6 : World} {B : Nat} {xs ys : List α} {v v' : Value} {S : Nat → Prop} {cells : Array Value} (h : Coll E e w0 B xs v wr)
    (ho : Own E S w6 B e v' (xs ++ ys)) (hg : (wr.alloc (.cells cells e2)).grownBy w6 v.ownBlock) : Coll E e w0 B (xs ++ ys) v' w6 := by
  have hz := hg.size
  have h1 := h.size
  have h2 := h.base
  simp at hz
  exact ⟨ho.flat hE, (h.bel.alloc (by omega) _).grown hg (by simp; omega) (fun k hk => by have := (h.own.lt k hk).1; omega), h.base, by omega⟩

end Go.Proofs.Ytpdblgchfkcgpaa
namespace Go.Proofs.Ytpdblgchfkcgpaa
open Go.RowKit Go.Shelf

attribute [local go_sem] Oper.semAt_some

theorem liveT_prefix (s : Str) (k : Nat) : liveT s k <+: liveF s := by
  unfold liveT liveF
  exact ((List.take_prefix k (s.l.zip s.g)).filter _).map _

set_option maxRecDepth 100000 in
set_option maxHeartbeats 2000000 in
theorem live1_in (F : Fence) (n : Nat) (h6 : F.fn 60) (hro : F.round = none) (hn : 1 ≤ n) (l Bs N0 : Nat) (S : Nat → Prop) {s : Str} {A B : Option Addr} {c d : Nat} (J Jx : List Rd → World → Prop) (hJ : AbidesFrom N0 J)
    (hY : ∀ pre x W, J pre W → pre.length < s.l.length → YieldAt F (n - 1) Try.prog l #[.agg #[.int .i64 x.who, .int .i64 x.whn, .int .i64 x.knd, .int .i64 x.val]] W fun e W' =>
      (e = .returned (.bool true) ∧ J (pre ++ [x]) W' ∧ Agree S W W') ∨ (e = .returned (.bool false) ∧ Jx (pre ++ [x]) W'))
    (W : World) (hb0 : W.cell? ⟨Bs, 0, none⟩ = some (.slice A s.l.length c)) (hb1 : W.cell? ⟨Bs, 1, none⟩ = some (.slice B s.g.length d)) (hBs : S Bs) (hBl : Bs < W.heap.size) (h : Sl rdE S W A c s.l) (k : Sl .bool S W B d s.g) (hg : s.g.length = s.l.length) (hm : s.l.length ≤ 1000) (h0 : J [] W) :
    CallsIn F n Try.prog 60 #[.func (.yield l) #[] #[], .pointer (some ⟨Bs, 0, none⟩)] W fun e W' => (∃ v, e = .returned v) ∧
      ((∃ ys, ys = liveF s ∧ J ys W') ∨ (∃ pre, pre <+: liveF s ∧ Jx pre W')) := by
  have H := Lib.hid h
  have K := Lib.hid k
  have Hg := Lib.hid hg
  clear h k hg
  refine callsIn_of_wp Try.func60 rfl h6 ?_ hro
  simp only [Try.ntmps60, List.size_toArray, List.length_cons, List.length_nil, Nat.reduceAdd, Nat.reduceSub, Array.replicate_succ, Array.replicate_zero, List.push_toArray, List.append_toArray, List.nil_append, List.cons_append]
  gi_wp2
  gi_loopw [8] (fun i wr => ∃ j : Nat, j ≤ s.l.length ∧ i = .int .i64 j ∧ J (liveT s j) wr ∧ Agree S W wr) (fun i _ => s.l.length - (intOf i).toNat)
  case atStart => exact ⟨0, Nat.zero_le _, rfl, h0, Agree.refl _ _⟩
  case round =>
    obtain ⟨j, hj, rfl, hJs, ha⟩ := hrel
    by_cases hlt : j < s.l.length
    · obtain ⟨r, hr⟩ : ∃ r, s.l[j]? = some r := ⟨_, List.getElem?_eq_getElem hlt⟩
      obtain ⟨b, hb⟩ : ∃ b, s.g[j]? = some b := ⟨_, List.getElem?_eq_getElem (by rw [Hg.out]; exact hlt)⟩
      have hS := Lib.hid (liveT_snoc hr hb)
      obtain ⟨b2, o2, rfl, -, hb2, x0, x1, x2, x3⟩ := rd_at (H.out.keep ha) hr
      obtain ⟨b3, o3, rfl, -, hb3, y0⟩ := bool_at (K.out.keep ha) hb
      have hc1 : wr.cell? ⟨Bs, 1, none⟩ = some (.slice (some ⟨b3, o3, none⟩) s.g.length d) := (World.cell?_of_block (a := ⟨Bs, 1, none⟩) (ha.2 Bs hBs hBl)).trans hb1
      have hBr : Bs < wr.heap.size := Nat.lt_of_lt_of_le hBl ha.1
      have hj0 : (0 : Int) ≤ (j : Int) := by omega
      have hj1 : (j : Int) < (s.l.length : Int) := by omega
      have hj2 : (j : Int) < (s.g.length : Int) := by have := Hg.out; omega
      have hlen : (liveT s j).length < s.l.length := Nat.lt_of_le_of_lt (liveT_len s j) hlt
      have hJ2 : J (liveT s j) (wr.alloc (.cells #[.int .i64 r.who, .int .i64 r.whn, .int .i64 r.knd, .int .i64 r.val] 47)) := hJ _ _ _ none hJs (World.grownBy_alloc _ _ none) (fun _ e => by cases e)
      have Ha := Lib.hid ha
      clear hr hb ha
      cases b with
      | true =>
        gi_wp2
        refine ⟨fun _ h => (by cases h), ?_⟩
        gi_wp2
        go_roundw
        case rel => exact ⟨j + 1, by omega, by go_num, by rw [hS.out]; simpa using hJ2, Ha.out.alloc _⟩
        case measure => simp [intOf]; omega
      | false =>
        obtain ⟨fn, tmps, assign, body, hy, hR⟩ := hY _ r _ hJ2 hlen
        gi_wp2
        refine hR.mono ?_
        rintro e W3 (⟨rfl, hJ3, hk3⟩ | ⟨rfl, hJx3⟩)
        · gi_wp2
          go_roundw
          case rel => exact ⟨j + 1, by omega, by go_num, by rw [hS.out]; exact hJ3, (Ha.out.alloc _).trans hk3⟩
          case measure => simp [intOf]; omega
        · gi_wp2
          refine bodyPost_ret (results_none rfl _ _ _) rfl ?_
          have hp := liveT_prefix s (j + 1)
          rw [hS.out] at hp
          exact ⟨⟨_, rfl⟩, .inr ⟨_, hp, hJx3⟩⟩
    · have hjl : j = s.l.length := by omega
      subst hjl
      have hj1 : ¬ (s.l.length : Int) < (s.l.length : Int) := by omega
      gi_wp2
      go_end0
      have e := liveT_all s Hg.out
      rw [e] at hJs
      exact ⟨⟨_, rfl⟩, .inl hJs⟩

theorem live_in (F : Fence) (n : Nat) (h5 : F.fn 44) (hro : F.round = none) (u v : Value) (w : World) :
    CallsIn F n Try.prog 44 #[.agg #[u, v]] w fun e w' => e = .returned (.func (.func 60) #[] #[.pointer (some ⟨w.heap.size, 0, none⟩)]) ∧ w' = w.alloc (.cells #[u, v] 28) := by
  refine callsIn_of_wp Try.func44 rfl h5 ?_ hro
  simp only [Try.ntmps44, List.size_toArray, List.length_cons, List.length_nil, Nat.reduceAdd, Nat.reduceSub, Array.replicate_succ, Array.replicate_zero, List.push_toArray, List.append_toArray, List.nil_append, List.cons_append]
  gi_wp2
  go_ret
  exact ⟨rfl, rfl⟩

theorem live_stops (F : Fence) (n : Nat) (h6 : F.fn 60) (hro : F.round = none) (hn : 1 ≤ n) (Bs : Nat) (S : Nat → Prop) {s : Str} {A B : Option Addr} {c d : Nat} (w : World) (hBs : S Bs) (hBl : Bs < w.heap.size)
    (hb0 : w.cell? ⟨Bs, 0, none⟩ = some (.slice A s.l.length c)) (hb1 : w.cell? ⟨Bs, 1, none⟩ = some (.slice B s.g.length d)) (h : Sl rdE S w A c s.l) (k : Sl .bool S w B d s.g) (hg : s.g.length = s.l.length) (hm : s.l.length ≤ 1000) :
    SeqStopsK F n Try.prog 60 #[.pointer (some ⟨Bs, 0, none⟩)] (fun x : Rd => #[Value.agg #[.int .i64 x.who, .int .i64 x.whn, .int .i64 x.knd, .int .i64 x.val]]) (Agree S) (fun ys => ys = liveF s) (fun pre => pre <+: liveF s) s.l.length w := fun l J Jx W hW hJ _ hY h0 =>
  live1_in F n h6 hro hn l Bs W.heap.size S J Jx hJ hY W ((hW.cell (p := ⟨Bs, 0, none⟩) hBl).trans hb0) ((hW.cell (p := ⟨Bs, 1, none⟩) hBl).trans hb1) hBs (Nat.lt_of_lt_of_le hBl hW.size) (h.keep (Below.agree hW)) (k.keep (Below.agree hW)) hg hm h0
end Go.Proofs.Ytpdblgchfkcgpaa
