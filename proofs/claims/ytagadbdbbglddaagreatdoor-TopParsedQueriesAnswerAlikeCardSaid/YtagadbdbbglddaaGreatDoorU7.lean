/-
  Texts of this claim, merged: Q4. Conditions: as each theorem says.
-/
import Derived.Test.YtagadbdbbglddaaGreatDoorU1
import Derived.Test.YtagadbdbbglddaaGreatDoorU2
import Derived.Test.YtagadbdbbglddaaGreatDoorU3
import Derived.Test.YtagadbdbbglddaaGreatDoorU4
import Derived.Test.YtagadbdbbglddaaGreatDoorU6
set_option linter.unusedSimpArgs false
set_option linter.unusedVariables false
namespace Go.Proofs.YtagadbdbbglddaaGreatDoor
open Go.RowKit

theorem drew_get_ {w : World} {g : Nat} {o : Option Obj} (h : w.heap[g]? = o) : w.drew.heap[g]? = o := h
theorem forms_look {W : World} {b : Nat} (h : MapIs W b formsE) (k : Int) : (Instr.lookup 84 (.map (some b)) (.int .i64 k) true).run Tryz.prog W = .ok (.tuple #[.agg #[.string (kwF k), .bool (hasColB k), .int .i64 (maxKF k), .int .i64 (nFormF k)], .bool (knownB k)]) W := by
  have := run_lookup_I Tryz.underlying84 Tryz.underlying3 h rfl (z := formV ⟨#[]⟩ false 0 0) (by kernel_rfl) k true
  rw [(forms_find k).1, (forms_find k).2] at this
  exact this
theorem not_head {q : Qy} (h : ¬ HeadOk q) : validQB q = false := by unfold validQB; rw [decide_eq_false h]; rfl
theorem not_flt {q : Qy} {l : List Cd} (h : l ∈ q.fs) (hl : validFltB l = false) : validQB q = false := by
  unfold validQB
  rw [Bool.and_eq_false_iff]
  exact .inr (List.all_eq_false.2 ⟨l, h, by simp [hl]⟩)
def q4A : List FRow := [(0, ([], (9, []))), (1, ([], (10, [1]))), (2, ([1], (11, [9]))), (3, ([0, 2], (12, [8, 10]))), (4, ([3], (8, [11]))), (5, ([4], (13, [7]))), (6, ([4], (14, [7]))), (7, ([], (4, []))), (8, ([7, 5, 0, 0, 1, 2, 3, 4, 5, 7], (0, [3, 12]))), (9, ([6, 8, 0, 1, 2, 3, 4, 5, 6, 7, 8], (5, [13])))]
set_option maxRecDepth 100000 in
set_option maxHeartbeats 4000000 in
theorem validP {q : Qy} {A : Option Addr} {c : Nat} {S : Nat → Prop} (w : World) (h : Sl cdE.slice S w A c q.fs) :
    Calls Tryz.prog 22 #[(.agg #[.int .i64 q.kind, .int .i64 q.col, .int .i64 q.k, .slice A q.fs.length c])] w fun e w' => e = .returned (.bool (validQB q)) ∧ Below w.heap.size w w' := by
  have H := Lib.hid h
  clear h
  go_enter Tryz.func22, Tryz.ntmps22
  go_upto_region 1 with fail
  refine wp_world (F := fun wx => Below w.heap.size w wx ∧ Hid (wx.heap[w.heap.size]? = some (.cells #[.int .i64 q.kind, .int .i64 q.col, .int .i64 q.k, .slice A q.fs.length c] 24 (0, 0)))) ⟨(Below.refl _ _).alloc (Nat.le_refl _) _, Lib.hid (heap_alloc_at rfl)⟩ ?_
  rintro wr ⟨bb, gq⟩
  have b0 := Lib.hid bb
  replace H := Lib.hid (H.out.keep (Below.agree bb))
  clear bb
  go_cut [3, 4] (fun p k wx => ∃ g, p = .pointer (some ⟨g, 0, none⟩) ∧ k = .bool (knownB q.kind) ∧ wx.heap[g]? = some (.cells #[.string (kwF q.kind), .bool (hasColB q.kind), .int .i64 (maxKF q.kind), .int .i64 (nFormF q.kind)] 83 (0, 0)) ∧ Below wr.heap.size wr wx)
  case first =>
    have zq : ∀ W, Below wr.heap.size wr W → _ ∧ _ ∧ _ ∧ _ := fun W hW => row4 (mvQ gq hW)
    have br : Below wr.heap.size wr wr := Below.refl _ _
    have ba : ∀ W o, Below wr.heap.size wr W → Below wr.heap.size wr (W.alloc o) := fun W o h => h.alloc h.size o
    have bc : ∀ W W', Below wr.heap.size wr W → Below W.heap.size W W' → Below wr.heap.size wr W' := fun W W' h k => h.trans (k.mono h.size)
    refine wp_region_noPanic ?_
    refine wp_region_held_drew (S := fun X => Below wr.heap.size wr X) (by kernel_rfl) ?_ (fun hHeld => ?_)
    · (first | (repeat' (first | with_reducible assumption | exact Nat.le_refl _ | with_reducible refine Below.setCell ?_ ?_ _ | with_reducible refine Below.drew ?_ | with_reducible refine ba _ _ ?_ | omega)) | (first | with_reducible assumption | (with_reducible refine Below.drew ?_; with_reducible assumption) | (with_reducible refine ba _ _ ?_; with_reducible assumption) | (with_reducible refine Below.drew ?_; with_reducible refine ba _ _ ?_; with_reducible assumption) | exact Below.refl _ _ | exact (Below.refl _ _).drew | exact (Below.refl _ _).alloc (Nat.le_refl _) _ | (refine bc _ _ (by assumption) (by assumption))))
    refine RegOk.begin_ (n := 10) (T := q4A) ⟨by kernel_rfl, by kernel_rfl, by kernel_rfl, by kernel_rfl⟩ fun hR => ?_
    refine hR.take (i := 1) (oi := ?ow113_1) (v := ?vw113_1) (m' := 2) ?hw113_1 (by kernel_rfl) (by kernel_rfl) (fun _ _ _ h => h) (Or.inl ⟨?sw113_1, ?yw113_1⟩) (by assumption) ?nw113_1
    case hw113_1 => simp only [List.getElem?_toArray, List.getElem?_cons_succ, List.getElem?_cons_zero]; rfl
    case sw113_1 => rfl
    case yw113_1 => (intro w hSw; (try dsimp only at hSw); go_simp <;> with_reducible rfl)
    try simp only [Act.put, List.setIfInBounds_toArray, List.set_cons_zero, List.set_cons_succ]
    refine hR.take (i := 2) (oi := ?ow114_2) (v := ?vw114_2) (m' := 6) ?hw114_2 (by kernel_rfl) (by kernel_rfl) (fun _ _ _ h => h) (Or.inl ⟨?sw114_2, ?yw114_2⟩) (by assumption) ?nw114_2
    case hw114_2 => simp only [List.getElem?_toArray, List.getElem?_cons_succ, List.getElem?_cons_zero]; rfl
    case sw114_2 => rfl
    case yw114_2 => (intro w hSw; (try dsimp only at hSw); go_simp <;> with_reducible rfl)
    try simp only [Act.put, List.setIfInBounds_toArray, List.set_cons_zero, List.set_cons_succ]
    refine hR.come (rs := [0, 7]) (by kernel_rfl) (by simp) ?_
    refine AllReadyH.cons (o := ?o115_0) ?h115_0 (fun K hK => ?kw115_0) (AllReadyH.cons (o := ?o115_7) ?h115_7 (fun K hK => ?kw115_7) AllReadyH.nil)
    case h115_0 => simp only [List.getElem?_toArray, List.getElem?_cons_succ, List.getElem?_cons_zero]; rfl
    case h115_7 => simp only [List.getElem?_toArray, List.getElem?_cons_succ, List.getElem?_cons_zero]; rfl
    case kw115_0 =>
      go_simp
      go_at_call 31; refine (formsP _).mono ?_; rintro e w1 ⟨b, rfl, hbb, hM, hb1⟩; have hk := bc _ _ (by (first | with_reducible assumption | (with_reducible refine Below.drew ?_; with_reducible assumption) | (with_reducible refine ba _ _ ?_; with_reducible assumption) | (with_reducible refine Below.drew ?_; with_reducible refine ba _ _ ?_; with_reducible assumption) | exact Below.refl _ _ | exact (Below.refl _ _).drew | exact (Below.refl _ _).alloc (Nat.le_refl _) _ | (refine bc _ _ (by assumption) (by assumption)))) hb1; obtain ⟨hc1, hf1⟩ := bcell hb1; have hz1 := hb1.size; (try simp at hz1); (try have hl1 : wr.heap.size < w1.heap.size := (by omega))
      refine hK.out _ _ ?_ (fun hHeld => ?_)
      · (first | (repeat' (first | with_reducible assumption | exact Nat.le_refl _ | with_reducible refine Below.setCell ?_ ?_ _ | with_reducible refine Below.drew ?_ | with_reducible refine ba _ _ ?_ | omega)) | (first | with_reducible assumption | (with_reducible refine Below.drew ?_; with_reducible assumption) | (with_reducible refine ba _ _ ?_; with_reducible assumption) | (with_reducible refine Below.drew ?_; with_reducible refine ba _ _ ?_; with_reducible assumption) | exact Below.refl _ _ | exact (Below.refl _ _).drew | exact (Below.refl _ _).alloc (Nat.le_refl _) _ | (refine bc _ _ (by assumption) (by assumption))))
      clear hK K
      refine RegOk.put_ (m' := 7) (by kernel_rfl) ?_
      try simp only [Act.put, List.setIfInBounds_toArray, List.set_cons_zero, List.set_cons_succ]
      refine hR.come (rs := [3, 7]) (by kernel_rfl) (by simp) ?_
      refine AllReadyH.cons (o := ?o116_3) ?h116_3 (fun K hK => ?kw116_3) (AllReadyH.cons (o := ?o116_7) ?h116_7 (fun K hK => ?kw116_7) AllReadyH.nil)
      case h116_3 => simp only [List.getElem?_toArray, List.getElem?_cons_succ, List.getElem?_cons_zero]; rfl
      case h116_7 => simp only [List.getElem?_toArray, List.getElem?_cons_succ, List.getElem?_cons_zero]; rfl
      case kw116_3 =>
        refine step_lookup (by rfl) (by rfl) (by rfl) (by rfl) (forms_look (hM.below (by repeat' (first | exact Below.refl _ _ | with_reducible refine Below.drew ?_ | with_reducible refine Below.alloc ?_ (Nat.le_refl _) _))) q.kind) ?_
        refine hK.out _ _ ?_ (fun hHeld => ?_)
        · (first | (repeat' (first | with_reducible assumption | exact Nat.le_refl _ | with_reducible refine Below.setCell ?_ ?_ _ | with_reducible refine Below.drew ?_ | with_reducible refine ba _ _ ?_ | omega)) | (first | with_reducible assumption | (with_reducible refine Below.drew ?_; with_reducible assumption) | (with_reducible refine ba _ _ ?_; with_reducible assumption) | (with_reducible refine Below.drew ?_; with_reducible refine ba _ _ ?_; with_reducible assumption) | exact Below.refl _ _ | exact (Below.refl _ _).drew | exact (Below.refl _ _).alloc (Nat.le_refl _) _ | (refine bc _ _ (by assumption) (by assumption))))
        clear hK K
        refine RegOk.put_ (m' := 15) (by kernel_rfl) ?_
        try simp only [Act.put, List.setIfInBounds_toArray, List.set_cons_zero, List.set_cons_succ]
        refine hR.take (i := 4) (oi := ?ow117_4) (v := ?vw117_4) (m' := 31) ?hw117_4 (by kernel_rfl) (by kernel_rfl) (fun _ _ _ h => h) (Or.inl ⟨?sw117_4, ?yw117_4⟩) (by assumption) ?nw117_4
        case hw117_4 => simp only [List.getElem?_toArray, List.getElem?_cons_succ, List.getElem?_cons_zero]; rfl
        case sw117_4 => rfl
        case yw117_4 => (intro w hSw; (try dsimp only at hSw); go_simp <;> with_reducible rfl)
        try simp only [Act.put, List.setIfInBounds_toArray, List.set_cons_zero, List.set_cons_succ]
        refine hR.take (i := 5) (oi := ?ow118_5) (v := ?vw118_5) (m' := 63) ?hw118_5 (by kernel_rfl) (by kernel_rfl) (fun _ _ _ h => h) (Or.inl ⟨?sw118_5, ?yw118_5⟩) (by assumption) ?nw118_5
        case hw118_5 => simp only [List.getElem?_toArray, List.getElem?_cons_succ, List.getElem?_cons_zero]; rfl
        case sw118_5 => rfl
        case yw118_5 => (intro w hSw; (try dsimp only at hSw); go_simp <;> with_reducible rfl)
        try simp only [Act.put, List.setIfInBounds_toArray, List.set_cons_zero, List.set_cons_succ]
        refine hR.take (i := 6) (oi := ?ow119_6) (v := ?vw119_6) (m' := 127) ?hw119_6 (by kernel_rfl) (by kernel_rfl) (fun _ _ _ h => h) (Or.inl ⟨?sw119_6, ?yw119_6⟩) (by assumption) ?nw119_6
        case hw119_6 => simp only [List.getElem?_toArray, List.getElem?_cons_succ, List.getElem?_cons_zero]; rfl
        case sw119_6 => rfl
        case yw119_6 => (intro w hSw; (try dsimp only at hSw); go_simp <;> with_reducible rfl)
        try simp only [Act.put, List.setIfInBounds_toArray, List.set_cons_zero, List.set_cons_succ]
        refine hR.come (rs := [7]) (by kernel_rfl) (by simp) ?_
        refine AllReadyH.cons (o := ?o120_7) ?h120_7 (fun K hK => ?kw120_7) AllReadyH.nil
        case h120_7 => simp only [List.getElem?_toArray, List.getElem?_cons_succ, List.getElem?_cons_zero]; rfl
        go_simp <;> (try go_wp2_with fail)
        refine hK.out _ _ ?_ (fun hHeld => ?_)
        · (first | (repeat' (first | with_reducible assumption | exact Nat.le_refl _ | with_reducible refine Below.setCell ?_ ?_ _ | with_reducible refine Below.drew ?_ | with_reducible refine ba _ _ ?_ | omega)) | (first | with_reducible assumption | (with_reducible refine Below.drew ?_; with_reducible assumption) | (with_reducible refine ba _ _ ?_; with_reducible assumption) | (with_reducible refine Below.drew ?_; with_reducible refine ba _ _ ?_; with_reducible assumption) | exact Below.refl _ _ | exact (Below.refl _ _).drew | exact (Below.refl _ _).alloc (Nat.le_refl _) _ | (refine bc _ _ (by assumption) (by assumption))))
        clear hK K
        refine RegOk.put_ (m' := 255) (by kernel_rfl) ?_
        try simp only [Act.put, List.setIfInBounds_toArray, List.set_cons_zero, List.set_cons_succ]
        refine hR.come (rs := [8]) (by kernel_rfl) (by simp) ?_
        refine AllReadyH.cons (o := ?o121_8) ?h121_8 (fun K hK => ?kw121_8) AllReadyH.nil
        case h121_8 => simp only [List.getElem?_toArray, List.getElem?_cons_succ, List.getElem?_cons_zero]; rfl
        go_simp <;> (try go_wp2_with fail)
        refine hK.out _ _ ?_ (fun hHeld => ?_)
        · (first | (repeat' (first | with_reducible assumption | exact Nat.le_refl _ | with_reducible refine Below.setCell ?_ ?_ _ | with_reducible refine Below.drew ?_ | with_reducible refine ba _ _ ?_ | omega)) | (first | with_reducible assumption | (with_reducible refine Below.drew ?_; with_reducible assumption) | (with_reducible refine ba _ _ ?_; with_reducible assumption) | (with_reducible refine Below.drew ?_; with_reducible refine ba _ _ ?_; with_reducible assumption) | exact Below.refl _ _ | exact (Below.refl _ _).drew | exact (Below.refl _ _).alloc (Nat.le_refl _) _ | (refine bc _ _ (by assumption) (by assumption))))
        clear hK K
        refine RegOk.put_ (m' := 511) (by kernel_rfl) ?_
        try simp only [Act.put, List.setIfInBounds_toArray, List.set_cons_zero, List.set_cons_succ]
        refine hR.take (i := 9) (oi := ?ow122_9) (v := ?vw122_9) (m' := 1023) ?hw122_9 (by kernel_rfl) (by kernel_rfl) (fun _ _ _ h => h) (Or.inl ⟨?sw122_9, ?yw122_9⟩) (by assumption) ?nw122_9
        case hw122_9 => simp only [List.getElem?_toArray, List.getElem?_cons_succ, List.getElem?_cons_zero]; rfl
        case sw122_9 => rfl
        case yw122_9 => (intro w hSw; (try dsimp only at hSw); go_simp <;> with_reducible rfl)
        try simp only [Act.put, List.setIfInBounds_toArray, List.set_cons_zero, List.set_cons_succ]
        refine hR.all (by kernel_rfl) ?_ _
        refine NoPanic.normal ?_
        go_wp2_with fail
        go_meet
        case rel =>
          refine ⟨_, rfl, rfl, ?_, by assumption⟩
          first
            | (with_reducible refine heap_alloc_at ?_; rfl)
            | (refine heap_set (i := 3) (heap_set (i := 2) (heap_set (i := 1) (heap_set (i := 0) (u := .string (kwF q.kind)) (cs := #[.string ⟨#[]⟩, .bool false, .int .i64 0, .int .i64 0]) ?_)))
               repeat' (first | (with_reducible refine heap_alloc_at ?_; first | rfl | (simp; done)) | with_reducible refine drew_get_ ?_ | with_reducible refine (hb1.block _ ?_).trans ?_ | with_reducible refine (Below.heap_alloc _ _ _ ?_).trans ?_ | (simp; done) | (simp; omega) | omega))
      case kw116_7 =>
        go_simp <;> (try go_wp2_with fail)
        refine hK.out _ _ ?_ (fun hHeld => ?_)
        · (first | (repeat' (first | with_reducible assumption | exact Nat.le_refl _ | with_reducible refine Below.setCell ?_ ?_ _ | with_reducible refine Below.drew ?_ | with_reducible refine ba _ _ ?_ | omega)) | (first | with_reducible assumption | (with_reducible refine Below.drew ?_; with_reducible assumption) | (with_reducible refine ba _ _ ?_; with_reducible assumption) | (with_reducible refine Below.drew ?_; with_reducible refine ba _ _ ?_; with_reducible assumption) | exact Below.refl _ _ | exact (Below.refl _ _).drew | exact (Below.refl _ _).alloc (Nat.le_refl _) _ | (refine bc _ _ (by assumption) (by assumption))))
        clear hK K
        refine RegOk.put_ (m' := 135) (by kernel_rfl) ?_
        try simp only [Act.put, List.setIfInBounds_toArray, List.set_cons_zero, List.set_cons_succ]
        refine hR.come (rs := [3]) (by kernel_rfl) (by simp) ?_
        refine AllReadyH.cons (o := ?o123_3) ?h123_3 (fun K hK => ?kw123_3) AllReadyH.nil
        case h123_3 => simp only [List.getElem?_toArray, List.getElem?_cons_succ, List.getElem?_cons_zero]; rfl
        refine step_lookup (by rfl) (by rfl) (by rfl) (by rfl) (forms_look (hM.below (by repeat' (first | exact Below.refl _ _ | with_reducible refine Below.drew ?_ | with_reducible refine Below.alloc ?_ (Nat.le_refl _) _))) q.kind) ?_
        refine hK.out _ _ ?_ (fun hHeld => ?_)
        · (first | (repeat' (first | with_reducible assumption | exact Nat.le_refl _ | with_reducible refine Below.setCell ?_ ?_ _ | with_reducible refine Below.drew ?_ | with_reducible refine ba _ _ ?_ | omega)) | (first | with_reducible assumption | (with_reducible refine Below.drew ?_; with_reducible assumption) | (with_reducible refine ba _ _ ?_; with_reducible assumption) | (with_reducible refine Below.drew ?_; with_reducible refine ba _ _ ?_; with_reducible assumption) | exact Below.refl _ _ | exact (Below.refl _ _).drew | exact (Below.refl _ _).alloc (Nat.le_refl _) _ | (refine bc _ _ (by assumption) (by assumption))))
        clear hK K
        refine RegOk.put_ (m' := 143) (by kernel_rfl) ?_
        try simp only [Act.put, List.setIfInBounds_toArray, List.set_cons_zero, List.set_cons_succ]
        refine hR.take (i := 4) (oi := ?ow124_4) (v := ?vw124_4) (m' := 159) ?hw124_4 (by kernel_rfl) (by kernel_rfl) (fun _ _ _ h => h) (Or.inl ⟨?sw124_4, ?yw124_4⟩) (by assumption) ?nw124_4
        case hw124_4 => simp only [List.getElem?_toArray, List.getElem?_cons_succ, List.getElem?_cons_zero]; rfl
        case sw124_4 => rfl
        case yw124_4 => (intro w hSw; (try dsimp only at hSw); go_simp <;> with_reducible rfl)
        try simp only [Act.put, List.setIfInBounds_toArray, List.set_cons_zero, List.set_cons_succ]
        refine hR.take (i := 5) (oi := ?ow125_5) (v := ?vw125_5) (m' := 191) ?hw125_5 (by kernel_rfl) (by kernel_rfl) (fun _ _ _ h => h) (Or.inl ⟨?sw125_5, ?yw125_5⟩) (by assumption) ?nw125_5
        case hw125_5 => simp only [List.getElem?_toArray, List.getElem?_cons_succ, List.getElem?_cons_zero]; rfl
        case sw125_5 => rfl
        case yw125_5 => (intro w hSw; (try dsimp only at hSw); go_simp <;> with_reducible rfl)
        try simp only [Act.put, List.setIfInBounds_toArray, List.set_cons_zero, List.set_cons_succ]
        refine hR.take (i := 6) (oi := ?ow126_6) (v := ?vw126_6) (m' := 255) ?hw126_6 (by kernel_rfl) (by kernel_rfl) (fun _ _ _ h => h) (Or.inl ⟨?sw126_6, ?yw126_6⟩) (by assumption) ?nw126_6
        case hw126_6 => simp only [List.getElem?_toArray, List.getElem?_cons_succ, List.getElem?_cons_zero]; rfl
        case sw126_6 => rfl
        case yw126_6 => (intro w hSw; (try dsimp only at hSw); go_simp <;> with_reducible rfl)
        try simp only [Act.put, List.setIfInBounds_toArray, List.set_cons_zero, List.set_cons_succ]
        refine hR.come (rs := [8]) (by kernel_rfl) (by simp) ?_
        refine AllReadyH.cons (o := ?o127_8) ?h127_8 (fun K hK => ?kw127_8) AllReadyH.nil
        case h127_8 => simp only [List.getElem?_toArray, List.getElem?_cons_succ, List.getElem?_cons_zero]; rfl
        go_simp <;> (try go_wp2_with fail)
        refine hK.out _ _ ?_ (fun hHeld => ?_)
        · (first | (repeat' (first | with_reducible assumption | exact Nat.le_refl _ | with_reducible refine Below.setCell ?_ ?_ _ | with_reducible refine Below.drew ?_ | with_reducible refine ba _ _ ?_ | omega)) | (first | with_reducible assumption | (with_reducible refine Below.drew ?_; with_reducible assumption) | (with_reducible refine ba _ _ ?_; with_reducible assumption) | (with_reducible refine Below.drew ?_; with_reducible refine ba _ _ ?_; with_reducible assumption) | exact Below.refl _ _ | exact (Below.refl _ _).drew | exact (Below.refl _ _).alloc (Nat.le_refl _) _ | (refine bc _ _ (by assumption) (by assumption))))
        clear hK K
        refine RegOk.put_ (m' := 511) (by kernel_rfl) ?_
        try simp only [Act.put, List.setIfInBounds_toArray, List.set_cons_zero, List.set_cons_succ]
        refine hR.take (i := 9) (oi := ?ow128_9) (v := ?vw128_9) (m' := 1023) ?hw128_9 (by kernel_rfl) (by kernel_rfl) (fun _ _ _ h => h) (Or.inl ⟨?sw128_9, ?yw128_9⟩) (by assumption) ?nw128_9
        case hw128_9 => simp only [List.getElem?_toArray, List.getElem?_cons_succ, List.getElem?_cons_zero]; rfl
        case sw128_9 => rfl
        case yw128_9 => (intro w hSw; (try dsimp only at hSw); go_simp <;> with_reducible rfl)
        try simp only [Act.put, List.setIfInBounds_toArray, List.set_cons_zero, List.set_cons_succ]
        refine hR.all (by kernel_rfl) ?_ _
        refine NoPanic.normal ?_
        go_wp2_with fail
        go_meet
        case rel =>
          refine ⟨_, rfl, rfl, ?_, by assumption⟩
          first
            | (with_reducible refine heap_alloc_at ?_; rfl)
            | (refine heap_set (i := 3) (heap_set (i := 2) (heap_set (i := 1) (heap_set (i := 0) (u := .string (kwF q.kind)) (cs := #[.string ⟨#[]⟩, .bool false, .int .i64 0, .int .i64 0]) ?_)))
               repeat' (first | (with_reducible refine heap_alloc_at ?_; first | rfl | (simp; done)) | with_reducible refine drew_get_ ?_ | with_reducible refine (hb1.block _ ?_).trans ?_ | with_reducible refine (Below.heap_alloc _ _ _ ?_).trans ?_ | (simp; done) | (simp; omega) | omega))
    case kw115_7 =>
      go_simp <;> (try go_wp2_with fail)
      refine hK.out _ _ ?_ (fun hHeld => ?_)
      · (first | (repeat' (first | with_reducible assumption | exact Nat.le_refl _ | with_reducible refine Below.setCell ?_ ?_ _ | with_reducible refine Below.drew ?_ | with_reducible refine ba _ _ ?_ | omega)) | (first | with_reducible assumption | (with_reducible refine Below.drew ?_; with_reducible assumption) | (with_reducible refine ba _ _ ?_; with_reducible assumption) | (with_reducible refine Below.drew ?_; with_reducible refine ba _ _ ?_; with_reducible assumption) | exact Below.refl _ _ | exact (Below.refl _ _).drew | exact (Below.refl _ _).alloc (Nat.le_refl _) _ | (refine bc _ _ (by assumption) (by assumption))))
      clear hK K
      refine RegOk.put_ (m' := 134) (by kernel_rfl) ?_
      try simp only [Act.put, List.setIfInBounds_toArray, List.set_cons_zero, List.set_cons_succ]
      refine hR.come (rs := [0]) (by kernel_rfl) (by simp) ?_
      refine AllReadyH.cons (o := ?o129_0) ?h129_0 (fun K hK => ?kw129_0) AllReadyH.nil
      case h129_0 => simp only [List.getElem?_toArray, List.getElem?_cons_succ, List.getElem?_cons_zero]; rfl
      go_simp
      go_at_call 31; refine (formsP _).mono ?_; rintro e w1 ⟨b, rfl, hbb, hM, hb1⟩; have hk := bc _ _ (by (first | with_reducible assumption | (with_reducible refine Below.drew ?_; with_reducible assumption) | (with_reducible refine ba _ _ ?_; with_reducible assumption) | (with_reducible refine Below.drew ?_; with_reducible refine ba _ _ ?_; with_reducible assumption) | exact Below.refl _ _ | exact (Below.refl _ _).drew | exact (Below.refl _ _).alloc (Nat.le_refl _) _ | (refine bc _ _ (by assumption) (by assumption)))) hb1; obtain ⟨hc1, hf1⟩ := bcell hb1; have hz1 := hb1.size; (try simp at hz1); (try have hl1 : wr.heap.size < w1.heap.size := (by omega))
      refine hK.out _ _ ?_ (fun hHeld => ?_)
      · (first | (repeat' (first | with_reducible assumption | exact Nat.le_refl _ | with_reducible refine Below.setCell ?_ ?_ _ | with_reducible refine Below.drew ?_ | with_reducible refine ba _ _ ?_ | omega)) | (first | with_reducible assumption | (with_reducible refine Below.drew ?_; with_reducible assumption) | (with_reducible refine ba _ _ ?_; with_reducible assumption) | (with_reducible refine Below.drew ?_; with_reducible refine ba _ _ ?_; with_reducible assumption) | exact Below.refl _ _ | exact (Below.refl _ _).drew | exact (Below.refl _ _).alloc (Nat.le_refl _) _ | (refine bc _ _ (by assumption) (by assumption))))
      clear hK K
      refine RegOk.put_ (m' := 135) (by kernel_rfl) ?_
      try simp only [Act.put, List.setIfInBounds_toArray, List.set_cons_zero, List.set_cons_succ]
      refine hR.come (rs := [3]) (by kernel_rfl) (by simp) ?_
      refine AllReadyH.cons (o := ?o130_3) ?h130_3 (fun K hK => ?kw130_3) AllReadyH.nil
      case h130_3 => simp only [List.getElem?_toArray, List.getElem?_cons_succ, List.getElem?_cons_zero]; rfl
      refine step_lookup (by rfl) (by rfl) (by rfl) (by rfl) (forms_look (hM.below (by repeat' (first | exact Below.refl _ _ | with_reducible refine Below.drew ?_ | with_reducible refine Below.alloc ?_ (Nat.le_refl _) _))) q.kind) ?_
      refine hK.out _ _ ?_ (fun hHeld => ?_)
      · (first | (repeat' (first | with_reducible assumption | exact Nat.le_refl _ | with_reducible refine Below.setCell ?_ ?_ _ | with_reducible refine Below.drew ?_ | with_reducible refine ba _ _ ?_ | omega)) | (first | with_reducible assumption | (with_reducible refine Below.drew ?_; with_reducible assumption) | (with_reducible refine ba _ _ ?_; with_reducible assumption) | (with_reducible refine Below.drew ?_; with_reducible refine ba _ _ ?_; with_reducible assumption) | exact Below.refl _ _ | exact (Below.refl _ _).drew | exact (Below.refl _ _).alloc (Nat.le_refl _) _ | (refine bc _ _ (by assumption) (by assumption))))
      clear hK K
      refine RegOk.put_ (m' := 143) (by kernel_rfl) ?_
      try simp only [Act.put, List.setIfInBounds_toArray, List.set_cons_zero, List.set_cons_succ]
      refine hR.take (i := 4) (oi := ?ow131_4) (v := ?vw131_4) (m' := 159) ?hw131_4 (by kernel_rfl) (by kernel_rfl) (fun _ _ _ h => h) (Or.inl ⟨?sw131_4, ?yw131_4⟩) (by assumption) ?nw131_4
      case hw131_4 => simp only [List.getElem?_toArray, List.getElem?_cons_succ, List.getElem?_cons_zero]; rfl
      case sw131_4 => rfl
      case yw131_4 => (intro w hSw; (try dsimp only at hSw); go_simp <;> with_reducible rfl)
      try simp only [Act.put, List.setIfInBounds_toArray, List.set_cons_zero, List.set_cons_succ]
      refine hR.take (i := 5) (oi := ?ow132_5) (v := ?vw132_5) (m' := 191) ?hw132_5 (by kernel_rfl) (by kernel_rfl) (fun _ _ _ h => h) (Or.inl ⟨?sw132_5, ?yw132_5⟩) (by assumption) ?nw132_5
      case hw132_5 => simp only [List.getElem?_toArray, List.getElem?_cons_succ, List.getElem?_cons_zero]; rfl
      case sw132_5 => rfl
      case yw132_5 => (intro w hSw; (try dsimp only at hSw); go_simp <;> with_reducible rfl)
      try simp only [Act.put, List.setIfInBounds_toArray, List.set_cons_zero, List.set_cons_succ]
      refine hR.take (i := 6) (oi := ?ow133_6) (v := ?vw133_6) (m' := 255) ?hw133_6 (by kernel_rfl) (by kernel_rfl) (fun _ _ _ h => h) (Or.inl ⟨?sw133_6, ?yw133_6⟩) (by assumption) ?nw133_6
      case hw133_6 => simp only [List.getElem?_toArray, List.getElem?_cons_succ, List.getElem?_cons_zero]; rfl
      case sw133_6 => rfl
      case yw133_6 => (intro w hSw; (try dsimp only at hSw); go_simp <;> with_reducible rfl)
      try simp only [Act.put, List.setIfInBounds_toArray, List.set_cons_zero, List.set_cons_succ]
      refine hR.come (rs := [8]) (by kernel_rfl) (by simp) ?_
      refine AllReadyH.cons (o := ?o134_8) ?h134_8 (fun K hK => ?kw134_8) AllReadyH.nil
      case h134_8 => simp only [List.getElem?_toArray, List.getElem?_cons_succ, List.getElem?_cons_zero]; rfl
      go_simp <;> (try go_wp2_with fail)
      refine hK.out _ _ ?_ (fun hHeld => ?_)
      · (first | (repeat' (first | with_reducible assumption | exact Nat.le_refl _ | with_reducible refine Below.setCell ?_ ?_ _ | with_reducible refine Below.drew ?_ | with_reducible refine ba _ _ ?_ | omega)) | (first | with_reducible assumption | (with_reducible refine Below.drew ?_; with_reducible assumption) | (with_reducible refine ba _ _ ?_; with_reducible assumption) | (with_reducible refine Below.drew ?_; with_reducible refine ba _ _ ?_; with_reducible assumption) | exact Below.refl _ _ | exact (Below.refl _ _).drew | exact (Below.refl _ _).alloc (Nat.le_refl _) _ | (refine bc _ _ (by assumption) (by assumption))))
      clear hK K
      refine RegOk.put_ (m' := 511) (by kernel_rfl) ?_
      try simp only [Act.put, List.setIfInBounds_toArray, List.set_cons_zero, List.set_cons_succ]
      refine hR.take (i := 9) (oi := ?ow135_9) (v := ?vw135_9) (m' := 1023) ?hw135_9 (by kernel_rfl) (by kernel_rfl) (fun _ _ _ h => h) (Or.inl ⟨?sw135_9, ?yw135_9⟩) (by assumption) ?nw135_9
      case hw135_9 => simp only [List.getElem?_toArray, List.getElem?_cons_succ, List.getElem?_cons_zero]; rfl
      case sw135_9 => rfl
      case yw135_9 => (intro w hSw; (try dsimp only at hSw); go_simp <;> with_reducible rfl)
      try simp only [Act.put, List.setIfInBounds_toArray, List.set_cons_zero, List.set_cons_succ]
      refine hR.all (by kernel_rfl) ?_ _
      refine NoPanic.normal ?_
      go_wp2_with fail
      go_meet
      case rel =>
        refine ⟨_, rfl, rfl, ?_, by assumption⟩
        first
          | (with_reducible refine heap_alloc_at ?_; rfl)
          | (refine heap_set (i := 3) (heap_set (i := 2) (heap_set (i := 1) (heap_set (i := 0) (u := .string (kwF q.kind)) (cs := #[.string ⟨#[]⟩, .bool false, .int .i64 0, .int .i64 0]) ?_)))
             repeat' (first | (with_reducible refine heap_alloc_at ?_; first | rfl | (simp; done)) | with_reducible refine drew_get_ ?_ | with_reducible refine (hb1.block _ ?_).trans ?_ | with_reducible refine (Below.heap_alloc _ _ _ ?_).trans ?_ | (simp; done) | (simp; omega) | omega))
  case rest =>
    obtain ⟨g3, rfl, rfl, g3h, bb⟩ := hcut
    have b1 := Lib.hid (b0.out.trans (bb.mono b0.out.size))
    replace H := Lib.hid (H.out.keep (Below.agree bb))
    replace gq := mvQ gq bb
    have gf := Lib.hid g3h
    clear bb g3h b0
    obtain ⟨wd, hwd⟩ : ∃ X, X = wc := ⟨wc, rfl⟩
    subst hwd
    obtain ⟨x0, x1, x2, x3⟩ := row4 gq
    obtain ⟨y0, y1, y2, y3⟩ := row4 gf
    have hm := H.out.max
    have lq := heap_lt gq.out
    have lf := heap_lt gf.out
    by_cases hk0 : 1 ≤ q.kind ∧ q.kind ≤ 7
    rotate_left
    · have hkn : knownB q.kind = false := decide_eq_false hk0
      have hv := Lib.hid (not_head (q := q) fun h => hk0 h.1)
      clear hk0
      (go_wp2_with fail; go_ret; exact ⟨ret_b hv.out.symm, b1.out⟩)
    have hkn : knownB q.kind = true := decide_eq_true hk0
    have hnf : nFormF q.kind = (nFilF q.kind : Nat) := by
      unfold nFormF nFilF
      split
      · rfl
      · rw [if_pos (by omega)]; rfl
    by_cases hln : q.fs.length = nFilF q.kind
    rotate_left
    · have hl1 : ((q.fs.length : Int) != nFormF q.kind) = true := by rw [hnf]; simp; omega
      have hv := Lib.hid (not_head (q := q) fun h => hln h.2.2.2.2.2.2)
      clear hk0 hln hnf
      (go_wp2_with fail; go_ret; exact ⟨ret_b hv.out.symm, b1.out⟩)
    have hl1 : ((q.fs.length : Int) != nFormF q.kind) = false := by rw [hnf]; simp [hln]
    obtain ⟨mk, hmk⟩ : ∃ mk, maxKF q.kind = mk := ⟨_, rfl⟩
    have hmk3 : (1 < mk ∧ (q.kind = 3 ∨ q.kind = 6)) ∨ (mk = 0 ∧ ¬ (q.kind = 3 ∨ q.kind = 6)) := by
      rw [← hmk]; unfold maxKF
      split
      · omega
      · split <;> omega
    obtain ⟨hc, hhc⟩ : ∃ hc, hasColB q.kind = hc := ⟨_, rfl⟩
    have hhc' : hc = true ↔ (2 ≤ q.kind ∧ q.kind ≤ 6) := by rw [← hhc]; simp [hasColB]
    rw [hmk] at y2
    rw [hhc] at y1
    have Hnf := Lib.hid hnf
    have Hmk := Lib.hid hmk
    have Hln := Lib.hid hln
    have Hhc := Lib.hid hhc'
    clear hnf hmk hln hhc hhc'
    rcases hmk3 with ⟨hmk1, hk36⟩ | ⟨hmk0, hk36⟩
    · by_cases hq1 : q.k < 1
      · have hv := Lib.hid (not_head (q := q) fun h => by have := h.2.2.2.2.2.1 hk36; omega)
        clear hk0 hk36
        (go_wp2_with fail; go_ret; exact ⟨ret_b hv.out.symm, b1.out⟩)
      · by_cases hq2 : mk < q.k
        · have hv := Lib.hid (not_head (q := q) fun h => by have := h.2.2.2.2.1; rw [Hmk.out] at this; omega)
          have hq3 : ¬ (q.k < 1) := hq1
          clear hk0 hk36
          (go_wp2_with fail; go_ret; exact ⟨ret_b hv.out.symm, b1.out⟩)
        · have hk : Hid (0 ≤ q.k ∧ q.k ≤ maxKF q.kind ∧ (q.kind = 3 ∨ q.kind = 6 → 1 ≤ q.k)) := Lib.hid (by rw [Hmk.out]; omega)
          have HK := Lib.hid hk0
          clear hk36 hk0
          have HR := hk.out
          cases hc with
          | true =>
            by_cases hcol : 0 ≤ q.col ∧ q.col ≤ 3
            · have hcb : colOkB q.col = true := decide_eq_true hcol
              have hd := Lib.hid (show HeadOk q from ⟨HK.out, hcol, .inr (Hhc.out.1 rfl), HR.1, HR.2.1, HR.2.2, Hln.out⟩)
              clear HR hcol
              go_wp2_with (go_at_call 48; refine (validColumnP _ _).mono ?_; rw [hcb]; rintro e w4 ⟨rfl, hb4⟩; have b4 := Lib.hid (b1.out.trans (hb4.mono b1.out.size)); have H4 := Lib.hid (H.out.keep (Below.agree hb4)); obtain ⟨hc4, hf4⟩ := bcell hb4; clear hb4)
              clear Hnf Hmk Hln Hhc hk HK gq gf x0 x1 x2 x3 y0 y1 y2 y3 b1 H
              go_loopw [60] (fun i wx => ∃ j : Nat, j ≤ q.fs.length ∧ i = .int .i64 j ∧ (q.fs.take j).all validFltB = true ∧ Below w.heap.size w wx ∧ Sl cdE.slice S wx A c q.fs) (fun i _ => q.fs.length - (intOf i).toNat)
              case atStart => exact ⟨0, Nat.zero_le _, rfl, rfl, b4.out, H4.out⟩
              case round =>
                obtain ⟨j, hj, rfl, ha, hb, hs⟩ := hrel
                have Ha := Lib.hid ha
                have Hb := Lib.hid hb
                have Hs := Lib.hid hs
                clear ha hb hs b4 H4
                have hj0 : (0 : Int) ≤ (j : Int) := by omega
                by_cases hlt : j < q.fs.length
                · have hj1 : (j : Int) < (q.fs.length : Int) := by omega
                  obtain ⟨l, hl⟩ : ∃ l, q.fs[j]? = some l := ⟨_, List.getElem?_eq_getElem hlt⟩
                  obtain ⟨b5, o5, B5, d5, rfl, -, l5, z5, hs5⟩ := flt_at Hs.out hl
                  have Hs5 := Lib.hid hs5
                  have Hl := Lib.hid hl
                  have hn : (q.fs.take (j + 1)).all validFltB = ((q.fs.take j).all validFltB && validFltB l) := by rw [take_snocR hl]; simp
                  have Hn := Lib.hid hn
                  have hml := hs5.max
                  clear hl hs5 hn
                  by_cases h3 : l.length ≤ 3
                  · have h3' : ¬ (3 < (l.length : Int)) := by omega
                    cases hbf : badFlt l with
                    | false =>
                      have hvl := Lib.hid (show validFltB l = true by rw [badFlt_valid] at hbf; unfold validFltB; rw [decide_eq_true h3]; simpa using hbf)
                      go_wp2_with (go_at_call 49; refine (containsC (l := l) _ Hs5.out).mono ?_; rw [hbf]; rintro e w6 ⟨rfl, hb6⟩)
                      go_roundw
                      case rel => exact ⟨j + 1, by omega, by go_num, by rw [Hn.out, Ha.out, hvl.out]; rfl, Hb.out.trans (hb6.mono Hb.out.size), Hs.out.keep (Below.agree hb6)⟩
                      case measure => simp [intOf]; omega
                    | true =>
                      have hvl := Lib.hid (show validFltB l = false by rw [badFlt_valid] at hbf; unfold validFltB; rw [decide_eq_true h3]; simpa using hbf)
                      go_wp2_with (go_at_call 49; refine (containsC (l := l) _ Hs5.out).mono ?_; rw [hbf]; rintro e w6 ⟨rfl, hb6⟩)
                      go_ret
                      exact ⟨ret_b (not_flt (List.mem_of_getElem? Hl.out) hvl.out).symm, Hb.out.trans (hb6.mono Hb.out.size)⟩
                  · have h3' : (3 < (l.length : Int)) := by omega
                    have hvl := Lib.hid (show validFltB l = false by unfold validFltB; rw [decide_eq_false h3]; rfl)
                    go_wp2_with fail
                    go_ret
                    exact ⟨ret_b (not_flt (List.mem_of_getElem? Hl.out) hvl.out).symm, Hb.out⟩
                · have hj1 : ¬ (j : Int) < (q.fs.length : Int) := by omega
                  go_wp2_with fail
                  go_ret
                  refine ⟨ret_b ?_, Hb.out⟩
                  have := Ha.out
                  rw [List.take_of_length_le (by omega)] at this
                  unfold validQB
                  rw [decide_eq_true hd.out, this]; rfl
            · have hcb : colOkB q.col = false := decide_eq_false hcol
              have hv := Lib.hid (not_head (q := q) fun h => hcol h.2.1)
              clear HR hcol
              go_wp2_with (go_at_call 48; refine (validColumnP _ _).mono ?_; rw [hcb]; rintro e w4 ⟨rfl, hb4⟩; have b4 := Lib.hid (b1.out.trans (hb4.mono b1.out.size)); clear hb4)
              go_ret
              exact ⟨ret_b hv.out.symm, b4.out⟩
          | false =>
            by_cases hcol : q.col = 0
            · have hq5 : (q.col != 0) = false := by simp [hcol]
              have hd := Lib.hid (show HeadOk q from ⟨HK.out, by omega, .inl hcol, HR.1, HR.2.1, HR.2.2, Hln.out⟩)
              have b4 := b1
              have H4 := H
              clear HR hcol
              go_wp2_with fail
              clear Hnf Hmk Hln Hhc hk HK gq gf x0 x1 x2 x3 y0 y1 y2 y3 b1 H
              go_loopw [60] (fun i wx => ∃ j : Nat, j ≤ q.fs.length ∧ i = .int .i64 j ∧ (q.fs.take j).all validFltB = true ∧ Below w.heap.size w wx ∧ Sl cdE.slice S wx A c q.fs) (fun i _ => q.fs.length - (intOf i).toNat)
              case atStart => exact ⟨0, Nat.zero_le _, rfl, rfl, b4.out, H4.out⟩
              case round =>
                obtain ⟨j, hj, rfl, ha, hb, hs⟩ := hrel
                have Ha := Lib.hid ha
                have Hb := Lib.hid hb
                have Hs := Lib.hid hs
                clear ha hb hs b4 H4
                have hj0 : (0 : Int) ≤ (j : Int) := by omega
                by_cases hlt : j < q.fs.length
                · have hj1 : (j : Int) < (q.fs.length : Int) := by omega
                  obtain ⟨l, hl⟩ : ∃ l, q.fs[j]? = some l := ⟨_, List.getElem?_eq_getElem hlt⟩
                  obtain ⟨b5, o5, B5, d5, rfl, -, l5, z5, hs5⟩ := flt_at Hs.out hl
                  have Hs5 := Lib.hid hs5
                  have Hl := Lib.hid hl
                  have hn : (q.fs.take (j + 1)).all validFltB = ((q.fs.take j).all validFltB && validFltB l) := by rw [take_snocR hl]; simp
                  have Hn := Lib.hid hn
                  have hml := hs5.max
                  clear hl hs5 hn
                  by_cases h3 : l.length ≤ 3
                  · have h3' : ¬ (3 < (l.length : Int)) := by omega
                    cases hbf : badFlt l with
                    | false =>
                      have hvl := Lib.hid (show validFltB l = true by rw [badFlt_valid] at hbf; unfold validFltB; rw [decide_eq_true h3]; simpa using hbf)
                      go_wp2_with (go_at_call 49; refine (containsC (l := l) _ Hs5.out).mono ?_; rw [hbf]; rintro e w6 ⟨rfl, hb6⟩)
                      go_roundw
                      case rel => exact ⟨j + 1, by omega, by go_num, by rw [Hn.out, Ha.out, hvl.out]; rfl, Hb.out.trans (hb6.mono Hb.out.size), Hs.out.keep (Below.agree hb6)⟩
                      case measure => simp [intOf]; omega
                    | true =>
                      have hvl := Lib.hid (show validFltB l = false by rw [badFlt_valid] at hbf; unfold validFltB; rw [decide_eq_true h3]; simpa using hbf)
                      go_wp2_with (go_at_call 49; refine (containsC (l := l) _ Hs5.out).mono ?_; rw [hbf]; rintro e w6 ⟨rfl, hb6⟩)
                      go_ret
                      exact ⟨ret_b (not_flt (List.mem_of_getElem? Hl.out) hvl.out).symm, Hb.out.trans (hb6.mono Hb.out.size)⟩
                  · have h3' : (3 < (l.length : Int)) := by omega
                    have hvl := Lib.hid (show validFltB l = false by unfold validFltB; rw [decide_eq_false h3]; rfl)
                    go_wp2_with fail
                    go_ret
                    exact ⟨ret_b (not_flt (List.mem_of_getElem? Hl.out) hvl.out).symm, Hb.out⟩
                · have hj1 : ¬ (j : Int) < (q.fs.length : Int) := by omega
                  go_wp2_with fail
                  go_ret
                  refine ⟨ret_b ?_, Hb.out⟩
                  have := Ha.out
                  rw [List.take_of_length_le (by omega)] at this
                  unfold validQB
                  rw [decide_eq_true hd.out, this]; rfl
            · have hq5 : (q.col != 0) = true := by simp [hcol]
              have hv := Lib.hid (not_head (q := q) fun h => by
                rcases h.2.2.1 with h | h
                · exact hcol h
                · have := Hhc.out.2 h; cases this)
              clear HR hcol
              (go_wp2_with fail; go_ret; exact ⟨ret_b hv.out.symm, b1.out⟩)
    · subst hmk0
      by_cases hq1 : q.k < 0
      · have hv := Lib.hid (not_head (q := q) fun h => by have := h.2.2.2.1; omega)
        clear hk0 hk36
        (go_wp2_with fail; go_ret; exact ⟨ret_b hv.out.symm, b1.out⟩)
      · by_cases hq2 : 0 < q.k
        · have hv := Lib.hid (not_head (q := q) fun h => by have := h.2.2.2.2.1; rw [Hmk.out] at this; omega)
          clear hk0 hk36
          (go_wp2_with fail; go_ret; exact ⟨ret_b hv.out.symm, b1.out⟩)
        · have hk : Hid (0 ≤ q.k ∧ q.k ≤ maxKF q.kind ∧ (q.kind = 3 ∨ q.kind = 6 → 1 ≤ q.k)) := Lib.hid (by rw [Hmk.out]; omega)
          have HK := Lib.hid hk0
          clear hk36 hk0
          have HR := hk.out
          cases hc with
          | true =>
            by_cases hcol : 0 ≤ q.col ∧ q.col ≤ 3
            · have hcb : colOkB q.col = true := decide_eq_true hcol
              have hd := Lib.hid (show HeadOk q from ⟨HK.out, hcol, .inr (Hhc.out.1 rfl), HR.1, HR.2.1, HR.2.2, Hln.out⟩)
              clear HR hcol
              go_wp2_with (go_at_call 48; refine (validColumnP _ _).mono ?_; rw [hcb]; rintro e w4 ⟨rfl, hb4⟩; have b4 := Lib.hid (b1.out.trans (hb4.mono b1.out.size)); have H4 := Lib.hid (H.out.keep (Below.agree hb4)); obtain ⟨hc4, hf4⟩ := bcell hb4; clear hb4)
              clear Hnf Hmk Hln Hhc hk HK gq gf x0 x1 x2 x3 y0 y1 y2 y3 b1 H
              go_loopw [60] (fun i wx => ∃ j : Nat, j ≤ q.fs.length ∧ i = .int .i64 j ∧ (q.fs.take j).all validFltB = true ∧ Below w.heap.size w wx ∧ Sl cdE.slice S wx A c q.fs) (fun i _ => q.fs.length - (intOf i).toNat)
              case atStart => exact ⟨0, Nat.zero_le _, rfl, rfl, b4.out, H4.out⟩
              case round =>
                obtain ⟨j, hj, rfl, ha, hb, hs⟩ := hrel
                have Ha := Lib.hid ha
                have Hb := Lib.hid hb
                have Hs := Lib.hid hs
                clear ha hb hs b4 H4
                have hj0 : (0 : Int) ≤ (j : Int) := by omega
                by_cases hlt : j < q.fs.length
                · have hj1 : (j : Int) < (q.fs.length : Int) := by omega
                  obtain ⟨l, hl⟩ : ∃ l, q.fs[j]? = some l := ⟨_, List.getElem?_eq_getElem hlt⟩
                  obtain ⟨b5, o5, B5, d5, rfl, -, l5, z5, hs5⟩ := flt_at Hs.out hl
                  have Hs5 := Lib.hid hs5
                  have Hl := Lib.hid hl
                  have hn : (q.fs.take (j + 1)).all validFltB = ((q.fs.take j).all validFltB && validFltB l) := by rw [take_snocR hl]; simp
                  have Hn := Lib.hid hn
                  have hml := hs5.max
                  clear hl hs5 hn
                  by_cases h3 : l.length ≤ 3
                  · have h3' : ¬ (3 < (l.length : Int)) := by omega
                    cases hbf : badFlt l with
                    | false =>
                      have hvl := Lib.hid (show validFltB l = true by rw [badFlt_valid] at hbf; unfold validFltB; rw [decide_eq_true h3]; simpa using hbf)
                      go_wp2_with (go_at_call 49; refine (containsC (l := l) _ Hs5.out).mono ?_; rw [hbf]; rintro e w6 ⟨rfl, hb6⟩)
                      go_roundw
                      case rel => exact ⟨j + 1, by omega, by go_num, by rw [Hn.out, Ha.out, hvl.out]; rfl, Hb.out.trans (hb6.mono Hb.out.size), Hs.out.keep (Below.agree hb6)⟩
                      case measure => simp [intOf]; omega
                    | true =>
                      have hvl := Lib.hid (show validFltB l = false by rw [badFlt_valid] at hbf; unfold validFltB; rw [decide_eq_true h3]; simpa using hbf)
                      go_wp2_with (go_at_call 49; refine (containsC (l := l) _ Hs5.out).mono ?_; rw [hbf]; rintro e w6 ⟨rfl, hb6⟩)
                      go_ret
                      exact ⟨ret_b (not_flt (List.mem_of_getElem? Hl.out) hvl.out).symm, Hb.out.trans (hb6.mono Hb.out.size)⟩
                  · have h3' : (3 < (l.length : Int)) := by omega
                    have hvl := Lib.hid (show validFltB l = false by unfold validFltB; rw [decide_eq_false h3]; rfl)
                    go_wp2_with fail
                    go_ret
                    exact ⟨ret_b (not_flt (List.mem_of_getElem? Hl.out) hvl.out).symm, Hb.out⟩
                · have hj1 : ¬ (j : Int) < (q.fs.length : Int) := by omega
                  go_wp2_with fail
                  go_ret
                  refine ⟨ret_b ?_, Hb.out⟩
                  have := Ha.out
                  rw [List.take_of_length_le (by omega)] at this
                  unfold validQB
                  rw [decide_eq_true hd.out, this]; rfl
            · have hcb : colOkB q.col = false := decide_eq_false hcol
              have hv := Lib.hid (not_head (q := q) fun h => hcol h.2.1)
              clear HR hcol
              go_wp2_with (go_at_call 48; refine (validColumnP _ _).mono ?_; rw [hcb]; rintro e w4 ⟨rfl, hb4⟩; have b4 := Lib.hid (b1.out.trans (hb4.mono b1.out.size)); clear hb4)
              go_ret
              exact ⟨ret_b hv.out.symm, b4.out⟩
          | false =>
            by_cases hcol : q.col = 0
            · have hq5 : (q.col != 0) = false := by simp [hcol]
              have hd := Lib.hid (show HeadOk q from ⟨HK.out, by omega, .inl hcol, HR.1, HR.2.1, HR.2.2, Hln.out⟩)
              have b4 := b1
              have H4 := H
              clear HR hcol
              go_wp2_with fail
              clear Hnf Hmk Hln Hhc hk HK gq gf x0 x1 x2 x3 y0 y1 y2 y3 b1 H
              go_loopw [60] (fun i wx => ∃ j : Nat, j ≤ q.fs.length ∧ i = .int .i64 j ∧ (q.fs.take j).all validFltB = true ∧ Below w.heap.size w wx ∧ Sl cdE.slice S wx A c q.fs) (fun i _ => q.fs.length - (intOf i).toNat)
              case atStart => exact ⟨0, Nat.zero_le _, rfl, rfl, b4.out, H4.out⟩
              case round =>
                obtain ⟨j, hj, rfl, ha, hb, hs⟩ := hrel
                have Ha := Lib.hid ha
                have Hb := Lib.hid hb
                have Hs := Lib.hid hs
                clear ha hb hs b4 H4
                have hj0 : (0 : Int) ≤ (j : Int) := by omega
                by_cases hlt : j < q.fs.length
                · have hj1 : (j : Int) < (q.fs.length : Int) := by omega
                  obtain ⟨l, hl⟩ : ∃ l, q.fs[j]? = some l := ⟨_, List.getElem?_eq_getElem hlt⟩
                  obtain ⟨b5, o5, B5, d5, rfl, -, l5, z5, hs5⟩ := flt_at Hs.out hl
                  have Hs5 := Lib.hid hs5
                  have Hl := Lib.hid hl
                  have hn : (q.fs.take (j + 1)).all validFltB = ((q.fs.take j).all validFltB && validFltB l) := by rw [take_snocR hl]; simp
                  have Hn := Lib.hid hn
                  have hml := hs5.max
                  clear hl hs5 hn
                  by_cases h3 : l.length ≤ 3
                  · have h3' : ¬ (3 < (l.length : Int)) := by omega
                    cases hbf : badFlt l with
                    | false =>
                      have hvl := Lib.hid (show validFltB l = true by rw [badFlt_valid] at hbf; unfold validFltB; rw [decide_eq_true h3]; simpa using hbf)
                      go_wp2_with (go_at_call 49; refine (containsC (l := l) _ Hs5.out).mono ?_; rw [hbf]; rintro e w6 ⟨rfl, hb6⟩)
                      go_roundw
                      case rel => exact ⟨j + 1, by omega, by go_num, by rw [Hn.out, Ha.out, hvl.out]; rfl, Hb.out.trans (hb6.mono Hb.out.size), Hs.out.keep (Below.agree hb6)⟩
                      case measure => simp [intOf]; omega
                    | true =>
                      have hvl := Lib.hid (show validFltB l = false by rw [badFlt_valid] at hbf; unfold validFltB; rw [decide_eq_true h3]; simpa using hbf)
                      go_wp2_with (go_at_call 49; refine (containsC (l := l) _ Hs5.out).mono ?_; rw [hbf]; rintro e w6 ⟨rfl, hb6⟩)
                      go_ret
                      exact ⟨ret_b (not_flt (List.mem_of_getElem? Hl.out) hvl.out).symm, Hb.out.trans (hb6.mono Hb.out.size)⟩
                  · have h3' : (3 < (l.length : Int)) := by omega
                    have hvl := Lib.hid (show validFltB l = false by unfold validFltB; rw [decide_eq_false h3]; rfl)
                    go_wp2_with fail
                    go_ret
                    exact ⟨ret_b (not_flt (List.mem_of_getElem? Hl.out) hvl.out).symm, Hb.out⟩
                · have hj1 : ¬ (j : Int) < (q.fs.length : Int) := by omega
                  go_wp2_with fail
                  go_ret
                  refine ⟨ret_b ?_, Hb.out⟩
                  have := Ha.out
                  rw [List.take_of_length_le (by omega)] at this
                  unfold validQB
                  rw [decide_eq_true hd.out, this]; rfl
            · have hq5 : (q.col != 0) = true := by simp [hcol]
              have hv := Lib.hid (not_head (q := q) fun h => by
                rcases h.2.2.1 with h | h
                · exact hcol h
                · have := Hhc.out.2 h; cases this)
              clear HR hcol
              (go_wp2_with fail; go_ret; exact ⟨ret_b hv.out.symm, b1.out⟩)
end Go.Proofs.YtagadbdbbglddaaGreatDoor
