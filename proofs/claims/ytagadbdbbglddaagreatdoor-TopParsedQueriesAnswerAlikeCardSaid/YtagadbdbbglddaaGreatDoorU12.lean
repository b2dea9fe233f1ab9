/-
  Texts of this claim, merged: Q14, Q17. Conditions: as each theorem says.
-/
import Derived.Laws.EntriesVeiled
import Derived.Test.YtagadbdbbglddaaGreatDoorU1
import Derived.Test.YtagadbdbbglddaaGreatDoorU2
import Derived.Test.YtagadbdbbglddaaGreatDoorU3
import Derived.Test.YtagadbdbbglddaaGreatDoorU4
import Derived.Test.YtagadbdbbglddaaGreatDoorU5
import Derived.Test.YtagadbdbbglddaaGreatDoorU6
import Derived.Test.YtagadbdbbglddaaGreatDoorU7
import Derived.Test.YtagadbdbbglddaaGreatDoorU10
import Derived.Test.YtagadbdbbglddaaGreatDoorU11
import Derived.Test.YtagadbdbbglddaaGreatDoorU8
import Derived.Test.YtagadbdbbglddaaGreatDoorU9
set_option linter.unusedSimpArgs false
set_option linter.unusedVariables false
namespace Go.Proofs.YtagadbdbbglddaaGreatDoor
open Go.RowKit

theorem bound_mom {q : Qy} {rows : Int} (h : q.kind ≤ 3) : boundF q rows = momF (fl q 0) q.col rows (expF q) := by unfold boundF momF; rw [if_pos h]
theorem bound_cnt {q : Qy} {rows : Int} (h : 4 ≤ q.kind) (h6 : q.kind ≤ 6) : boundF q rows = (bucketsF (fl q 0) q.col rows, true) := by unfold boundF; rw [if_neg (by omega), if_pos h6]
theorem bound_pair {q : Qy} {rows : Int} (h : q.kind = 7) (h2 : q.fs.length = 2) : boundF q rows = (pairT q rows q.fs.length, true) := by
  unfold boundF pairT fl
  rw [if_neg (by omega), if_neg (by omega), List.take_length]
  obtain ⟨kind, col, k, fs⟩ := q
  dsimp only at h2
  match fs, h2 with
  | [a, b], _ => simp
/-- Bounds and the number of an error. -/
def CheckRes (w : World) (p : List Int × Int) (e : Ending) (w' : World) : Prop :=
  ∃ B d, e = .returned (.tuple #[.agg #[.slice B p.1.length d], .int .i64 p.2]) ∧ Sl .i64 (fun b => w.heap.size ≤ b) w' B d p.1 ∧ Below w.heap.size w w'
theorem one {W : World} {g : Nat} {u : Value} {t : TypeId} (h : Hid (W.heap[g]? = some (.cells #[u] t (0, 0)))) : W.cell? ⟨g, 0, none⟩ = some u ∧ W.frozen? ⟨g, 0, none⟩ = false ∧ g < W.heap.size :=
  ⟨cell_of_row _ _ 0 _ _ _ h.out, by simp [World.frozen?, h.out], heap_lt h.out⟩
def bF (k : Int) : FuncId := if k ≤ 3 then 86 else if k ≤ 6 then 56 else 57
def bC (b1 b2 b3 : Nat) (k : Int) : Array Value := if k = 1 then #[.pointer (some ⟨b1, 0, none⟩)] else if k = 2 then #[.pointer (some ⟨b2, 0, none⟩)] else if k = 3 then #[.pointer (some ⟨b3, 0, none⟩)] else #[]
theorem kinds_look2 {W : World} {b b1 b2 b3 : Nat} (h : MapIs W b (kindsE b1 b2 b3)) {k : Int} (h1 : 1 ≤ k) (h7 : k ≤ 7) : (Instr.lookup 67 (.map (some b)) (.int .i64 k) false).run Tryz.prog W = .ok (.agg #[.int .i64 (sumsC k), .bool (narrowF k), .func (.func (bF k)) #[] (bC b1 b2 b3 k)]) W := by
  have e : boundV b1 b2 b3 k = .func (.func (bF k)) #[] (bC b1 b2 b3 k) := by
    rcases (by omega : k = 1 ∨ k = 2 ∨ k = 3 ∨ k = 4 ∨ k = 5 ∨ k = 6 ∨ k = 7) with rfl | rfl | rfl | rfl | rfl | rfl | rfl <;> rfl
  rw [← e]
  exact kinds_look h k
def q14A : List FRow := [(0, ([], (22, []))), (1, ([], (23, [2]))), (2, ([1], (24, [22]))), (3, ([0, 2], (25, [21, 23]))), (4, ([], (7, []))), (5, ([4, 3, 0, 0, 1, 2, 3, 4], (0, [6, 24])))]
set_option maxRecDepth 100000 in
set_option maxHeartbeats 8000000 in
theorem checkP {q : Qy} {A : Option Addr} {c : Nat} {S : Nat → Prop} {p : List Int × Int} (rows : Int) (w : World) (hw : WidOk w) (h : Sl cdE.slice S w A c q.fs) (hp : checkTF q rows = p) :
    Calls Tryz.prog 8 #[(.agg #[.int .i64 q.kind, .int .i64 q.col, .int .i64 q.k, .slice A q.fs.length c]), .int .i64 rows] w (CheckRes w p) := by
  have H := Lib.hid h
  have HW := Lib.hid hw
  have HP := Lib.hid hp
  clear h hw hp
  go_enter Tryz.func8, Tryz.ntmps8
  go_upto_region 1 with fail
  refine wp_world (F := fun wx => Below w.heap.size w wx ∧ Hid (wx.heap[w.heap.size]? = some (.cells #[.int .i64 q.kind, .int .i64 q.col, .int .i64 q.k, .slice A q.fs.length c] 24 (0, 0))) ∧ Hid (wx.heap[w.heap.size + 1]? = some (.cells #[.slice none 0 0] 35 (0, 0)))) ⟨(by repeat' (first | with_reducible exact Below.refl _ _ | with_reducible assumption | with_reducible refine Below.setCell ?_ ?_ _ | with_reducible refine Below.drew ?_ | with_reducible refine below_drewN ?_ _ | with_reducible refine Below.alloc ?_ ?_ _ | (rintro _ ⟨⟩; simp <;> omega) | omega | (simp <;> omega))), Lib.hid ((Below.heap_alloc _ _ _ (by simp)).trans (heap_alloc_at rfl)), Lib.hid (heap_alloc_at (by simp))⟩ ?_
  rintro w1 ⟨bb, gq, gr⟩
  have b0 := Lib.hid bb
  have H1 := Lib.hid (H.out.keep (Below.agree bb))
  have HW1 := mvW HW bb
  obtain ⟨x0, x1, x2, x3⟩ := row4 gq
  clear bb H HW
  cases hv : validQB q with
  | false =>
    have hno := Lib.hid (show checkTF q rows = ([], 1) by unfold checkTF; rw [if_neg (by rw [hv]; simp)])
    go_wp2_with (go_at_call 22; refine (validP (q := q) _ H1.out).mono ?_; rw [hv]; rintro e w2 ⟨rfl, hb2⟩; have b2 := Lib.hid (b0.out.trans (hb2.mono b0.out.size)); have gr2 := mvQ gr hb2; obtain ⟨r0, rf, lr⟩ := one gr2)
    exact bodyPost_ret (v := .tuple #[.agg #[.slice none 0 0], .int .i64 1]) (by simp [results, Tryz.results8, go_sem, *]) rfl ⟨none, 0, by rw [← HP.out, hno.out]; rfl, by rw [← HP.out, hno.out]; exact Sl.nil_ _ _ _ _ (Nat.zero_le _), b2.out.setCell (by simp) _⟩
  | true =>
    by_cases hr0 : rows < 0
    · have hno := Lib.hid (show checkTF q rows = ([], 1) by unfold checkTF; rw [if_neg (fun h => by omega)])
      go_wp2_with (go_at_call 22; refine (validP (q := q) _ H1.out).mono ?_; rw [hv]; rintro e w2 ⟨rfl, hb2⟩; have b2 := Lib.hid (b0.out.trans (hb2.mono b0.out.size)); have gr2 := mvQ gr hb2; have gq2 := mvQ gq hb2; have H2 := Lib.hid (H1.out.keep (Below.agree hb2)); have HW2 := mvW HW1 hb2; obtain ⟨r0, rf, lr⟩ := one gr2)
      exact bodyPost_ret (v := .tuple #[.agg #[.slice none 0 0], .int .i64 1]) (by simp [results, Tryz.results8, go_sem, *]) rfl ⟨none, 0, by rw [← HP.out, hno.out]; rfl, by rw [← HP.out, hno.out]; exact Sl.nil_ _ _ _ _ (Nat.zero_le _), b2.out.setCell (by simp) _⟩
    have fr0 : decide (rows < 0) = false := decide_eq_false hr0
    by_cases hr1 : 65536 < rows
    · have hno := Lib.hid (show checkTF q rows = ([], 1) by unfold checkTF; rw [if_neg (fun h => by omega)])
      go_wp2_with (go_at_call 22; refine (validP (q := q) _ H1.out).mono ?_; rw [hv]; rintro e w2 ⟨rfl, hb2⟩; have b2 := Lib.hid (b0.out.trans (hb2.mono b0.out.size)); have gr2 := mvQ gr hb2; have gq2 := mvQ gq hb2; have H2 := Lib.hid (H1.out.keep (Below.agree hb2)); have HW2 := mvW HW1 hb2; obtain ⟨r0, rf, lr⟩ := one gr2)
      exact bodyPost_ret (v := .tuple #[.agg #[.slice none 0 0], .int .i64 1]) (by simp [results, Tryz.results8, go_sem, *]) rfl ⟨none, 0, by rw [← HP.out, hno.out]; rfl, by rw [← HP.out, hno.out]; exact Sl.nil_ _ _ _ _ (Nat.zero_le _), b2.out.setCell (by simp) _⟩
    have fr1 : decide (65536 < rows) = false := decide_eq_false hr1
    have hch : checkTF q rows = (if wideB q then ([], 140) else if (boundF q rows).2 then ((boundF q rows).1, 0) else ([], 141)) := by unfold checkTF; rw [if_pos ⟨hv, by omega, by omega⟩]
    have HCH := Lib.hid hch
    have HV := Lib.hid ((validQB_iff q).1 hv)
    obtain ⟨n, hn⟩ : ∃ n : Nat, rows = n := ⟨rows.toNat, by omega⟩
    have hn6 : n ≤ 65536 := by omega
    subst hn
    have hk1 := HV.out.head.1.1
    have hk7 := HV.out.head.1.2
    clear hch
    go_upto_region 3 with (go_at_call 22; refine (validP (q := q) _ H1.out).mono ?_; rw [hv]; rintro e w2 ⟨rfl, hb2⟩; have b2 := Lib.hid (b0.out.trans (hb2.mono b0.out.size)); have gr2 := mvQ gr hb2; have gq2 := mvQ gq hb2; have H2 := Lib.hid (H1.out.keep (Below.agree hb2)); have HW2 := mvW HW1 hb2; obtain ⟨r0, rf, lr⟩ := one gr2)
    clear hb2 gr gq H1 HW1 b0 x0 x1 x2 x3 r0 rf lr hr0 hr1 fr0 fr1
    go_cut [6] (fun p wx => ∃ g b1 b2 b3, p = .pointer (some ⟨g, 0, none⟩) ∧ wx.heap[g]? = some (.cells #[.int .i64 (sumsC q.kind), .bool (narrowF q.kind), .func (.func (bF q.kind)) #[] (bC b1 b2 b3 q.kind)] 66 (0, 0)) ∧ wx.heap[b1]? = some (.cells #[.func (.func 53) #[] #[]] 40 (0, 0)) ∧ wx.heap[b2]? = some (.cells #[.func (.func 54) #[] #[]] 40 (0, 0)) ∧ wx.heap[b3]? = some (.cells #[.func (.func 55) #[] #[]] 40 (0, 0)) ∧ Below w2.heap.size w2 wx)
    case first =>
      have zq : ∀ W, Below w2.heap.size w2 W → _ ∧ _ ∧ _ ∧ _ := fun W hW => row4 (mvQ gq2 hW)
      have br : Below w2.heap.size w2 w2 := Below.refl _ _
      have ba : ∀ W o, Below w2.heap.size w2 W → Below w2.heap.size w2 (W.alloc o) := fun W o h => h.alloc h.size o
      have bc : ∀ W W', Below w2.heap.size w2 W → Below W.heap.size W W' → Below w2.heap.size w2 W' := fun W W' h k => h.trans (k.mono h.size)
      refine wp_region_noPanic ?_
      refine wp_region_held_drew (S := fun X => Below w2.heap.size w2 X) (by kernel_rfl) ?_ (fun hHeld => ?_)
      · (first | (repeat' (first | with_reducible assumption | exact Nat.le_refl _ | with_reducible refine Below.setCell ?_ ?_ _ | with_reducible refine Below.drew ?_ | with_reducible refine ba _ _ ?_ | omega)) | (first | with_reducible assumption | (with_reducible refine Below.drew ?_; with_reducible assumption) | (with_reducible refine ba _ _ ?_; with_reducible assumption) | (with_reducible refine Below.drew ?_; with_reducible refine ba _ _ ?_; with_reducible assumption) | exact Below.refl _ _ | exact (Below.refl _ _).drew | exact (Below.refl _ _).alloc (Nat.le_refl _) _ | (refine bc _ _ (by assumption) (by assumption))))
      refine RegOk.begin_ (n := 6) (T := q14A) ⟨by kernel_rfl, by kernel_rfl, by kernel_rfl, by kernel_rfl⟩ fun hR => ?_
      refine hR.take (i := 1) (oi := ?ow600_1) (v := ?vw600_1) (m' := 2) ?hw600_1 (by kernel_rfl) (by kernel_rfl) (fun _ _ _ h => h) (Or.inl ⟨?sw600_1, ?yw600_1⟩) (by assumption) ?nw600_1
      case hw600_1 => simp only [List.getElem?_toArray, List.getElem?_cons_succ, List.getElem?_cons_zero]; rfl
      case sw600_1 => rfl
      case yw600_1 => (intro w hSw; (try dsimp only at hSw); go_simp <;> with_reducible rfl)
      try simp only [Act.put, List.setIfInBounds_toArray, List.set_cons_zero, List.set_cons_succ]
      refine hR.take (i := 2) (oi := ?ow601_2) (v := ?vw601_2) (m' := 6) ?hw601_2 (by kernel_rfl) (by kernel_rfl) (fun _ _ _ h => h) (Or.inl ⟨?sw601_2, ?yw601_2⟩) (by assumption) ?nw601_2
      case hw601_2 => simp only [List.getElem?_toArray, List.getElem?_cons_succ, List.getElem?_cons_zero]; rfl
      case sw601_2 => rfl
      case yw601_2 => (intro w hSw; (try dsimp only at hSw); go_simp <;> with_reducible rfl)
      try simp only [Act.put, List.setIfInBounds_toArray, List.set_cons_zero, List.set_cons_succ]
      refine hR.come (rs := [0, 4]) (by kernel_rfl) (by simp) ?_
      refine AllReadyH.cons (o := ?o602_0) ?h602_0 (fun K hK => ?kw602_0) (AllReadyH.cons (o := ?o602_4) ?h602_4 (fun K hK => ?kw602_4) AllReadyH.nil)
      case h602_0 => simp only [List.getElem?_toArray, List.getElem?_cons_succ, List.getElem?_cons_zero]; rfl
      case h602_4 => simp only [List.getElem?_toArray, List.getElem?_cons_succ, List.getElem?_cons_zero]; rfl
      case kw602_0 =>
        go_simp
        go_at_call 23; refine (kindsP _).mono ?_; rintro e w3 ⟨b, b1, b2_, b3, rfl, hKs⟩; have hb3 := hKs.bel; have hk := bc _ _ (by (first | with_reducible assumption | (with_reducible refine Below.drew ?_; with_reducible assumption) | (with_reducible refine ba _ _ ?_; with_reducible assumption) | (with_reducible refine Below.drew ?_; with_reducible refine ba _ _ ?_; with_reducible assumption) | exact Below.refl _ _ | exact (Below.refl _ _).drew | exact (Below.refl _ _).alloc (Nat.le_refl _) _ | (refine bc _ _ (by assumption) (by assumption)))) hb3; obtain ⟨hc3, hf3⟩ := bcell hb3; have hz3 := hb3.size; (try simp at hz3); (try have hl3 : w2.heap.size < w3.heap.size := (by omega)); have g1 := (hKs.box _ (List.mem_cons_self)).1; have g2 := (hKs.box _ (List.mem_cons_of_mem _ List.mem_cons_self)).1; have g3 := (hKs.box _ (List.mem_cons_of_mem _ (List.mem_cons_of_mem _ List.mem_cons_self))).1
        refine hK.out _ _ ?_ (fun hHeld => ?_)
        · (first | (repeat' (first | with_reducible assumption | exact Nat.le_refl _ | with_reducible refine Below.setCell ?_ ?_ _ | with_reducible refine Below.drew ?_ | with_reducible refine ba _ _ ?_ | omega)) | (first | with_reducible assumption | (with_reducible refine Below.drew ?_; with_reducible assumption) | (with_reducible refine ba _ _ ?_; with_reducible assumption) | (with_reducible refine Below.drew ?_; with_reducible refine ba _ _ ?_; with_reducible assumption) | exact Below.refl _ _ | exact (Below.refl _ _).drew | exact (Below.refl _ _).alloc (Nat.le_refl _) _ | (refine bc _ _ (by assumption) (by assumption))))
        clear hK K
        refine RegOk.put_ (m' := 7) (by kernel_rfl) ?_
        try simp only [Act.put, List.setIfInBounds_toArray, List.set_cons_zero, List.set_cons_succ]
        refine hR.come (rs := [3, 4]) (by kernel_rfl) (by simp) ?_
        refine AllReadyH.cons (o := ?o603_3) ?h603_3 (fun K hK => ?kw603_3) (AllReadyH.cons (o := ?o603_4) ?h603_4 (fun K hK => ?kw603_4) AllReadyH.nil)
        case h603_3 => simp only [List.getElem?_toArray, List.getElem?_cons_succ, List.getElem?_cons_zero]; rfl
        case h603_4 => simp only [List.getElem?_toArray, List.getElem?_cons_succ, List.getElem?_cons_zero]; rfl
        case kw603_3 =>
          refine step_lookup (by rfl) (by rfl) (by rfl) (by rfl) (kinds_look2 (hKs.map.below (by repeat' (first | exact Below.refl _ _ | with_reducible refine Below.drew ?_ | with_reducible refine Below.alloc ?_ (Nat.le_refl _) _))) hk1 hk7) ?_
          refine hK.out _ _ ?_ (fun hHeld => ?_)
          · (first | (repeat' (first | with_reducible assumption | exact Nat.le_refl _ | with_reducible refine Below.setCell ?_ ?_ _ | with_reducible refine Below.drew ?_ | with_reducible refine ba _ _ ?_ | omega)) | (first | with_reducible assumption | (with_reducible refine Below.drew ?_; with_reducible assumption) | (with_reducible refine ba _ _ ?_; with_reducible assumption) | (with_reducible refine Below.drew ?_; with_reducible refine ba _ _ ?_; with_reducible assumption) | exact Below.refl _ _ | exact (Below.refl _ _).drew | exact (Below.refl _ _).alloc (Nat.le_refl _) _ | (refine bc _ _ (by assumption) (by assumption))))
          clear hK K
          refine RegOk.put_ (m' := 15) (by kernel_rfl) ?_
          try simp only [Act.put, List.setIfInBounds_toArray, List.set_cons_zero, List.set_cons_succ]
          refine hR.come (rs := [4]) (by kernel_rfl) (by simp) ?_
          refine AllReadyH.cons (o := ?o604_4) ?h604_4 (fun K hK => ?kw604_4) AllReadyH.nil
          case h604_4 => simp only [List.getElem?_toArray, List.getElem?_cons_succ, List.getElem?_cons_zero]; rfl
          go_simp <;> (try go_wp2_with fail)
          refine hK.out _ _ ?_ (fun hHeld => ?_)
          · (first | (repeat' (first | with_reducible assumption | exact Nat.le_refl _ | with_reducible refine Below.setCell ?_ ?_ _ | with_reducible refine Below.drew ?_ | with_reducible refine ba _ _ ?_ | omega)) | (first | with_reducible assumption | (with_reducible refine Below.drew ?_; with_reducible assumption) | (with_reducible refine ba _ _ ?_; with_reducible assumption) | (with_reducible refine Below.drew ?_; with_reducible refine ba _ _ ?_; with_reducible assumption) | exact Below.refl _ _ | exact (Below.refl _ _).drew | exact (Below.refl _ _).alloc (Nat.le_refl _) _ | (refine bc _ _ (by assumption) (by assumption))))
          clear hK K
          refine RegOk.put_ (m' := 31) (by kernel_rfl) ?_
          try simp only [Act.put, List.setIfInBounds_toArray, List.set_cons_zero, List.set_cons_succ]
          refine hR.come (rs := [5]) (by kernel_rfl) (by simp) ?_
          refine AllReadyH.cons (o := ?o605_5) ?h605_5 (fun K hK => ?kw605_5) AllReadyH.nil
          case h605_5 => simp only [List.getElem?_toArray, List.getElem?_cons_succ, List.getElem?_cons_zero]; rfl
          go_simp <;> (try go_wp2_with fail)
          refine hK.out _ _ ?_ (fun hHeld => ?_)
          · (first | (repeat' (first | with_reducible assumption | exact Nat.le_refl _ | with_reducible refine Below.setCell ?_ ?_ _ | with_reducible refine Below.drew ?_ | with_reducible refine ba _ _ ?_ | omega)) | (first | with_reducible assumption | (with_reducible refine Below.drew ?_; with_reducible assumption) | (with_reducible refine ba _ _ ?_; with_reducible assumption) | (with_reducible refine Below.drew ?_; with_reducible refine ba _ _ ?_; with_reducible assumption) | exact Below.refl _ _ | exact (Below.refl _ _).drew | exact (Below.refl _ _).alloc (Nat.le_refl _) _ | (refine bc _ _ (by assumption) (by assumption))))
          clear hK K
          refine RegOk.put_ (m' := 63) (by kernel_rfl) ?_
          try simp only [Act.put, List.setIfInBounds_toArray, List.set_cons_zero, List.set_cons_succ]
          refine hR.all (by kernel_rfl) ?_ _
          refine NoPanic.normal ?_
          go_wp2_with fail
          go_meet
          case rel =>
            have n1 := hKs.new _ (List.mem_cons_self)
            have n2 := hKs.new _ (List.mem_cons_of_mem _ List.mem_cons_self)
            have n3 := hKs.new _ (List.mem_cons_of_mem _ (List.mem_cons_of_mem _ List.mem_cons_self))
            simp at n1 n2 n3
            refine ⟨_, b1, b2_, b3, rfl, ?_, ?_, ?_, ?_, by assumption⟩
            · first
                | (with_reducible refine heap_alloc_at ?_; rfl)
                | (refine heap_set (i := 2) (heap_set (i := 1) (heap_set (i := 0) (u := .int .i64 (sumsC q.kind)) (cs := #[.int .i64 0, .bool false, .nilFunc]) ?_))
                   repeat' (first | (with_reducible refine heap_alloc_at ?_; first | rfl | (simp; done)) | with_reducible refine drew_get_ ?_ | with_reducible refine (hb3.block _ ?_).trans ?_ | with_reducible refine (Below.heap_alloc _ _ _ ?_).trans ?_ | (simp; done) | (simp; omega) | omega))
            all_goals first
              | (with_reducible refine (Below.heap_alloc _ _ _ ?_).trans ?_; rotate_left; with_reducible assumption; exact heap_lt (by assumption))
              | (with_reducible refine (Below.heap_setCell _ _ _ _ ?_).trans ((Below.heap_setCell _ _ _ _ ?_).trans ((Below.heap_setCell _ _ _ _ ?_).trans ?_)) <;> first | with_reducible assumption | (simp; omega))
        case kw603_4 =>
          go_simp <;> (try go_wp2_with fail)
          refine hK.out _ _ ?_ (fun hHeld => ?_)
          · (first | (repeat' (first | with_reducible assumption | exact Nat.le_refl _ | with_reducible refine Below.setCell ?_ ?_ _ | with_reducible refine Below.drew ?_ | with_reducible refine ba _ _ ?_ | omega)) | (first | with_reducible assumption | (with_reducible refine Below.drew ?_; with_reducible assumption) | (with_reducible refine ba _ _ ?_; with_reducible assumption) | (with_reducible refine Below.drew ?_; with_reducible refine ba _ _ ?_; with_reducible assumption) | exact Below.refl _ _ | exact (Below.refl _ _).drew | exact (Below.refl _ _).alloc (Nat.le_refl _) _ | (refine bc _ _ (by assumption) (by assumption))))
          clear hK K
          refine RegOk.put_ (m' := 23) (by kernel_rfl) ?_
          try simp only [Act.put, List.setIfInBounds_toArray, List.set_cons_zero, List.set_cons_succ]
          refine hR.come (rs := [3]) (by kernel_rfl) (by simp) ?_
          refine AllReadyH.cons (o := ?o606_3) ?h606_3 (fun K hK => ?kw606_3) AllReadyH.nil
          case h606_3 => simp only [List.getElem?_toArray, List.getElem?_cons_succ, List.getElem?_cons_zero]; rfl
          refine step_lookup (by rfl) (by rfl) (by rfl) (by rfl) (kinds_look2 (hKs.map.below (by repeat' (first | exact Below.refl _ _ | with_reducible refine Below.drew ?_ | with_reducible refine Below.alloc ?_ (Nat.le_refl _) _))) hk1 hk7) ?_
          refine hK.out _ _ ?_ (fun hHeld => ?_)
          · (first | (repeat' (first | with_reducible assumption | exact Nat.le_refl _ | with_reducible refine Below.setCell ?_ ?_ _ | with_reducible refine Below.drew ?_ | with_reducible refine ba _ _ ?_ | omega)) | (first | with_reducible assumption | (with_reducible refine Below.drew ?_; with_reducible assumption) | (with_reducible refine ba _ _ ?_; with_reducible assumption) | (with_reducible refine Below.drew ?_; with_reducible refine ba _ _ ?_; with_reducible assumption) | exact Below.refl _ _ | exact (Below.refl _ _).drew | exact (Below.refl _ _).alloc (Nat.le_refl _) _ | (refine bc _ _ (by assumption) (by assumption))))
          clear hK K
          refine RegOk.put_ (m' := 31) (by kernel_rfl) ?_
          try simp only [Act.put, List.setIfInBounds_toArray, List.set_cons_zero, List.set_cons_succ]
          refine hR.come (rs := [5]) (by kernel_rfl) (by simp) ?_
          refine AllReadyH.cons (o := ?o607_5) ?h607_5 (fun K hK => ?kw607_5) AllReadyH.nil
          case h607_5 => simp only [List.getElem?_toArray, List.getElem?_cons_succ, List.getElem?_cons_zero]; rfl
          go_simp <;> (try go_wp2_with fail)
          refine hK.out _ _ ?_ (fun hHeld => ?_)
          · (first | (repeat' (first | with_reducible assumption | exact Nat.le_refl _ | with_reducible refine Below.setCell ?_ ?_ _ | with_reducible refine Below.drew ?_ | with_reducible refine ba _ _ ?_ | omega)) | (first | with_reducible assumption | (with_reducible refine Below.drew ?_; with_reducible assumption) | (with_reducible refine ba _ _ ?_; with_reducible assumption) | (with_reducible refine Below.drew ?_; with_reducible refine ba _ _ ?_; with_reducible assumption) | exact Below.refl _ _ | exact (Below.refl _ _).drew | exact (Below.refl _ _).alloc (Nat.le_refl _) _ | (refine bc _ _ (by assumption) (by assumption))))
          clear hK K
          refine RegOk.put_ (m' := 63) (by kernel_rfl) ?_
          try simp only [Act.put, List.setIfInBounds_toArray, List.set_cons_zero, List.set_cons_succ]
          refine hR.all (by kernel_rfl) ?_ _
          refine NoPanic.normal ?_
          go_wp2_with fail
          go_meet
          case rel =>
            have n1 := hKs.new _ (List.mem_cons_self)
            have n2 := hKs.new _ (List.mem_cons_of_mem _ List.mem_cons_self)
            have n3 := hKs.new _ (List.mem_cons_of_mem _ (List.mem_cons_of_mem _ List.mem_cons_self))
            simp at n1 n2 n3
            refine ⟨_, b1, b2_, b3, rfl, ?_, ?_, ?_, ?_, by assumption⟩
            · first
                | (with_reducible refine heap_alloc_at ?_; rfl)
                | (refine heap_set (i := 2) (heap_set (i := 1) (heap_set (i := 0) (u := .int .i64 (sumsC q.kind)) (cs := #[.int .i64 0, .bool false, .nilFunc]) ?_))
                   repeat' (first | (with_reducible refine heap_alloc_at ?_; first | rfl | (simp; done)) | with_reducible refine drew_get_ ?_ | with_reducible refine (hb3.block _ ?_).trans ?_ | with_reducible refine (Below.heap_alloc _ _ _ ?_).trans ?_ | (simp; done) | (simp; omega) | omega))
            all_goals first
              | (with_reducible refine (Below.heap_alloc _ _ _ ?_).trans ?_; rotate_left; with_reducible assumption; exact heap_lt (by assumption))
              | (with_reducible refine (Below.heap_setCell _ _ _ _ ?_).trans ((Below.heap_setCell _ _ _ _ ?_).trans ((Below.heap_setCell _ _ _ _ ?_).trans ?_)) <;> first | with_reducible assumption | (simp; omega))
      case kw602_4 =>
        go_simp <;> (try go_wp2_with fail)
        refine hK.out _ _ ?_ (fun hHeld => ?_)
        · (first | (repeat' (first | with_reducible assumption | exact Nat.le_refl _ | with_reducible refine Below.setCell ?_ ?_ _ | with_reducible refine Below.drew ?_ | with_reducible refine ba _ _ ?_ | omega)) | (first | with_reducible assumption | (with_reducible refine Below.drew ?_; with_reducible assumption) | (with_reducible refine ba _ _ ?_; with_reducible assumption) | (with_reducible refine Below.drew ?_; with_reducible refine ba _ _ ?_; with_reducible assumption) | exact Below.refl _ _ | exact (Below.refl _ _).drew | exact (Below.refl _ _).alloc (Nat.le_refl _) _ | (refine bc _ _ (by assumption) (by assumption))))
        clear hK K
        refine RegOk.put_ (m' := 22) (by kernel_rfl) ?_
        try simp only [Act.put, List.setIfInBounds_toArray, List.set_cons_zero, List.set_cons_succ]
        refine hR.come (rs := [0]) (by kernel_rfl) (by simp) ?_
        refine AllReadyH.cons (o := ?o608_0) ?h608_0 (fun K hK => ?kw608_0) AllReadyH.nil
        case h608_0 => simp only [List.getElem?_toArray, List.getElem?_cons_succ, List.getElem?_cons_zero]; rfl
        go_simp
        go_at_call 23; refine (kindsP _).mono ?_; rintro e w3 ⟨b, b1, b2_, b3, rfl, hKs⟩; have hb3 := hKs.bel; have hk := bc _ _ (by (first | with_reducible assumption | (with_reducible refine Below.drew ?_; with_reducible assumption) | (with_reducible refine ba _ _ ?_; with_reducible assumption) | (with_reducible refine Below.drew ?_; with_reducible refine ba _ _ ?_; with_reducible assumption) | exact Below.refl _ _ | exact (Below.refl _ _).drew | exact (Below.refl _ _).alloc (Nat.le_refl _) _ | (refine bc _ _ (by assumption) (by assumption)))) hb3; obtain ⟨hc3, hf3⟩ := bcell hb3; have hz3 := hb3.size; (try simp at hz3); (try have hl3 : w2.heap.size < w3.heap.size := (by omega)); have g1 := (hKs.box _ (List.mem_cons_self)).1; have g2 := (hKs.box _ (List.mem_cons_of_mem _ List.mem_cons_self)).1; have g3 := (hKs.box _ (List.mem_cons_of_mem _ (List.mem_cons_of_mem _ List.mem_cons_self))).1
        refine hK.out _ _ ?_ (fun hHeld => ?_)
        · (first | (repeat' (first | with_reducible assumption | exact Nat.le_refl _ | with_reducible refine Below.setCell ?_ ?_ _ | with_reducible refine Below.drew ?_ | with_reducible refine ba _ _ ?_ | omega)) | (first | with_reducible assumption | (with_reducible refine Below.drew ?_; with_reducible assumption) | (with_reducible refine ba _ _ ?_; with_reducible assumption) | (with_reducible refine Below.drew ?_; with_reducible refine ba _ _ ?_; with_reducible assumption) | exact Below.refl _ _ | exact (Below.refl _ _).drew | exact (Below.refl _ _).alloc (Nat.le_refl _) _ | (refine bc _ _ (by assumption) (by assumption))))
        clear hK K
        refine RegOk.put_ (m' := 23) (by kernel_rfl) ?_
        try simp only [Act.put, List.setIfInBounds_toArray, List.set_cons_zero, List.set_cons_succ]
        refine hR.come (rs := [3]) (by kernel_rfl) (by simp) ?_
        refine AllReadyH.cons (o := ?o609_3) ?h609_3 (fun K hK => ?kw609_3) AllReadyH.nil
        case h609_3 => simp only [List.getElem?_toArray, List.getElem?_cons_succ, List.getElem?_cons_zero]; rfl
        refine step_lookup (by rfl) (by rfl) (by rfl) (by rfl) (kinds_look2 (hKs.map.below (by repeat' (first | exact Below.refl _ _ | with_reducible refine Below.drew ?_ | with_reducible refine Below.alloc ?_ (Nat.le_refl _) _))) hk1 hk7) ?_
        refine hK.out _ _ ?_ (fun hHeld => ?_)
        · (first | (repeat' (first | with_reducible assumption | exact Nat.le_refl _ | with_reducible refine Below.setCell ?_ ?_ _ | with_reducible refine Below.drew ?_ | with_reducible refine ba _ _ ?_ | omega)) | (first | with_reducible assumption | (with_reducible refine Below.drew ?_; with_reducible assumption) | (with_reducible refine ba _ _ ?_; with_reducible assumption) | (with_reducible refine Below.drew ?_; with_reducible refine ba _ _ ?_; with_reducible assumption) | exact Below.refl _ _ | exact (Below.refl _ _).drew | exact (Below.refl _ _).alloc (Nat.le_refl _) _ | (refine bc _ _ (by assumption) (by assumption))))
        clear hK K
        refine RegOk.put_ (m' := 31) (by kernel_rfl) ?_
        try simp only [Act.put, List.setIfInBounds_toArray, List.set_cons_zero, List.set_cons_succ]
        refine hR.come (rs := [5]) (by kernel_rfl) (by simp) ?_
        refine AllReadyH.cons (o := ?o610_5) ?h610_5 (fun K hK => ?kw610_5) AllReadyH.nil
        case h610_5 => simp only [List.getElem?_toArray, List.getElem?_cons_succ, List.getElem?_cons_zero]; rfl
        go_simp <;> (try go_wp2_with fail)
        refine hK.out _ _ ?_ (fun hHeld => ?_)
        · (first | (repeat' (first | with_reducible assumption | exact Nat.le_refl _ | with_reducible refine Below.setCell ?_ ?_ _ | with_reducible refine Below.drew ?_ | with_reducible refine ba _ _ ?_ | omega)) | (first | with_reducible assumption | (with_reducible refine Below.drew ?_; with_reducible assumption) | (with_reducible refine ba _ _ ?_; with_reducible assumption) | (with_reducible refine Below.drew ?_; with_reducible refine ba _ _ ?_; with_reducible assumption) | exact Below.refl _ _ | exact (Below.refl _ _).drew | exact (Below.refl _ _).alloc (Nat.le_refl _) _ | (refine bc _ _ (by assumption) (by assumption))))
        clear hK K
        refine RegOk.put_ (m' := 63) (by kernel_rfl) ?_
        try simp only [Act.put, List.setIfInBounds_toArray, List.set_cons_zero, List.set_cons_succ]
        refine hR.all (by kernel_rfl) ?_ _
        refine NoPanic.normal ?_
        go_wp2_with fail
        go_meet
        case rel =>
          have n1 := hKs.new _ (List.mem_cons_self)
          have n2 := hKs.new _ (List.mem_cons_of_mem _ List.mem_cons_self)
          have n3 := hKs.new _ (List.mem_cons_of_mem _ (List.mem_cons_of_mem _ List.mem_cons_self))
          simp at n1 n2 n3
          refine ⟨_, b1, b2_, b3, rfl, ?_, ?_, ?_, ?_, by assumption⟩
          · first
              | (with_reducible refine heap_alloc_at ?_; rfl)
              | (refine heap_set (i := 2) (heap_set (i := 1) (heap_set (i := 0) (u := .int .i64 (sumsC q.kind)) (cs := #[.int .i64 0, .bool false, .nilFunc]) ?_))
                 repeat' (first | (with_reducible refine heap_alloc_at ?_; first | rfl | (simp; done)) | with_reducible refine drew_get_ ?_ | with_reducible refine (hb3.block _ ?_).trans ?_ | with_reducible refine (Below.heap_alloc _ _ _ ?_).trans ?_ | (simp; done) | (simp; omega) | omega))
          all_goals first
            | (with_reducible refine (Below.heap_alloc _ _ _ ?_).trans ?_; rotate_left; with_reducible assumption; exact heap_lt (by assumption))
            | (with_reducible refine (Below.heap_setCell _ _ _ _ ?_).trans ((Below.heap_setCell _ _ _ _ ?_).trans ((Below.heap_setCell _ _ _ _ ?_).trans ?_)) <;> first | with_reducible assumption | (simp; omega))
    case rest =>
      obtain ⟨g, b1, b2_, b3, rfl, gk, g1, g2, g3, bb⟩ := hcut
      have b3w := Lib.hid (b2.out.trans (bb.mono b2.out.size))
      have gq3 := mvQ gq2 bb
      have gr3 := mvQ gr2 bb
      have H3 := Lib.hid (H2.out.keep (Below.agree bb))
      have HW3 := mvW HW2 bb
      have gK := Lib.hid gk
      clear bb gk gq2 gr2 H2 HW2 b2
      obtain ⟨wd, hwd_⟩ : ∃ X, X = wc := ⟨wc, rfl⟩
      subst hwd_
      obtain ⟨k0, k1, k2⟩ := row3 gK
      obtain ⟨x0, x1, x2, x3⟩ := row4 gq3
      obtain ⟨r0, rf, lr⟩ := one gr3
      obtain ⟨-, hcol, hcold, hk0, hkm, hk36, hfl⟩ := HV.out.head
      obtain ⟨hc0, hc3⟩ := hcol
      have hvf := Lib.hid (show ∀ x ∈ fl q 0, ValidCd x from fun x hx => (HV.out.flt (fl q 0) (by
        unfold fl at hx ⊢
        rw [List.getD_eq_getElem?_getD] at hx ⊢
        cases hq0 : q.fs[0]? with
        | none => rw [hq0] at hx; simp at hx
        | some l => simp; exact List.mem_of_getElem? hq0)).2 x hx)
      have HFL := Lib.hid hfl
      have HG1 := Lib.hid g1
      have HG2 := Lib.hid g2
      have HG3 := Lib.hid g3
      have hfs0 : 0 < q.fs.length := by rw [hfl]; unfold nFilF; split <;> omega
      clear hfl hcold g1 g2 g3
      by_cases hnw : 4 ≤ q.kind ∧ q.kind ≤ 6
      · have hnt : narrowF q.kind = true := decide_eq_true hnw
        by_cases hb4 : 4 < bitsC q.col
        · have hno := Lib.hid (show checkTF q n = ([], 140) by rw [HCH.out, show wideB q = true from decide_eq_true ⟨hnw.1, hnw.2, hb4⟩]; rfl)
          go_wp2_with (go_at_call 24; refine (bitsP _ HW3.out (by omega) (by omega)).mono ?_; rintro e w5 ⟨rfl, rfl⟩)
          exact bodyPost_ret (v := .tuple #[.agg #[.slice none 0 0], .int .i64 140]) (by simp [results, Tryz.results8, go_sem, *]) rfl ⟨none, 0, by rw [← HP.out, hno.out]; rfl, by rw [← HP.out, hno.out]; exact Sl.nil_ _ _ _ _ (Nat.zero_le _), b3w.out.setCell (by simp) _⟩
        · have hwd := Lib.hid (show wideB q = false from decide_eq_false fun h => hb4 h.2.2)
          have hb4' : ¬ (4 < bitsC q.col) := hb4
          have hbf : bF q.kind = 56 := by unfold bF; rw [if_neg (by omega), if_pos hnw.2]
          have hbc : bC b1 b2_ b3 q.kind = #[] := by unfold bC; rw [if_neg (by omega), if_neg (by omega), if_neg (by omega)]
          rw [hbf, hbc] at k2
          have hbd := Lib.hid (bound_cnt (q := q) (rows := n) hnw.1 hnw.2)
          clear hbf hbc hnw hk36 hkm hk0 hk1 hk7 gK gq3
          have hct := countersP (q := q) (n : Int) wd HW3.out H3.out hfs0 hc0 hc3
          rw [← hbd.out] at hct
          have HCT := Lib.hid hct
          clear hct
          cases hok : (boundF q n).2 with
          | true =>
            have hno := Lib.hid (show checkTF q n = ((boundF q n).1, 0) by rw [HCH.out, hwd.out, hok]; rfl)
            go_wp2_with (first
              | (go_at_call 24; refine (bitsP _ HW3.out (by omega) (by omega)).mono ?_; rintro e w5 ⟨rfl, rfl⟩)
              | (go_at_call 56; refine (HCT.out).mono ?_; rintro e w6 ⟨B6, d6, xs6, rfl, hxs6, hs6, hb6⟩; have b6 := Lib.hid (b3w.out.trans (hb6.mono b3w.out.size)); have gr6 := mvQ gr3 hb6; obtain ⟨s0, sf, ls⟩ := one gr6; have HS6 := Lib.hid hs6; have HX6 := Lib.hid hxs6; clear hs6 hxs6 hb6))
            exact bodyPost_ret (v := .tuple #[.agg #[.slice B6 xs6.length d6], .int .i64 0]) (by simp [results, Tryz.results8, go_sem, *]) rfl ⟨B6, d6, by rw [← HP.out, hno.out, HX6.out hok], by rw [← HP.out, hno.out, ← HX6.out hok]; exact (HS6.out.keep ((Agree.refl _ _).set (p := ⟨w.heap.size + 1, 0, none⟩) (fun h => by simp only at h; omega) _)).sub (fun b hb _ => by have := b3w.out.size; omega), b6.out.setCell (by simp) _⟩
          | false =>
            have hno := Lib.hid (show checkTF q n = ([], 141) by rw [HCH.out, hwd.out, hok]; rfl)
            go_wp2_with (first
              | (go_at_call 24; refine (bitsP _ HW3.out (by omega) (by omega)).mono ?_; rintro e w5 ⟨rfl, rfl⟩)
              | (go_at_call 56; refine (HCT.out).mono ?_; rintro e w6 ⟨B6, d6, xs6, rfl, hxs6, hs6, hb6⟩; have b6 := Lib.hid (b3w.out.trans (hb6.mono b3w.out.size)); have gr6 := mvQ gr3 hb6; obtain ⟨s0, sf, ls⟩ := one gr6; clear hs6 hxs6 hb6))
            exact bodyPost_ret (v := .tuple #[.agg #[.slice none 0 0], .int .i64 141]) (by simp [results, Tryz.results8, go_sem, *]) rfl ⟨none, 0, by rw [← HP.out, hno.out]; rfl, by rw [← HP.out, hno.out]; exact Sl.nil_ _ _ _ _ (Nat.zero_le _), b6.out.setCell (by simp) _⟩
      · have hnt : narrowF q.kind = false := decide_eq_false hnw
        have hwd := Lib.hid (show wideB q = false from decide_eq_false fun h => hnw ⟨h.1, h.2.1⟩)
        by_cases hk7' : q.kind = 7
        · have hbf : bF q.kind = 57 := by unfold bF; rw [if_neg (by omega), if_neg (by omega)]
          have hbc : bC b1 b2_ b3 q.kind = #[] := by unfold bC; rw [if_neg (by omega), if_neg (by omega), if_neg (by omega)]
          rw [hbf, hbc] at k2
          have hfs2 : q.fs.length = 2 := by rw [HFL.out]; unfold nFilF; rw [if_pos hk7']
          have hbd := Lib.hid (bound_pair (q := q) (rows := n) hk7' hfs2)
          have hfs2' : q.fs.length ≤ 2 := by omega
          clear hbf hbc hnw hk36 hkm hk0 hk1 hk7 hk7' hfs2 gK gq3
          have hct := pairsP (q := q) (n : Int) wd HW3.out H3.out hfs2'
          rw [← hbd.out] at hct
          have HCT := Lib.hid hct
          clear hct
          cases hok : (boundF q n).2 with
          | true =>
            have hno := Lib.hid (show checkTF q n = ((boundF q n).1, 0) by rw [HCH.out, hwd.out, hok]; rfl)
            go_wp2_with (first
              | (go_at_call 57; refine (HCT.out).mono ?_; rintro e w6 ⟨B6, d6, xs6, rfl, hxs6, hs6, hb6⟩; have b6 := Lib.hid (b3w.out.trans (hb6.mono b3w.out.size)); have gr6 := mvQ gr3 hb6; obtain ⟨s0, sf, ls⟩ := one gr6; have HS6 := Lib.hid hs6; have HX6 := Lib.hid hxs6; clear hs6 hxs6 hb6))
            exact bodyPost_ret (v := .tuple #[.agg #[.slice B6 xs6.length d6], .int .i64 0]) (by simp [results, Tryz.results8, go_sem, *]) rfl ⟨B6, d6, by rw [← HP.out, hno.out, HX6.out hok], by rw [← HP.out, hno.out, ← HX6.out hok]; exact (HS6.out.keep ((Agree.refl _ _).set (p := ⟨w.heap.size + 1, 0, none⟩) (fun h => by simp only at h; omega) _)).sub (fun b hb _ => by have := b3w.out.size; omega), b6.out.setCell (by simp) _⟩
          | false =>
            have hno := Lib.hid (show checkTF q n = ([], 141) by rw [HCH.out, hwd.out, hok]; rfl)
            go_wp2_with (first
              | (go_at_call 57; refine (HCT.out).mono ?_; rintro e w6 ⟨B6, d6, xs6, rfl, hxs6, hs6, hb6⟩; have b6 := Lib.hid (b3w.out.trans (hb6.mono b3w.out.size)); have gr6 := mvQ gr3 hb6; obtain ⟨s0, sf, ls⟩ := one gr6; clear hs6 hxs6 hb6))
            exact bodyPost_ret (v := .tuple #[.agg #[.slice none 0 0], .int .i64 141]) (by simp [results, Tryz.results8, go_sem, *]) rfl ⟨none, 0, by rw [← HP.out, hno.out]; rfl, by rw [← HP.out, hno.out]; exact Sl.nil_ _ _ _ _ (Nat.zero_le _), b6.out.setCell (by simp) _⟩
        by_cases hkd : q.kind = 1
        · have hbf : bF q.kind = 86 := by unfold bF; rw [if_pos (by omega)]
          have hbc : bC b1 b2_ b3 q.kind = #[.pointer (some ⟨b1, 0, none⟩)] := by unfold bC; rw [if_pos hkd]
          rw [hbf, hbc] at k2
          have hbd := Lib.hid (show boundF q n = momF (fl q 0) q.col n (0) by rw [bound_mom (by omega)]; unfold expF; rw [if_neg (by omega), if_neg (by omega)])
          have kc := cell_of_row wd b1 0 _ _ _ HG1.out
          have hkk : 0 ≤ q.k ∧ q.k ≤ 6 := by refine ⟨hk0, ?_⟩; have : maxKF q.kind = 0 := (by unfold maxKF; rw [if_neg (by omega), if_neg (by omega)]); omega
          clear hbf hbc hnw hk36 hkm hk0 hk1 hk7 hk7' hkd gK gq3
          have hct := moment1P1 (q := q) (n := n) wd HW3.out H3.out hfs0 hvf.out hc0 hc3 hn6 trivial (by simpa using kc)
          rw [← hbd.out] at hct
          have HCT := Lib.hid hct
          clear hct
          cases hok : (boundF q n).2 with
          | true =>
            have hno := Lib.hid (show checkTF q n = ((boundF q n).1, 0) by rw [HCH.out, hwd.out, hok]; rfl)
            go_wp2_with (first
              | (go_at_call 86; refine (HCT.out).mono ?_; rintro e w6 ⟨B6, d6, xs6, rfl, hxs6, hs6, hb6⟩; have b6 := Lib.hid (b3w.out.trans (hb6.mono b3w.out.size)); have gr6 := mvQ gr3 hb6; obtain ⟨s0, sf, ls⟩ := one gr6; have HS6 := Lib.hid hs6; have HX6 := Lib.hid hxs6; clear hs6 hxs6 hb6))
            exact bodyPost_ret (v := .tuple #[.agg #[.slice B6 xs6.length d6], .int .i64 0]) (by simp [results, Tryz.results8, go_sem, *]) rfl ⟨B6, d6, by rw [← HP.out, hno.out, HX6.out hok], by rw [← HP.out, hno.out, ← HX6.out hok]; exact (HS6.out.keep ((Agree.refl _ _).set (p := ⟨w.heap.size + 1, 0, none⟩) (fun h => by simp only at h; omega) _)).sub (fun b hb _ => by have := b3w.out.size; omega), b6.out.setCell (by simp) _⟩
          | false =>
            have hno := Lib.hid (show checkTF q n = ([], 141) by rw [HCH.out, hwd.out, hok]; rfl)
            go_wp2_with (first
              | (go_at_call 86; refine (HCT.out).mono ?_; rintro e w6 ⟨B6, d6, xs6, rfl, hxs6, hs6, hb6⟩; have b6 := Lib.hid (b3w.out.trans (hb6.mono b3w.out.size)); have gr6 := mvQ gr3 hb6; obtain ⟨s0, sf, ls⟩ := one gr6; clear hs6 hxs6 hb6))
            exact bodyPost_ret (v := .tuple #[.agg #[.slice none 0 0], .int .i64 141]) (by simp [results, Tryz.results8, go_sem, *]) rfl ⟨none, 0, by rw [← HP.out, hno.out]; rfl, by rw [← HP.out, hno.out]; exact Sl.nil_ _ _ _ _ (Nat.zero_le _), b6.out.setCell (by simp) _⟩
        by_cases hkd : q.kind = 2
        · have hbf : bF q.kind = 86 := by unfold bF; rw [if_pos (by omega)]
          have hbc : bC b1 b2_ b3 q.kind = #[.pointer (some ⟨b2_, 0, none⟩)] := by unfold bC; rw [if_neg (by omega), if_pos hkd]
          rw [hbf, hbc] at k2
          have hbd := Lib.hid (show boundF q n = momF (fl q 0) q.col n (1) by rw [bound_mom (by omega)]; unfold expF; rw [if_pos hkd])
          have kc := cell_of_row wd b2_ 0 _ _ _ HG2.out
          have hkk : 0 ≤ q.k ∧ q.k ≤ 6 := by refine ⟨hk0, ?_⟩; have : maxKF q.kind = 0 := (by unfold maxKF; rw [if_neg (by omega), if_neg (by omega)]); omega
          clear hbf hbc hnw hk36 hkm hk0 hk1 hk7 hk7' hkd gK gq3
          have hct := moment1P2 (q := q) (n := n) wd HW3.out H3.out hfs0 hvf.out hc0 hc3 hn6 trivial (by simpa using kc)
          rw [← hbd.out] at hct
          have HCT := Lib.hid hct
          clear hct
          cases hok : (boundF q n).2 with
          | true =>
            have hno := Lib.hid (show checkTF q n = ((boundF q n).1, 0) by rw [HCH.out, hwd.out, hok]; rfl)
            go_wp2_with (first
              | (go_at_call 86; refine (HCT.out).mono ?_; rintro e w6 ⟨B6, d6, xs6, rfl, hxs6, hs6, hb6⟩; have b6 := Lib.hid (b3w.out.trans (hb6.mono b3w.out.size)); have gr6 := mvQ gr3 hb6; obtain ⟨s0, sf, ls⟩ := one gr6; have HS6 := Lib.hid hs6; have HX6 := Lib.hid hxs6; clear hs6 hxs6 hb6))
            exact bodyPost_ret (v := .tuple #[.agg #[.slice B6 xs6.length d6], .int .i64 0]) (by simp [results, Tryz.results8, go_sem, *]) rfl ⟨B6, d6, by rw [← HP.out, hno.out, HX6.out hok], by rw [← HP.out, hno.out, ← HX6.out hok]; exact (HS6.out.keep ((Agree.refl _ _).set (p := ⟨w.heap.size + 1, 0, none⟩) (fun h => by simp only at h; omega) _)).sub (fun b hb _ => by have := b3w.out.size; omega), b6.out.setCell (by simp) _⟩
          | false =>
            have hno := Lib.hid (show checkTF q n = ([], 141) by rw [HCH.out, hwd.out, hok]; rfl)
            go_wp2_with (first
              | (go_at_call 86; refine (HCT.out).mono ?_; rintro e w6 ⟨B6, d6, xs6, rfl, hxs6, hs6, hb6⟩; have b6 := Lib.hid (b3w.out.trans (hb6.mono b3w.out.size)); have gr6 := mvQ gr3 hb6; obtain ⟨s0, sf, ls⟩ := one gr6; clear hs6 hxs6 hb6))
            exact bodyPost_ret (v := .tuple #[.agg #[.slice none 0 0], .int .i64 141]) (by simp [results, Tryz.results8, go_sem, *]) rfl ⟨none, 0, by rw [← HP.out, hno.out]; rfl, by rw [← HP.out, hno.out]; exact Sl.nil_ _ _ _ _ (Nat.zero_le _), b6.out.setCell (by simp) _⟩
        have hkd : q.kind = 3 := by omega
        have hbf : bF q.kind = 86 := by unfold bF; rw [if_pos (by omega)]
        have hbc : bC b1 b2_ b3 q.kind = #[.pointer (some ⟨b3, 0, none⟩)] := by unfold bC; rw [if_neg (by omega), if_neg (by omega), if_pos (by omega)]
        rw [hbf, hbc] at k2
        have hbd := Lib.hid (show boundF q n = momF (fl q 0) q.col n (q.k.toNat) by rw [bound_mom (by omega)]; unfold expF; rw [if_neg (by omega), if_pos (by omega)])
        have kc := cell_of_row wd b3 0 _ _ _ HG3.out
        have hkk : 0 ≤ q.k ∧ q.k ≤ 6 := by refine ⟨hk0, ?_⟩; have : maxKF q.kind = 6 := (by unfold maxKF; rw [if_pos (by omega)]); omega
        clear hbf hbc hnw hk36 hkm hk0 hk1 hk7 hk7' hkd gK gq3
        have hct := moment1P3 (q := q) (n := n) wd HW3.out H3.out hfs0 hvf.out hc0 hc3 hn6 hkk (by simpa using kc)
        rw [← hbd.out] at hct
        have HCT := Lib.hid hct
        clear hct
        cases hok : (boundF q n).2 with
        | true =>
          have hno := Lib.hid (show checkTF q n = ((boundF q n).1, 0) by rw [HCH.out, hwd.out, hok]; rfl)
          go_wp2_with (first
            | (go_at_call 86; refine (HCT.out).mono ?_; rintro e w6 ⟨B6, d6, xs6, rfl, hxs6, hs6, hb6⟩; have b6 := Lib.hid (b3w.out.trans (hb6.mono b3w.out.size)); have gr6 := mvQ gr3 hb6; obtain ⟨s0, sf, ls⟩ := one gr6; have HS6 := Lib.hid hs6; have HX6 := Lib.hid hxs6; clear hs6 hxs6 hb6))
          exact bodyPost_ret (v := .tuple #[.agg #[.slice B6 xs6.length d6], .int .i64 0]) (by simp [results, Tryz.results8, go_sem, *]) rfl ⟨B6, d6, by rw [← HP.out, hno.out, HX6.out hok], by rw [← HP.out, hno.out, ← HX6.out hok]; exact (HS6.out.keep ((Agree.refl _ _).set (p := ⟨w.heap.size + 1, 0, none⟩) (fun h => by simp only at h; omega) _)).sub (fun b hb _ => by have := b3w.out.size; omega), b6.out.setCell (by simp) _⟩
        | false =>
          have hno := Lib.hid (show checkTF q n = ([], 141) by rw [HCH.out, hwd.out, hok]; rfl)
          go_wp2_with (first
            | (go_at_call 86; refine (HCT.out).mono ?_; rintro e w6 ⟨B6, d6, xs6, rfl, hxs6, hs6, hb6⟩; have b6 := Lib.hid (b3w.out.trans (hb6.mono b3w.out.size)); have gr6 := mvQ gr3 hb6; obtain ⟨s0, sf, ls⟩ := one gr6; clear hs6 hxs6 hb6))
          exact bodyPost_ret (v := .tuple #[.agg #[.slice none 0 0], .int .i64 141]) (by simp [results, Tryz.results8, go_sem, *]) rfl ⟨none, 0, by rw [← HP.out, hno.out]; rfl, by rw [← HP.out, hno.out]; exact Sl.nil_ _ _ _ _ (Nat.zero_le _), b6.out.setCell (by simp) _⟩
end Go.Proofs.YtagadbdbbglddaaGreatDoor
namespace Go.Proofs.YtagadbdbbglddaaGreatDoor
open Go.RowKit

theorem bitsRef (c : Int) (w : World) : Calls Tryz.prog 41 #[.int .i64 c] w fun e w' => e = .returned (.int .i64 (bitsC c)) ∧ w = w' := by
  by_cases h : 0 ≤ c ∧ c ≤ 4
  · rcases (by omega : c = 0 ∨ c = 1 ∨ c = 2 ∨ c = 3 ∨ c = 4) with rfl | rfl | rfl | rfl | rfl
    all_goals
      go_enter Tryz.func41, Tryz.ntmps41
      go_wp2_with fail
      go_ret
      exact ⟨rfl, rfl⟩
  · have e : bitsC c = 0 := by unfold bitsC; rw [if_neg (by omega), if_neg (by omega), if_neg (by omega)]
    have g0 := beqF (show ¬ c = 0 by omega)
    have g1 := beqF (show ¬ c = 1 by omega)
    have g2 := beqF (show ¬ c = 2 by omega)
    have g3 := beqF (show ¬ c = 3 by omega)
    have g4 := beqF (show ¬ c = 4 by omega)
    rw [e]
    clear e h
    go_enter Tryz.func41, Tryz.ntmps41
    go_wp2_with fail
    go_ret
    exact ⟨rfl, rfl⟩
end Go.Proofs.YtagadbdbbglddaaGreatDoor
