/-
  The law 'TypecheckTight', its parts: the extreme reading.
-/
import Derived.Test.YtihcaoipemcddaaDoorQ22
import Derived.Test.YtihcaoipemcddaaDoorQ23
import Derived.Test.YtihcaoipemcddaaDoorQP2
namespace Go.Proofs.YtihcaoipemcddaaDoor
open Go.RowKit

/-- The reading with the largest values, one column set. -/
def extrF (l : List Cd) (col v : Int) : Rd :=
  ⟨if 0 ≤ v ∧ col = 0 then v else largeF l 0, if 0 ≤ v ∧ col = 1 then v else largeF l 1, if 0 ≤ v ∧ col = 2 then v else largeF l 2, if 0 ≤ v ∧ col = 3 then v else largeF l 3⟩
theorem extr_fld {l : List Cd} {col v : Int} {c : Int} (hc0 : 0 ≤ c) (hc3 : c ≤ 3) : fldI (extrF l col v) c = if 0 ≤ v ∧ col = c then v else largeF l c := by
  rcases (by omega : c = 0 ∨ c = 1 ∨ c = 2 ∨ c = 3) with rfl | rfl | rfl | rfl <;> rfl
theorem sat_at {l : List Cd} (hs : satB l = true) {c : Int} (h0 : 0 ≤ c) (h3 : c ≤ 3) : (underF l c).1 ≤ (underF l c).2 := by
  unfold satB at hs
  rw [decide_eq_true_eq] at hs
  rcases (by omega : c = 0 ∨ c = 1 ∨ c = 2 ∨ c = 3) with e | e | e | e <;> rw [e] <;> omega
theorem large_sat {l : List Cd} (hs : satB l = true) {c : Int} (h0 : 0 ≤ c) (h3 : c ≤ 3) : largeF l c = (underF l c).2 := by
  unfold largeF; rw [if_pos (sat_at hs h0 h3)]
/-- It matches where the set value lies in the range. -/
theorem extr_match {l : List Cd} (hv : ∀ c ∈ l, ValidCd c) (hs : satB l = true) {col v : Int} (hin : 0 ≤ v → (underF l col).1 ≤ v ∧ v ≤ (underF l col).2) : matchB l (extrF l col v) = true := by
  refine List.all_eq_true.2 fun c hc => ?_
  obtain ⟨⟨h0, h3⟩, -⟩ := hv c hc
  have key : (underF l c.col).1 ≤ fldI (extrF l col v) c.col ∧ fldI (extrF l col v) c.col ≤ (underF l c.col).2 := by
    rw [extr_fld h0 h3]
    split
    · rename_i h; rw [← h.2]; exact hin h.1
    · rw [large_sat hs h0 h3]; exact ⟨sat_at hs h0 h3, Int.le_refl _⟩
  unfold underF at key
  rw [fold_poss] at key
  have h4 := key.2 c hc
  unfold matchT
  exact decide_eq_true (by omega)
theorem extr_valid {l : List Cd} (hv : ∀ c ∈ l, ValidCd c) (hs : satB l = true) {col v : Int} (h0 : 0 ≤ col) (h3 : col ≤ 3) (hin : 0 ≤ v → (underF l col).1 ≤ v ∧ v ≤ (underF l col).2) : ValidR (extrF l col v) := by
  have key : ∀ c : Int, 0 ≤ c → c ≤ 3 → 0 ≤ fldI (extrF l col v) c ∧ fldI (extrF l col v) c ≤ maxC c := by
    intro c hc0 hc3
    have hp : (underF l c).1 ≤ fldI (extrF l col v) c ∧ fldI (extrF l col v) c ≤ (underF l c).2 := by
      rw [extr_fld hc0 hc3]
      split
      · rename_i h; rw [← h.2]; exact hin h.1
      · rw [large_sat hs hc0 hc3]; exact ⟨sat_at hs hc0 hc3, Int.le_refl _⟩
    unfold underF at hp
    rw [fold_poss, span0_max hc0 hc3] at hp
    exact hp.1
  have k0 := key 0 (by omega) (by omega)
  have k1 := key 1 (by omega) (by omega)
  have k2 := key 2 (by omega) (by omega)
  have k3 := key 3 (by omega) (by omega)
  exact ⟨⟨k0.1, by have := k0.2; have h : maxC 0 = 15 := rfl; show (extrF l col v).who < 16; have e : fldI (extrF l col v) 0 = (extrF l col v).who := rfl; omega⟩,
    ⟨k2.1, by have := k2.2; have h : maxC 2 = 15 := rfl; show (extrF l col v).knd < 16; have e : fldI (extrF l col v) 2 = (extrF l col v).knd := rfl; omega⟩,
    ⟨k1.1, by have := k1.2; have h : maxC 1 = 255 := rfl; show (extrF l col v).whn < 256; have e : fldI (extrF l col v) 1 = (extrF l col v).whn := rfl; omega⟩,
    ⟨k3.1, by have := k3.2; have h : maxC 3 = 255 := rfl; show (extrF l col v).val < 256; have e : fldI (extrF l col v) 3 = (extrF l col v).val := rfl; omega⟩⟩
/-- The value that is wanted of sum v. -/
def wantF (q : Qy) (v : Nat) : Int := if 4 ≤ q.kind then ((v % 16 : Nat) : Int) else -1
/-- Where the bound is not zero the extreme reading adds all that a reading can add. -/
theorem extr_cap {q : Qy} (hq : ValidQ q) {v : Nat} (hv : v < 32) (hne : capF q v ≠ 0) :
    satB (filtF q v) = true ∧ (0 ≤ wantF q v → (underF (filtF q v) (colQ q)).1 ≤ wantF q v ∧ wantF q v ≤ (underF (filtF q v) (colQ q)).2) ∧ termF q v (extrF (filtF q v) (colQ q) (wantF q v)) = capF q v := by
  obtain ⟨⟨hk1, hk7⟩, ⟨hc0, hc3⟩, -⟩ := hq.head
  have hfv := filt_valid hq hv
  have hcq : 0 ≤ colQ q ∧ colQ q ≤ 3 := by unfold colQ; split <;> omega
  have hsat : satB (filtF q v) = true := by
    cases hs : satB (filtF q v) with
    | true => rfl
    | false => exact absurd (by unfold capF; rw [hs]; split <;> simp) hne
  have hin : 0 ≤ wantF q v → (underF (filtF q v) (colQ q)).1 ≤ wantF q v ∧ wantF q v ≤ (underF (filtF q v) (colQ q)).2 := by
    intro hw
    have h4 : 4 ≤ q.kind := by
      rcases (by omega : 4 ≤ q.kind ∨ ¬ 4 ≤ q.kind) with h | h
      · exact h
      · unfold wantF at hw; rw [if_neg h] at hw; omega
    have hwv : wantF q v = ((v % 16 : Nat) : Int) := by unfold wantF; rw [if_pos h4]
    rw [hwv]
    unfold capF at hne
    rw [if_neg (by omega), hsat] at hne
    cases hb : inB_ (underF (filtF q v) (colQ q)) ((v % 16 : Nat) : Int) with
    | true => unfold inB_ at hb; exact of_decide_eq_true hb
    | false => rw [hb] at hne; simp at hne
  refine ⟨hsat, hin, ?_⟩
  have hm := extr_match hfv hsat hin
  unfold termF
  rw [hm, if_pos rfl]
  unfold unitF capF expF
  by_cases h3 : q.kind ≤ 3
  · have hwn : wantF q v = -1 := by unfold wantF; rw [if_neg (by omega)]
    have hcol : fldI (extrF (filtF q v) (colQ q) (wantF q v)) q.col = (underF (filtF q v) q.col).2 := by
      rw [extr_fld hc0 hc3, if_neg (by rw [hwn]; omega), large_sat hsat hc0 hc3]
    rw [if_pos h3, hsat, if_pos rfl, hcol]
    rcases (by omega : q.kind = 1 ∨ q.kind = 2 ∨ q.kind = 3) with e | e | e
    · simp [e]
    · simp [e, Int.pow_succ]
    · simp [e]
  · have hwv : wantF q v = ((v % 16 : Nat) : Int) := by unfold wantF; rw [if_pos (by omega)]
    have hf : fldI (extrF (filtF q v) (colQ q) (wantF q v)) (colQ q) = ((v % 16 : Nat) : Int) := by
      rw [extr_fld hcq.1 hcq.2, if_pos ⟨by rw [hwv]; omega, rfl⟩, hwv]
    rw [if_neg (show ¬ q.kind = 1 by omega), if_neg (show ¬ q.kind = 2 by omega), if_neg (show ¬ q.kind = 3 by omega), if_pos hf, if_neg h3, hsat]
    have hb := hin (by rw [hwv]; omega)
    rw [hwv] at hb
    rw [show inB_ (underF (filtF q v) (colQ q)) ((v % 16 : Nat) : Int) = true from decide_eq_true hb]
    rfl
theorem total_rep {q : Qy} {v : Nat} {r : Rd} : ∀ n : Nat, totalF q (List.replicate n r) v = n * termF q v r
  | 0 => by simp [totalF]
  | n + 1 => by
    have h := total_rep (q := q) (v := v) (r := r) n
    have h3 : totalF q (List.replicate (n + 1) r) v = termF q v r + totalF q (List.replicate n r) v := by simp [totalF, List.replicate_succ]
    rw [h3, h, Int.natCast_add, Int.natCast_one, Int.add_mul, Int.one_mul, Int.add_comm]
set_option maxRecDepth 100000 in
set_option maxHeartbeats 4000000 in
theorem extremeL14 {l : List Cd} {col v : Int} {A : Option Addr} {c : Nat} {S : Nat → Prop} (w : World) (h : Sl cdE S w A c l) (hc0 : 0 ≤ col) (hc3 : col ≤ 3) :
    Calls Tryd.prog 22 #[.slice A l.length c, .int .i64 col, .int .i64 v] w fun e w' => e = .returned (.agg #[.int .i64 (extrF l col v).who, .int .i64 (extrF l col v).whn, .int .i64 (extrF l col v).knd, .int .i64 (extrF l col v).val]) ∧ Below w.heap.size w w' := by
  have hm := h.max
  have H := Lib.hid h
  obtain ⟨a0, e0⟩ : ∃ a, largeF l 0 = a := ⟨_, rfl⟩
  obtain ⟨a1, e1⟩ : ∃ a, largeF l 1 = a := ⟨_, rfl⟩
  obtain ⟨a2, e2⟩ : ∃ a, largeF l 2 = a := ⟨_, rfl⟩
  obtain ⟨a3, e3⟩ : ∃ a, largeF l 3 = a := ⟨_, rfl⟩
  clear h
  obtain ⟨r, hr⟩ : ∃ r, extrF l col v = r := ⟨_, rfl⟩
  rw [hr]
  have HR := Lib.hid hr
  clear hr
  have HE := Lib.hid (show (a0, a1, a2, a3) = (largeF l 0, largeF l 1, largeF l 2, largeF l 3) by rw [e0, e1, e2, e3])
  go_enter Tryd.func22, Tryd.ntmps22
  go_upto_if 18 with (go_at_call 24; refine (largeRef _ (H.out.keep (by repeat' (first | with_reducible exact Agree.refl _ _ | with_reducible assumption | with_reducible refine Agree.alloc ?_ _ | with_reducible refine Agree.drew ?_ | with_reducible refine Agree.drewN ?_ _ | with_reducible refine Agree.call ?_ (by with_reducible assumption)))) (by omega) (by omega)).mono ?_; (try rw [e0]); (try rw [e1]); (try rw [e2]); (try rw [e3]); rintro e w2 ⟨rfl, rfl⟩)
  go_cut [7] (fun s wx => s = .slice (some ⟨w.heap.size + 1, 0, none⟩) 4 4 ∧ Hid (wx.heap[w.heap.size + 1]? = some (.cells #[.int .i64 r.who, .int .i64 r.whn, .int .i64 r.knd, .int .i64 r.val] 3 (0, 0))) ∧ Hid (wx.heap[w.heap.size]? = some (.cells #[.int .i64 0, .int .i64 0, .int .i64 0, .int .i64 0] 40 (0, 0))) ∧ Below w.heap.size w wx)
  case first =>
    clear e0 e1 e2 e3
    by_cases hv : 0 ≤ v
    · rcases (by omega : col = 0 ∨ col = 1 ∨ col = 2 ∨ col = 3) with rfl | rfl | rfl | rfl
      · have HX := Lib.hid (show r = ⟨v, a1, a2, a3⟩ by rw [← HR.out]; have h := HE.out; simp only [Prod.mk.injEq] at h; obtain ⟨h0, h1, h2, h3⟩ := h; unfold extrF; rw [← h0, ← h1, ← h2, ← h3]; simp [hv])
        go_wp2_with fail
        go_meet
        rw [HX.out]
        exact ⟨rfl, Lib.hid (by first | exact heap_alloc_at (by simp) | exact heap_set (i := 0) (heap_alloc_at (by simp))), Lib.hid (by first | exact (Below.heap_alloc _ _ _ (by simp)).trans (heap_alloc_at rfl) | exact (Below.heap_setCell _ _ _ _ (by simp)).trans ((Below.heap_alloc _ _ _ (by simp)).trans (heap_alloc_at rfl))), (by repeat' (first | with_reducible exact Below.refl _ _ | with_reducible assumption | with_reducible refine Below.setCell ?_ ?_ _ | with_reducible refine Below.drew ?_ | with_reducible refine below_drewN ?_ _ | with_reducible refine Below.alloc ?_ ?_ _ | (rintro _ ⟨⟩; simp <;> omega) | omega | (simp <;> omega)))⟩
      · have HX := Lib.hid (show r = ⟨a0, v, a2, a3⟩ by rw [← HR.out]; have h := HE.out; simp only [Prod.mk.injEq] at h; obtain ⟨h0, h1, h2, h3⟩ := h; unfold extrF; rw [← h0, ← h1, ← h2, ← h3]; simp [hv])
        go_wp2_with fail
        go_meet
        rw [HX.out]
        exact ⟨rfl, Lib.hid (by first | exact heap_alloc_at (by simp) | exact heap_set (i := 1) (heap_alloc_at (by simp))), Lib.hid (by first | exact (Below.heap_alloc _ _ _ (by simp)).trans (heap_alloc_at rfl) | exact (Below.heap_setCell _ _ _ _ (by simp)).trans ((Below.heap_alloc _ _ _ (by simp)).trans (heap_alloc_at rfl))), (by repeat' (first | with_reducible exact Below.refl _ _ | with_reducible assumption | with_reducible refine Below.setCell ?_ ?_ _ | with_reducible refine Below.drew ?_ | with_reducible refine below_drewN ?_ _ | with_reducible refine Below.alloc ?_ ?_ _ | (rintro _ ⟨⟩; simp <;> omega) | omega | (simp <;> omega)))⟩
      · have HX := Lib.hid (show r = ⟨a0, a1, v, a3⟩ by rw [← HR.out]; have h := HE.out; simp only [Prod.mk.injEq] at h; obtain ⟨h0, h1, h2, h3⟩ := h; unfold extrF; rw [← h0, ← h1, ← h2, ← h3]; simp [hv])
        go_wp2_with fail
        go_meet
        rw [HX.out]
        exact ⟨rfl, Lib.hid (by first | exact heap_alloc_at (by simp) | exact heap_set (i := 2) (heap_alloc_at (by simp))), Lib.hid (by first | exact (Below.heap_alloc _ _ _ (by simp)).trans (heap_alloc_at rfl) | exact (Below.heap_setCell _ _ _ _ (by simp)).trans ((Below.heap_alloc _ _ _ (by simp)).trans (heap_alloc_at rfl))), (by repeat' (first | with_reducible exact Below.refl _ _ | with_reducible assumption | with_reducible refine Below.setCell ?_ ?_ _ | with_reducible refine Below.drew ?_ | with_reducible refine below_drewN ?_ _ | with_reducible refine Below.alloc ?_ ?_ _ | (rintro _ ⟨⟩; simp <;> omega) | omega | (simp <;> omega)))⟩
      · have HX := Lib.hid (show r = ⟨a0, a1, a2, v⟩ by rw [← HR.out]; have h := HE.out; simp only [Prod.mk.injEq] at h; obtain ⟨h0, h1, h2, h3⟩ := h; unfold extrF; rw [← h0, ← h1, ← h2, ← h3]; simp [hv])
        go_wp2_with fail
        go_meet
        rw [HX.out]
        exact ⟨rfl, Lib.hid (by first | exact heap_alloc_at (by simp) | exact heap_set (i := 3) (heap_alloc_at (by simp))), Lib.hid (by first | exact (Below.heap_alloc _ _ _ (by simp)).trans (heap_alloc_at rfl) | exact (Below.heap_setCell _ _ _ _ (by simp)).trans ((Below.heap_alloc _ _ _ (by simp)).trans (heap_alloc_at rfl))), (by repeat' (first | with_reducible exact Below.refl _ _ | with_reducible assumption | with_reducible refine Below.setCell ?_ ?_ _ | with_reducible refine Below.drew ?_ | with_reducible refine below_drewN ?_ _ | with_reducible refine Below.alloc ?_ ?_ _ | (rintro _ ⟨⟩; simp <;> omega) | omega | (simp <;> omega)))⟩
    · have hv' : v < 0 := by omega
      have HX := Lib.hid (show r = ⟨a0, a1, a2, a3⟩ by rw [← HR.out]; have h := HE.out; simp only [Prod.mk.injEq] at h; obtain ⟨h0, h1, h2, h3⟩ := h; unfold extrF; rw [← h0, ← h1, ← h2, ← h3]; simp [hv])
      clear hv
      go_wp2_with fail
      go_meet
      rw [HX.out]
      exact ⟨rfl, Lib.hid (heap_alloc_at (by simp)), Lib.hid ((Below.heap_alloc _ _ _ (by simp)).trans (heap_alloc_at rfl)), (by repeat' (first | with_reducible exact Below.refl _ _ | with_reducible assumption | with_reducible refine Below.setCell ?_ ?_ _ | with_reducible refine Below.drew ?_ | with_reducible refine below_drewN ?_ _ | with_reducible refine Below.alloc ?_ ?_ _ | (rintro _ ⟨⟩; simp <;> omega) | omega | (simp <;> omega)))⟩
  obtain ⟨rfl, g1, g0, hb⟩ := hcut
  obtain ⟨x0, x1, x2, x3⟩ := row4 g1
  obtain ⟨y0, y1, y2, y3⟩ := row4 g0
  have f0 := frz g0.out
  have l1 := heap_lt g1.out
  have hbb := Lib.hid hb
  go_wp2_with fail
  go_region_law (fail)
  all_goals
    go_wp2_with fail
    exact bodyPost_ret (v := .agg #[.int .i64 r.who, .int .i64 r.whn, .int .i64 r.knd, .int .i64 r.val]) (by simp [results, Tryd.results22, go_sem, *]) rfl ⟨rfl, (by repeat' (first | with_reducible exact Below.refl _ _ | with_reducible assumption | with_reducible refine Below.setCell ?_ ?_ _ | with_reducible refine Below.drew ?_ | with_reducible refine below_drewN ?_ _ | with_reducible refine Below.alloc ?_ ?_ _ | (rintro _ ⟨⟩; simp <;> omega) | omega | (simp <;> omega)))⟩
end Go.Proofs.YtihcaoipemcddaaDoor
