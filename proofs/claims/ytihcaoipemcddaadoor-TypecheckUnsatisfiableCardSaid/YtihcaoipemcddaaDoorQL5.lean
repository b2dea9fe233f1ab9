/-
  The law 'TypecheckUnsatisfiable', walked: it returns true for every input, and nothing that existed changes. Condition: the package's map lies as its text lays it.
-/
import Derived.Test.YtihcaoipemcddaaDoorQ22
import Derived.Test.YtihcaoipemcddaaDoorQP2
import Derived.Test.YtihcaoipemcddaaDoorRaw
namespace Go.Proofs.YtihcaoipemcddaaDoor
open Go.RowKit

theorem set4 {W : World} {g : Nat} {t : TypeId} {a b c d u v x y : Value} (h : W.heap[g]? = some (.cells #[a, b, c, d] t (0, 0))) :
    ((((W.setCell ⟨g, 0, none⟩ u).setCell ⟨g, 1, none⟩ v).setCell ⟨g, 2, none⟩ x).setCell ⟨g, 3, none⟩ y).heap[g]? = some (.cells #[u, v, x, y] t (0, 0)) :=
  heap_set (i := 3) (heap_set (i := 2) (heap_set (i := 1) (heap_set (i := 0) h)))
theorem set3 {W : World} {g : Nat} {t : TypeId} {a b c u v x : Value} (h : W.heap[g]? = some (.cells #[a, b, c] t (0, 0))) :
    (((W.setCell ⟨g, 0, none⟩ u).setCell ⟨g, 1, none⟩ v).setCell ⟨g, 2, none⟩ x).heap[g]? = some (.cells #[u, v, x] t (0, 0)) :=
  heap_set (i := 2) (heap_set (i := 1) (heap_set (i := 0) h))
def othC (d : Cd) : Cd := ⟨d.col, d.hi + 1, maxC d.col⟩
theorem oth_valid {d : Cd} (h : ValidCd d) (hle : d.hi + 1 ≤ maxC d.col) : ValidCd (othC d) := by
  obtain ⟨h1, h2, h3, h4⟩ := h
  exact ⟨h1, by show 0 ≤ d.hi + 1; omega, hle, Int.le_refl _⟩
theorem oth_sat {d : Cd} (h : ValidCd d) : satB [d, othC d] = false := by
  obtain ⟨⟨h1, h2⟩, h3, h4, h5⟩ := h
  have hu : ¬ (underF [d, othC d] d.col).1 ≤ (underF [d, othC d] d.col).2 := by
    unfold underF
    simp only [List.foldl_cons, List.foldl_nil]
    unfold spanStep othC
    simp only [if_true]
    omega
  unfold satB
  refine decide_eq_false fun hh => ?_
  rcases (by omega : d.col = 0 ∨ d.col = 1 ∨ d.col = 2 ∨ d.col = 3) with e | e | e | e <;> rw [e] at hu <;> omega
theorem oth_match (d : Cd) (r : Rd) : matchB [d, othC d] r = false := by
  unfold matchB
  simp only [List.all_cons, List.all_nil, Bool.and_true]
  unfold matchT othC
  simp
  omega
/-- The query with the two conditions. -/
def othQ (x : Qy) (d : Cd) : Qy := ⟨x.kind, x.col, x.k, x.fs.set 0 [d, othC d]⟩
theorem othQ_valid {x : Qy} (hx : ValidQ x) {d : Cd} (hd : ValidCd d) (hle : d.hi + 1 ≤ maxC d.col) : ValidQ (othQ x d) := by
  refine ⟨?_, fun l hl => ?_⟩
  · obtain ⟨h1, h2, h3, h4, h5, h6, h7⟩ := hx.head
    exact ⟨h1, h2, h3, h4, h5, h6, by show (x.fs.set 0 _).length = _; rw [List.length_set]; exact h7⟩
  · rcases List.mem_or_eq_of_mem_set hl with h | h
    · exact hx.flt l h
    · subst h
      exact ⟨by simp, fun c hc => by
        simp only [List.mem_cons, List.not_mem_nil, or_false] at hc
        rcases hc with rfl | rfl
        · exact hd
        · exact oth_valid hd hle⟩
theorem othQ_fl {x : Qy} {d : Cd} (h : 0 < x.fs.length) : fl (othQ x d) 0 = [d, othC d] := by
  unfold fl othQ
  rw [List.getD_eq_getElem?_getD, List.getElem?_set_self h]; rfl
theorem othQ_ok {x : Qy} (hx : ValidQ x) {d : Cd} (hd : ValidCd d) (hle : d.hi + 1 ≤ maxC d.col) {n : Int} (h0 : 0 ≤ n) (h1 : n ≤ 65536) : (boundF (othQ x d) n).2 = true := by
  have hf0 : 0 < x.fs.length := by rw [hx.head.2.2.2.2.2.2]; unfold nFilF; split <;> omega
  unfold boundF
  rw [othQ_fl hf0, oth_sat hd]
  split
  · rfl
  · split <;> rfl
theorem othQ_cap {x : Qy} (hx : ValidQ x) {d : Cd} (hd : ValidCd d) {v : Nat} (hv : v < 16) : capF (othQ x d) v = 0 := by
  have hf0 : 0 < x.fs.length := by rw [hx.head.2.2.2.2.2.2]; unfold nFilF; split <;> omega
  have hff : filtF (othQ x d) v = [d, othC d] := by
    unfold filtF
    rw [show v / 16 = 0 from by omega, othQ_fl hf0]
    split <;> rfl
  unfold capF
  rw [hff, oth_sat hd]
  simp
theorem own_gen {w : World} {N0 : Nat} {e : TypeId} {v : Value} {xs : List (List Cd)} (h : Own cdE.slice (OwnS N0 v) w N0 e v xs) : ∃ N, N = N0 ∧ Own cdE.slice (fun b => OwnS N v b ∧ b < w.heap.size) w N e v xs :=
  ⟨N0, rfl, h.sub fun b hb hl => ⟨hb, hl⟩⟩
theorem own_to {w : World} {N0 N M : Nat} {e : TypeId} {v : Value} {xs : List (List Cd)} (h : Own cdE.slice (fun b => OwnS N v b ∧ b < M) w N e v xs) (hN : N0 ≤ N) : Own cdE.slice (OwnS N0 v) w N0 e v xs :=
  Own.lower (Own.sub h fun b hb _ => ⟨Nat.le_trans hN hb.1.1, hb.1.2⟩) hN
theorem raw_set0 {S : Nat → Prop} {w : World} {vs : List Value} {u : Value} (hu : u.oneCell' = true) (h : Elems Enc.raw S w vs vs) : Elems Enc.raw S w (vs.set 0 u) (vs.set 0 u) := by
  cases vs with
  | nil => exact h
  | cons v vs =>
    obtain ⟨c, d, e, ⟨hc, _⟩, hd⟩ := h
    subst hc
    have e2 : vs = d := by injection e
    exact ⟨[u], vs, rfl, ⟨rfl, hu⟩, by rw [e2] at hd ⊢; exact hd⟩
theorem Sl.len_ {α : Type} {E : Enc α} {S : Nat → Prop} {w : World} {A : Option Addr} {c : Nat} {xs ys : List α} (h : Sl E S w A c xs) (e : xs = ys) : Sl E S w A c ys := e ▸ h
theorem matchN {l : List Cd} {r : Rd} {A : Option Addr} {c n : Nat} {S : Nat → Prop} (hn : l.length = n) (w : World) (h : Sl cdE S w A c l) (hv : ∀ x ∈ l, ValidCd x) :
    Calls Tryd.prog 27 #[.slice A n c, .agg #[.int .i64 r.who, .int .i64 r.whn, .int .i64 r.knd, .int .i64 r.val]] w fun e w' => e = .returned (.bool (matchB l r)) ∧ Below w.heap.size w w' := by
  subst hn; exact matchRef w h hv
def qL5A : List FRow := [(0, ([], (16, [3]))), (1, ([0], (17, [15]))), (2, ([], (18, [4]))), (3, ([2, 1], (19, [17]))), (4, ([], (9, []))), (5, ([], (10, []))), (6, ([4, 1, 3, 0, 1, 4, 5], (0, [8, 16]))), (7, ([5, 3, 6, 0, 1, 2, 3, 4, 5, 6], (0, [9, 18])))]
def qL5B : List FRow := [(0, ([], (20, [9]))), (1, ([0], (21, [19]))), (2, ([], (22, [9]))), (3, ([2], (23, [21]))), (4, ([3], (24, [22]))), (5, ([], (25, [9]))), (6, ([5], (26, [24]))), (7, ([6], (27, [25]))), (8, ([1, 4, 7], (28, [20, 23, 26]))), (9, ([], (11, []))), (10, ([9, 8, 7, 0, 1, 2, 3, 4, 5, 6, 7, 8, 9], (0, [10, 27])))]
def qL5C : List FRow := [(0, ([], (46, [12]))), (1, ([0], (47, [45]))), (2, ([1], (48, [46]))), (3, ([2], (49, [11, 47]))), (4, ([3, 2], (50, [48, 47]))), (5, ([4, 2], (51, [49, 47]))), (6, ([2], (52, [8, 47]))), (7, ([6, 2, 2], (53, [51, 47]))), (8, ([5, 7, 2], (54, [50, 52, 47]))), (9, ([2, 8], (55, [47, 53])))]
def qL5D : List FRow := [(0, ([], (73, [8]))), (1, ([0], (74, [72]))), (2, ([1], (75, [73]))), (3, ([2], (76, [74]))), (4, ([], (77, [5]))), (5, ([4], (78, [76]))), (6, ([3, 5, 5], (79, [75, 77]))), (7, ([6], (80, [78]))), (8, ([7, 6], (81, [79]))), (9, ([8], (82, [7, 80]))), (10, ([8, 9], (83, [80, 81]))), (11, ([10, 8, 0, 1, 2, 3, 4, 5, 6, 7, 8, 9, 10], (7, [82])))]
set_option maxRecDepth 100000 in
set_option maxHeartbeats 8000000 in
theorem walk_TypecheckUnsatisfiable {q : Qy} {cd : Cd} {rd : Rd} {A : Option Addr} {c : Nat} (w : World) (hw : WidOk w) (h : Sl cdE.slice (fun _ => True) w A c q.fs) (_hc : -9223372036854775808 ≤ q.col ∧ q.col ≤ 9223372036854775807) :
    Calls Tryd.prog 8 #[(.agg #[.int .i64 q.kind, .int .i64 q.col, .int .i64 q.k, .slice A q.fs.length c]), .agg #[.int .i64 cd.col, .int .i64 cd.lo, .int .i64 cd.hi], .agg #[.int .i64 rd.who, .int .i64 rd.whn, .int .i64 rd.knd, .int .i64 rd.val]] w fun e w' => e = .returned (.bool true) ∧ Below w.heap.size w w' := by
  have HW := Lib.hid hw
  have H := Lib.hid h
  have hm := h.max
  clear hw h
  go_enter Tryd.func8, Tryd.ntmps8
  go_upto_region 1 with fail
  refine wp_world (F := fun wx => Below w.heap.size w wx ∧ Hid (wx.heap[w.heap.size]? = some (.cells #[.int .i64 q.kind, .int .i64 q.col, .int .i64 q.k, .slice A q.fs.length c] 24 (0, 0))) ∧ Hid (wx.heap[w.heap.size + 1]? = some (.cells #[.int .i64 cd.col, .int .i64 cd.lo, .int .i64 cd.hi] 49 (0, 0))) ∧ Hid (wx.heap[w.heap.size + 1 + 1]? = some (.cells #[.int .i64 rd.who, .int .i64 rd.whn, .int .i64 rd.knd, .int .i64 rd.val] 40 (0, 0)))) ⟨(by repeat' (first | with_reducible exact Below.refl _ _ | with_reducible assumption | with_reducible refine Below.setCell ?_ ?_ _ | with_reducible refine Below.drew ?_ | with_reducible refine below_drewN ?_ _ | with_reducible refine Below.alloc ?_ ?_ _ | (rintro _ ⟨⟩; simp <;> omega) | omega | (simp <;> omega))), Lib.hid ((Below.heap_alloc _ _ _ (by simp; omega)).trans ((Below.heap_alloc _ _ _ (by simp)).trans (heap_alloc_at rfl))), Lib.hid ((Below.heap_alloc _ _ _ (by simp)).trans (heap_alloc_at (by simp))), Lib.hid (heap_alloc_at (by simp))⟩ ?_
  rintro w1 ⟨bb, gq, gc, gr⟩
  have b1 := Lib.hid bb
  have W1 := mvW HW bb
  clear bb HW
  go_upto_region 2 with (go_at_call 10; refine (sanityL14 _ W1.out).mono ?_; rintro e w2 ⟨rfl, hb2⟩; have b2 := Lib.hid (b1.out.trans (hb2.mono b1.out.size)); have gq2 := mvQ gq hb2; have gc2 := mvQ gc hb2; have gr2 := mvQ gr hb2; have W2 := mvW W1 hb2; clear hb2)
  have H2 := Lib.hid (H.out.keep (Below.agree b2.out))
  clear gq gc gr W1 b1 H
  have zq : ∀ W, Below w2.heap.size w2 W → _ ∧ _ ∧ _ ∧ _ := fun W hW => row4 (mvQ gq2 hW)
  have zc : ∀ W, Below w2.heap.size w2 W → _ ∧ _ ∧ _ := fun W hW => row3 (mvQ gc2 hW)
  have br : Below w2.heap.size w2 w2 := Below.refl _ _
  have ba : ∀ W o, Below w2.heap.size w2 W → Below w2.heap.size w2 (W.alloc o) := fun W o h => h.alloc h.size o
  have bc : ∀ W W', Below w2.heap.size w2 W → Below W.heap.size W W' → Below w2.heap.size w2 W' := fun W W' h k => h.trans (k.mono h.size)
  go_cut [8, 9] (fun p s wx => ∃ (g gd : Nat) (x : Qy) (d : Cd) (B : Option Addr) (e : Nat), p = .pointer (some ⟨g, 0, none⟩) ∧ s = .pointer (some ⟨gd, 0, none⟩) ∧ ValidQ x ∧ NotWide x ∧ ValidCd d ∧ Hid (wx.heap[g]? = some (.cells #[.int .i64 x.kind, .int .i64 x.col, .int .i64 x.k, .slice B x.fs.length e] 24 (0, 0))) ∧ Hid (wx.heap[gd]? = some (.cells #[.int .i64 d.col, .int .i64 d.lo, .int .i64 d.hi] 49 (0, 0))) ∧ Own cdE.slice (OwnS w2.heap.size (.slice B x.fs.length e)) wx w2.heap.size 44 (.slice B x.fs.length e) x.fs ∧ Hid (∀ k, (Value.slice B x.fs.length e).ownBlock = some k → k ≠ g ∧ k ≠ gd) ∧ Below w2.heap.size w2 wx)
  case first =>
    refine wp_region_noPanic ?_
    refine wp_region_held_drew (S := fun X => Below w2.heap.size w2 X) (by kernel_rfl) ?_ (fun hHeld => ?_)
    · (first | (repeat' (first | with_reducible assumption | exact Nat.le_refl _ | with_reducible refine Below.setCell ?_ ?_ _ | with_reducible refine Below.drew ?_ | with_reducible refine ba _ _ ?_ | omega | (simp <;> omega))) | (first | with_reducible assumption | (with_reducible refine Below.drew ?_; with_reducible assumption) | (with_reducible refine ba _ _ ?_; with_reducible assumption) | (with_reducible refine Below.drew ?_; with_reducible refine ba _ _ ?_; with_reducible assumption) | exact Below.refl _ _ | exact (Below.refl _ _).drew | exact (Below.refl _ _).alloc (Nat.le_refl _) _ | (refine bc _ _ (by assumption) (by assumption))))
    refine RegOk.begin_ (n := 8) (T := qL5A) ⟨by kernel_rfl, by kernel_rfl, by kernel_rfl, by kernel_rfl⟩ fun hR => ?_
    refine hR.take (i := 0) (oi := ?ow1_0) (v := ?vw1_0) (m' := 1) ?hw1_0 (by kernel_rfl) (by kernel_rfl) (fun _ _ _ h => h) (Or.inl ⟨?sw1_0, ?yw1_0⟩) (by assumption) ?nw1_0
    case hw1_0 => simp only [List.getElem?_toArray, List.getElem?_cons_succ, List.getElem?_cons_zero]; rfl
    case sw1_0 => rfl
    case yw1_0 => (intro w hSw; (try dsimp only at hSw); go_simp <;> with_reducible rfl)
    try simp only [Act.put, List.setIfInBounds_toArray, List.set_cons_zero, List.set_cons_succ]
    refine hR.take (i := 2) (oi := ?ow2_2) (v := ?vw2_2) (m' := 5) ?hw2_2 (by kernel_rfl) (by kernel_rfl) (fun _ _ _ h => h) (Or.inl ⟨?sw2_2, ?yw2_2⟩) (by assumption) ?nw2_2
    case hw2_2 => simp only [List.getElem?_toArray, List.getElem?_cons_succ, List.getElem?_cons_zero]; rfl
    case sw2_2 => rfl
    case yw2_2 => (intro w hSw; (try dsimp only at hSw); go_simp <;> with_reducible rfl)
    try simp only [Act.put, List.setIfInBounds_toArray, List.set_cons_zero, List.set_cons_succ]
    refine hR.come (rs := [1, 4, 5]) (by kernel_rfl) (by simp) ?_
    refine AllReadyH.cons (o := ?o3_1) ?h3_1 (fun K hK => ?kw3_1) (AllReadyH.cons (o := ?o3_4) ?h3_4 (fun K hK => ?kw3_4) (AllReadyH.cons (o := ?o3_5) ?h3_5 (fun K hK => ?kw3_5) AllReadyH.nil))
    case h3_1 => simp only [List.getElem?_toArray, List.getElem?_cons_succ, List.getElem?_cons_zero]; rfl
    case h3_4 => simp only [List.getElem?_toArray, List.getElem?_cons_succ, List.getElem?_cons_zero]; rfl
    case h3_5 => simp only [List.getElem?_toArray, List.getElem?_cons_succ, List.getElem?_cons_zero]; rfl
    case kw3_1 =>
      go_simp
      go_at_call 19; refine (made14O (q := q) _ (H2.out.keep (Below.agree (by (first | with_reducible assumption | (with_reducible refine Below.drew ?_; with_reducible assumption) | (with_reducible refine ba _ _ ?_; with_reducible assumption) | (with_reducible refine Below.drew ?_; with_reducible refine ba _ _ ?_; with_reducible assumption) | exact Below.refl _ _ | exact (Below.refl _ _).drew | exact (Below.refl _ _).alloc (Nat.le_refl _) _ | (refine bc _ _ (by assumption) (by assumption))))))).mono ?_; rintro e wC ⟨x, hv, hnw, B, d, rfl, hs, hbC⟩; have hk1 := bc _ _ (by (first | with_reducible assumption | (with_reducible refine Below.drew ?_; with_reducible assumption) | (with_reducible refine ba _ _ ?_; with_reducible assumption) | (with_reducible refine Below.drew ?_; with_reducible refine ba _ _ ?_; with_reducible assumption) | exact Below.refl _ _ | exact (Below.refl _ _).drew | exact (Below.refl _ _).alloc (Nat.le_refl _) _ | (refine bc _ _ (by assumption) (by assumption)))) hbC; obtain ⟨hcC, hfC⟩ := bcell hbC; have hzC := hbC.size; (try simp at hzC); (try have hl1 : w2.heap.size < wC.heap.size := (by omega)); (try have hl2 : w2.heap.size + 1 < wC.heap.size := (by omega))
      refine hK.out _ _ ?_ (fun hHeld => ?_)
      · (first | (repeat' (first | with_reducible assumption | exact Nat.le_refl _ | with_reducible refine Below.setCell ?_ ?_ _ | with_reducible refine Below.drew ?_ | with_reducible refine ba _ _ ?_ | omega | (simp <;> omega))) | (first | with_reducible assumption | (with_reducible refine Below.drew ?_; with_reducible assumption) | (with_reducible refine ba _ _ ?_; with_reducible assumption) | (with_reducible refine Below.drew ?_; with_reducible refine ba _ _ ?_; with_reducible assumption) | exact Below.refl _ _ | exact (Below.refl _ _).drew | exact (Below.refl _ _).alloc (Nat.le_refl _) _ | (refine bc _ _ (by assumption) (by assumption))))
      clear hK K
      refine RegOk.put_ (m' := 7) (by kernel_rfl) ?_
      try simp only [Act.put, List.setIfInBounds_toArray, List.set_cons_zero, List.set_cons_succ]
      refine hR.come (rs := [3, 4, 5]) (by kernel_rfl) (by simp) ?_
      refine AllReadyH.cons (o := ?o4_3) ?h4_3 (fun K hK => ?kw4_3) (AllReadyH.cons (o := ?o4_4) ?h4_4 (fun K hK => ?kw4_4) (AllReadyH.cons (o := ?o4_5) ?h4_5 (fun K hK => ?kw4_5) AllReadyH.nil))
      case h4_3 => simp only [List.getElem?_toArray, List.getElem?_cons_succ, List.getElem?_cons_zero]; rfl
      case h4_4 => simp only [List.getElem?_toArray, List.getElem?_cons_succ, List.getElem?_cons_zero]; rfl
      case h4_5 => simp only [List.getElem?_toArray, List.getElem?_cons_succ, List.getElem?_cons_zero]; rfl
      case kw4_3 =>
        go_simp
        go_at_call 23; refine (madeCdP cd _).mono ?_; rintro e wD ⟨y, hy, rfl, hbD⟩; have hk2 := bc _ _ (by (first | with_reducible assumption | (with_reducible refine Below.drew ?_; with_reducible assumption) | (with_reducible refine ba _ _ ?_; with_reducible assumption) | (with_reducible refine Below.drew ?_; with_reducible refine ba _ _ ?_; with_reducible assumption) | exact Below.refl _ _ | exact (Below.refl _ _).drew | exact (Below.refl _ _).alloc (Nat.le_refl _) _ | (refine bc _ _ (by assumption) (by assumption)))) hbD; obtain ⟨hcD, hfD⟩ := bcell hbD; have hzD := hbD.size; (try simp at hzD); (try have hl3 : w2.heap.size < wD.heap.size := (by omega)); (try have hl4 : w2.heap.size + 1 < wD.heap.size := (by omega)); (try have hl5 : wC.heap.size < wD.heap.size := (by omega)); (try have hl6 : wC.heap.size + 1 < wD.heap.size := (by omega))
        refine hK.out _ _ ?_ (fun hHeld => ?_)
        · (first | (repeat' (first | with_reducible assumption | exact Nat.le_refl _ | with_reducible refine Below.setCell ?_ ?_ _ | with_reducible refine Below.drew ?_ | with_reducible refine ba _ _ ?_ | omega | (simp <;> omega))) | (first | with_reducible assumption | (with_reducible refine Below.drew ?_; with_reducible assumption) | (with_reducible refine ba _ _ ?_; with_reducible assumption) | (with_reducible refine Below.drew ?_; with_reducible refine ba _ _ ?_; with_reducible assumption) | exact Below.refl _ _ | exact (Below.refl _ _).drew | exact (Below.refl _ _).alloc (Nat.le_refl _) _ | (refine bc _ _ (by assumption) (by assumption))))
        clear hK K
        refine RegOk.put_ (m' := 15) (by kernel_rfl) ?_
        try simp only [Act.put, List.setIfInBounds_toArray, List.set_cons_zero, List.set_cons_succ]
        refine hR.come (rs := [4, 5]) (by kernel_rfl) (by simp) ?_
        refine AllReadyH.cons (o := ?o5_4) ?h5_4 (fun K hK => ?kw5_4) (AllReadyH.cons (o := ?o5_5) ?h5_5 (fun K hK => ?kw5_5) AllReadyH.nil)
        case h5_4 => simp only [List.getElem?_toArray, List.getElem?_cons_succ, List.getElem?_cons_zero]; rfl
        case h5_5 => simp only [List.getElem?_toArray, List.getElem?_cons_succ, List.getElem?_cons_zero]; rfl
        case kw5_4 =>
          go_simp <;> (try go_wp2_with fail)
          refine hK.out _ _ ?_ (fun hHeld => ?_)
          · (first | (repeat' (first | with_reducible assumption | exact Nat.le_refl _ | with_reducible refine Below.setCell ?_ ?_ _ | with_reducible refine Below.drew ?_ | with_reducible refine ba _ _ ?_ | omega | (simp <;> omega))) | (first | with_reducible assumption | (with_reducible refine Below.drew ?_; with_reducible assumption) | (with_reducible refine ba _ _ ?_; with_reducible assumption) | (with_reducible refine Below.drew ?_; with_reducible refine ba _ _ ?_; with_reducible assumption) | exact Below.refl _ _ | exact (Below.refl _ _).drew | exact (Below.refl _ _).alloc (Nat.le_refl _) _ | (refine bc _ _ (by assumption) (by assumption))))
          clear hK K
          refine RegOk.put_ (m' := 31) (by kernel_rfl) ?_
          try simp only [Act.put, List.setIfInBounds_toArray, List.set_cons_zero, List.set_cons_succ]
          refine hR.come (rs := [5]) (by kernel_rfl) (by simp) ?_
          refine AllReadyH.cons (o := ?o6_5) ?h6_5 (fun K hK => ?kw6_5) AllReadyH.nil
          case h6_5 => simp only [List.getElem?_toArray, List.getElem?_cons_succ, List.getElem?_cons_zero]; rfl
          go_simp <;> (try go_wp2_with fail)
          refine hK.out _ _ ?_ (fun hHeld => ?_)
          · (first | (repeat' (first | with_reducible assumption | exact Nat.le_refl _ | with_reducible refine Below.setCell ?_ ?_ _ | with_reducible refine Below.drew ?_ | with_reducible refine ba _ _ ?_ | omega | (simp <;> omega))) | (first | with_reducible assumption | (with_reducible refine Below.drew ?_; with_reducible assumption) | (with_reducible refine ba _ _ ?_; with_reducible assumption) | (with_reducible refine Below.drew ?_; with_reducible refine ba _ _ ?_; with_reducible assumption) | exact Below.refl _ _ | exact (Below.refl _ _).drew | exact (Below.refl _ _).alloc (Nat.le_refl _) _ | (refine bc _ _ (by assumption) (by assumption))))
          clear hK K
          refine RegOk.put_ (m' := 63) (by kernel_rfl) ?_
          try simp only [Act.put, List.setIfInBounds_toArray, List.set_cons_zero, List.set_cons_succ]
          refine hR.come (rs := [6]) (by kernel_rfl) (by simp) ?_
          refine AllReadyH.cons (o := ?o7_6) ?h7_6 (fun K hK => ?kw7_6) AllReadyH.nil
          case h7_6 => simp only [List.getElem?_toArray, List.getElem?_cons_succ, List.getElem?_cons_zero]; rfl
          go_simp <;> (try go_wp2_with fail)
          refine hK.out _ _ ?_ (fun hHeld => ?_)
          · (first | (repeat' (first | with_reducible assumption | exact Nat.le_refl _ | with_reducible refine Below.setCell ?_ ?_ _ | with_reducible refine Below.drew ?_ | with_reducible refine ba _ _ ?_ | omega | (simp <;> omega))) | (first | with_reducible assumption | (with_reducible refine Below.drew ?_; with_reducible assumption) | (with_reducible refine ba _ _ ?_; with_reducible assumption) | (with_reducible refine Below.drew ?_; with_reducible refine ba _ _ ?_; with_reducible assumption) | exact Below.refl _ _ | exact (Below.refl _ _).drew | exact (Below.refl _ _).alloc (Nat.le_refl _) _ | (refine bc _ _ (by assumption) (by assumption))))
          clear hK K
          refine RegOk.put_ (m' := 127) (by kernel_rfl) ?_
          try simp only [Act.put, List.setIfInBounds_toArray, List.set_cons_zero, List.set_cons_succ]
          refine hR.come (rs := [7]) (by kernel_rfl) (by simp) ?_
          refine AllReadyH.cons (o := ?o8_7) ?h8_7 (fun K hK => ?kw8_7) AllReadyH.nil
          case h8_7 => simp only [List.getElem?_toArray, List.getElem?_cons_succ, List.getElem?_cons_zero]; rfl
          go_simp <;> (try go_wp2_with fail)
          refine hK.out _ _ ?_ (fun hHeld => ?_)
          · (first | (repeat' (first | with_reducible assumption | exact Nat.le_refl _ | with_reducible refine Below.setCell ?_ ?_ _ | with_reducible refine Below.drew ?_ | with_reducible refine ba _ _ ?_ | omega | (simp <;> omega))) | (first | with_reducible assumption | (with_reducible refine Below.drew ?_; with_reducible assumption) | (with_reducible refine ba _ _ ?_; with_reducible assumption) | (with_reducible refine Below.drew ?_; with_reducible refine ba _ _ ?_; with_reducible assumption) | exact Below.refl _ _ | exact (Below.refl _ _).drew | exact (Below.refl _ _).alloc (Nat.le_refl _) _ | (refine bc _ _ (by assumption) (by assumption))))
          clear hK K
          refine RegOk.put_ (m' := 255) (by kernel_rfl) ?_
          try simp only [Act.put, List.setIfInBounds_toArray, List.set_cons_zero, List.set_cons_succ]
          refine hR.all (by kernel_rfl) ?_ _
          refine NoPanic.normal ?_
          go_wp2_with fail
          go_meet
          case rel =>
            obtain ⟨N, hNe, hso⟩ := own_gen hs
            simp at hNe
            have lo := hso.lt
            refine ⟨_, _, x, y, B, d, rfl, rfl, hv, hnw, hy, Lib.hid ?_, Lib.hid ?_, own_to (N := N) (M := wC.heap.size) ?_ (by omega), Lib.hid (fun k hk => by have h1 := lo k hk; omega), by assumption⟩
            · (repeat' (first | with_reducible assumption | (with_reducible refine heap_alloc_at ?_; (first | rfl | (simp [World.setCell]; done))) | with_reducible refine set4 (a := .int .i64 0) (b := .int .i64 0) (c := .int .i64 0) (d := .slice none 0 0) ?_ | with_reducible refine set3 (a := .int .i64 0) (b := .int .i64 0) (c := .int .i64 0) ?_ | (with_reducible refine (Below.heap_setCell _ _ _ _ ?_).trans ?_) | (with_reducible refine (Below.heap_alloc _ _ _ ?_).trans ?_) | (with_reducible refine drew_get_ ?_) | (with_reducible refine (hbD.block _ ?_).trans ?_) | (with_reducible refine (hbC.block _ ?_).trans ?_) | (simp [World.setCell]; done) | omega | (simp [World.setCell] <;> omega)))
            · (repeat' (first | with_reducible assumption | (with_reducible refine heap_alloc_at ?_; (first | rfl | (simp [World.setCell]; done))) | with_reducible refine set4 (a := .int .i64 0) (b := .int .i64 0) (c := .int .i64 0) (d := .slice none 0 0) ?_ | with_reducible refine set3 (a := .int .i64 0) (b := .int .i64 0) (c := .int .i64 0) ?_ | (with_reducible refine (Below.heap_setCell _ _ _ _ ?_).trans ?_) | (with_reducible refine (Below.heap_alloc _ _ _ ?_).trans ?_) | (with_reducible refine drew_get_ ?_) | (with_reducible refine (hbD.block _ ?_).trans ?_) | (with_reducible refine (hbC.block _ ?_).trans ?_) | (simp [World.setCell]; done) | omega | (simp [World.setCell] <;> omega)))
            · repeat' (first | with_reducible exact hso | with_reducible refine Own.set ?_ ?_ ?_ _ | with_reducible refine Own.alloc ?_ _ | with_reducible refine Own.drew ?_ | with_reducible refine Own.call ?_ hbD | (intro e; have h1 := lo _ e; dsimp only at h1; omega) | (rintro ⟨⟨h1, -⟩, h2⟩; dsimp only at h1 h2; omega))
        case kw5_5 =>
          go_simp <;> (try go_wp2_with fail)
          refine hK.out _ _ ?_ (fun hHeld => ?_)
          · (first | (repeat' (first | with_reducible assumption | exact Nat.le_refl _ | with_reducible refine Below.setCell ?_ ?_ _ | with_reducible refine Below.drew ?_ | with_reducible refine ba _ _ ?_ | omega | (simp <;> omega))) | (first | with_reducible assumption | (with_reducible refine Below.drew ?_; with_reducible assumption) | (with_reducible refine ba _ _ ?_; with_reducible assumption) | (with_reducible refine Below.drew ?_; with_reducible refine ba _ _ ?_; with_reducible assumption) | exact Below.refl _ _ | exact (Below.refl _ _).drew | exact (Below.refl _ _).alloc (Nat.le_refl _) _ | (refine bc _ _ (by assumption) (by assumption))))
          clear hK K
          refine RegOk.put_ (m' := 47) (by kernel_rfl) ?_
          try simp only [Act.put, List.setIfInBounds_toArray, List.set_cons_zero, List.set_cons_succ]
          refine hR.come (rs := [4]) (by kernel_rfl) (by simp) ?_
          refine AllReadyH.cons (o := ?o9_4) ?h9_4 (fun K hK => ?kw9_4) AllReadyH.nil
          case h9_4 => simp only [List.getElem?_toArray, List.getElem?_cons_succ, List.getElem?_cons_zero]; rfl
          go_simp <;> (try go_wp2_with fail)
          refine hK.out _ _ ?_ (fun hHeld => ?_)
          · (first | (repeat' (first | with_reducible assumption | exact Nat.le_refl _ | with_reducible refine Below.setCell ?_ ?_ _ | with_reducible refine Below.drew ?_ | with_reducible refine ba _ _ ?_ | omega | (simp <;> omega))) | (first | with_reducible assumption | (with_reducible refine Below.drew ?_; with_reducible assumption) | (with_reducible refine ba _ _ ?_; with_reducible assumption) | (with_reducible refine Below.drew ?_; with_reducible refine ba _ _ ?_; with_reducible assumption) | exact Below.refl _ _ | exact (Below.refl _ _).drew | exact (Below.refl _ _).alloc (Nat.le_refl _) _ | (refine bc _ _ (by assumption) (by assumption))))
          clear hK K
          refine RegOk.put_ (m' := 63) (by kernel_rfl) ?_
          try simp only [Act.put, List.setIfInBounds_toArray, List.set_cons_zero, List.set_cons_succ]
          refine hR.come (rs := [6]) (by kernel_rfl) (by simp) ?_
          refine AllReadyH.cons (o := ?o10_6) ?h10_6 (fun K hK => ?kw10_6) AllReadyH.nil
          case h10_6 => simp only [List.getElem?_toArray, List.getElem?_cons_succ, List.getElem?_cons_zero]; rfl
          go_simp <;> (try go_wp2_with fail)
          refine hK.out _ _ ?_ (fun hHeld => ?_)
          · (first | (repeat' (first | with_reducible assumption | exact Nat.le_refl _ | with_reducible refine Below.setCell ?_ ?_ _ | with_reducible refine Below.drew ?_ | with_reducible refine ba _ _ ?_ | omega | (simp <;> omega))) | (first | with_reducible assumption | (with_reducible refine Below.drew ?_; with_reducible assumption) | (with_reducible refine ba _ _ ?_; with_reducible assumption) | (with_reducible refine Below.drew ?_; with_reducible refine ba _ _ ?_; with_reducible assumption) | exact Below.refl _ _ | exact (Below.refl _ _).drew | exact (Below.refl _ _).alloc (Nat.le_refl _) _ | (refine bc _ _ (by assumption) (by assumption))))
          clear hK K
          refine RegOk.put_ (m' := 127) (by kernel_rfl) ?_
          try simp only [Act.put, List.setIfInBounds_toArray, List.set_cons_zero, List.set_cons_succ]
          refine hR.come (rs := [7]) (by kernel_rfl) (by simp) ?_
          refine AllReadyH.cons (o := ?o11_7) ?h11_7 (fun K hK => ?kw11_7) AllReadyH.nil
          case h11_7 => simp only [List.getElem?_toArray, List.getElem?_cons_succ, List.getElem?_cons_zero]; rfl
          go_simp <;> (try go_wp2_with fail)
          refine hK.out _ _ ?_ (fun hHeld => ?_)
          · (first | (repeat' (first | with_reducible assumption | exact Nat.le_refl _ | with_reducible refine Below.setCell ?_ ?_ _ | with_reducible refine Below.drew ?_ | with_reducible refine ba _ _ ?_ | omega | (simp <;> omega))) | (first | with_reducible assumption | (with_reducible refine Below.drew ?_; with_reducible assumption) | (with_reducible refine ba _ _ ?_; with_reducible assumption) | (with_reducible refine Below.drew ?_; with_reducible refine ba _ _ ?_; with_reducible assumption) | exact Below.refl _ _ | exact (Below.refl _ _).drew | exact (Below.refl _ _).alloc (Nat.le_refl _) _ | (refine bc _ _ (by assumption) (by assumption))))
          clear hK K
          refine RegOk.put_ (m' := 255) (by kernel_rfl) ?_
          try simp only [Act.put, List.setIfInBounds_toArray, List.set_cons_zero, List.set_cons_succ]
          refine hR.all (by kernel_rfl) ?_ _
          refine NoPanic.normal ?_
          go_wp2_with fail
          go_meet
          case rel =>
            obtain ⟨N, hNe, hso⟩ := own_gen hs
            simp at hNe
            have lo := hso.lt
            refine ⟨_, _, x, y, B, d, rfl, rfl, hv, hnw, hy, Lib.hid ?_, Lib.hid ?_, own_to (N := N) (M := wC.heap.size) ?_ (by omega), Lib.hid (fun k hk => by have h1 := lo k hk; omega), by assumption⟩
            · (repeat' (first | with_reducible assumption | (with_reducible refine heap_alloc_at ?_; (first | rfl | (simp [World.setCell]; done))) | with_reducible refine set4 (a := .int .i64 0) (b := .int .i64 0) (c := .int .i64 0) (d := .slice none 0 0) ?_ | with_reducible refine set3 (a := .int .i64 0) (b := .int .i64 0) (c := .int .i64 0) ?_ | (with_reducible refine (Below.heap_setCell _ _ _ _ ?_).trans ?_) | (with_reducible refine (Below.heap_alloc _ _ _ ?_).trans ?_) | (with_reducible refine drew_get_ ?_) | (with_reducible refine (hbD.block _ ?_).trans ?_) | (with_reducible refine (hbC.block _ ?_).trans ?_) | (simp [World.setCell]; done) | omega | (simp [World.setCell] <;> omega)))
            · (repeat' (first | with_reducible assumption | (with_reducible refine heap_alloc_at ?_; (first | rfl | (simp [World.setCell]; done))) | with_reducible refine set4 (a := .int .i64 0) (b := .int .i64 0) (c := .int .i64 0) (d := .slice none 0 0) ?_ | with_reducible refine set3 (a := .int .i64 0) (b := .int .i64 0) (c := .int .i64 0) ?_ | (with_reducible refine (Below.heap_setCell _ _ _ _ ?_).trans ?_) | (with_reducible refine (Below.heap_alloc _ _ _ ?_).trans ?_) | (with_reducible refine drew_get_ ?_) | (with_reducible refine (hbD.block _ ?_).trans ?_) | (with_reducible refine (hbC.block _ ?_).trans ?_) | (simp [World.setCell]; done) | omega | (simp [World.setCell] <;> omega)))
            · repeat' (first | with_reducible exact hso | with_reducible refine Own.set ?_ ?_ ?_ _ | with_reducible refine Own.alloc ?_ _ | with_reducible refine Own.drew ?_ | with_reducible refine Own.call ?_ hbD | (intro e; have h1 := lo _ e; dsimp only at h1; omega) | (rintro ⟨⟨h1, -⟩, h2⟩; dsimp only at h1 h2; omega))
      case kw4_4 =>
        go_simp <;> (try go_wp2_with fail)
        refine hK.out _ _ ?_ (fun hHeld => ?_)
        · (first | (repeat' (first | with_reducible assumption | exact Nat.le_refl _ | with_reducible refine Below.setCell ?_ ?_ _ | with_reducible refine Below.drew ?_ | with_reducible refine ba _ _ ?_ | omega | (simp <;> omega))) | (first | with_reducible assumption | (with_reducible refine Below.drew ?_; with_reducible assumption) | (with_reducible refine ba _ _ ?_; with_reducible assumption) | (with_reducible refine Below.drew ?_; with_reducible refine ba _ _ ?_; with_reducible assumption) | exact Below.refl _ _ | exact (Below.refl _ _).drew | exact (Below.refl _ _).alloc (Nat.le_refl _) _ | (refine bc _ _ (by assumption) (by assumption))))
        clear hK K
        refine RegOk.put_ (m' := 23) (by kernel_rfl) ?_
        try simp only [Act.put, List.setIfInBounds_toArray, List.set_cons_zero, List.set_cons_succ]
        refine hR.come (rs := [3, 5]) (by kernel_rfl) (by simp) ?_
        refine AllReadyH.cons (o := ?o12_3) ?h12_3 (fun K hK => ?kw12_3) (AllReadyH.cons (o := ?o12_5) ?h12_5 (fun K hK => ?kw12_5) AllReadyH.nil)
        case h12_3 => simp only [List.getElem?_toArray, List.getElem?_cons_succ, List.getElem?_cons_zero]; rfl
        case h12_5 => simp only [List.getElem?_toArray, List.getElem?_cons_succ, List.getElem?_cons_zero]; rfl
        case kw12_3 =>
          go_simp
          go_at_call 23; refine (madeCdP cd _).mono ?_; rintro e wD ⟨y, hy, rfl, hbD⟩; have hk2 := bc _ _ (by (first | with_reducible assumption | (with_reducible refine Below.drew ?_; with_reducible assumption) | (with_reducible refine ba _ _ ?_; with_reducible assumption) | (with_reducible refine Below.drew ?_; with_reducible refine ba _ _ ?_; with_reducible assumption) | exact Below.refl _ _ | exact (Below.refl _ _).drew | exact (Below.refl _ _).alloc (Nat.le_refl _) _ | (refine bc _ _ (by assumption) (by assumption)))) hbD; obtain ⟨hcD, hfD⟩ := bcell hbD; have hzD := hbD.size; (try simp at hzD); (try have hl3 : w2.heap.size < wD.heap.size := (by omega)); (try have hl4 : w2.heap.size + 1 < wD.heap.size := (by omega)); (try have hl5 : wC.heap.size < wD.heap.size := (by omega)); (try have hl6 : wC.heap.size + 1 < wD.heap.size := (by omega))
          refine hK.out _ _ ?_ (fun hHeld => ?_)
          · (first | (repeat' (first | with_reducible assumption | exact Nat.le_refl _ | with_reducible refine Below.setCell ?_ ?_ _ | with_reducible refine Below.drew ?_ | with_reducible refine ba _ _ ?_ | omega | (simp <;> omega))) | (first | with_reducible assumption | (with_reducible refine Below.drew ?_; with_reducible assumption) | (with_reducible refine ba _ _ ?_; with_reducible assumption) | (with_reducible refine Below.drew ?_; with_reducible refine ba _ _ ?_; with_reducible assumption) | exact Below.refl _ _ | exact (Below.refl _ _).drew | exact (Below.refl _ _).alloc (Nat.le_refl _) _ | (refine bc _ _ (by assumption) (by assumption))))
          clear hK K
          refine RegOk.put_ (m' := 31) (by kernel_rfl) ?_
          try simp only [Act.put, List.setIfInBounds_toArray, List.set_cons_zero, List.set_cons_succ]
          refine hR.come (rs := [5]) (by kernel_rfl) (by simp) ?_
          refine AllReadyH.cons (o := ?o13_5) ?h13_5 (fun K hK => ?kw13_5) AllReadyH.nil
          case h13_5 => simp only [List.getElem?_toArray, List.getElem?_cons_succ, List.getElem?_cons_zero]; rfl
          go_simp <;> (try go_wp2_with fail)
          refine hK.out _ _ ?_ (fun hHeld => ?_)
          · (first | (repeat' (first | with_reducible assumption | exact Nat.le_refl _ | with_reducible refine Below.setCell ?_ ?_ _ | with_reducible refine Below.drew ?_ | with_reducible refine ba _ _ ?_ | omega | (simp <;> omega))) | (first | with_reducible assumption | (with_reducible refine Below.drew ?_; with_reducible assumption) | (with_reducible refine ba _ _ ?_; with_reducible assumption) | (with_reducible refine Below.drew ?_; with_reducible refine ba _ _ ?_; with_reducible assumption) | exact Below.refl _ _ | exact (Below.refl _ _).drew | exact (Below.refl _ _).alloc (Nat.le_refl _) _ | (refine bc _ _ (by assumption) (by assumption))))
          clear hK K
          refine RegOk.put_ (m' := 63) (by kernel_rfl) ?_
          try simp only [Act.put, List.setIfInBounds_toArray, List.set_cons_zero, List.set_cons_succ]
          refine hR.come (rs := [6]) (by kernel_rfl) (by simp) ?_
          refine AllReadyH.cons (o := ?o14_6) ?h14_6 (fun K hK => ?kw14_6) AllReadyH.nil
          case h14_6 => simp only [List.getElem?_toArray, List.getElem?_cons_succ, List.getElem?_cons_zero]; rfl
          go_simp <;> (try go_wp2_with fail)
          refine hK.out _ _ ?_ (fun hHeld => ?_)
          · (first | (repeat' (first | with_reducible assumption | exact Nat.le_refl _ | with_reducible refine Below.setCell ?_ ?_ _ | with_reducible refine Below.drew ?_ | with_reducible refine ba _ _ ?_ | omega | (simp <;> omega))) | (first | with_reducible assumption | (with_reducible refine Below.drew ?_; with_reducible assumption) | (with_reducible refine ba _ _ ?_; with_reducible assumption) | (with_reducible refine Below.drew ?_; with_reducible refine ba _ _ ?_; with_reducible assumption) | exact Below.refl _ _ | exact (Below.refl _ _).drew | exact (Below.refl _ _).alloc (Nat.le_refl _) _ | (refine bc _ _ (by assumption) (by assumption))))
          clear hK K
          refine RegOk.put_ (m' := 127) (by kernel_rfl) ?_
          try simp only [Act.put, List.setIfInBounds_toArray, List.set_cons_zero, List.set_cons_succ]
          refine hR.come (rs := [7]) (by kernel_rfl) (by simp) ?_
          refine AllReadyH.cons (o := ?o15_7) ?h15_7 (fun K hK => ?kw15_7) AllReadyH.nil
          case h15_7 => simp only [List.getElem?_toArray, List.getElem?_cons_succ, List.getElem?_cons_zero]; rfl
          go_simp <;> (try go_wp2_with fail)
          refine hK.out _ _ ?_ (fun hHeld => ?_)
          · (first | (repeat' (first | with_reducible assumption | exact Nat.le_refl _ | with_reducible refine Below.setCell ?_ ?_ _ | with_reducible refine Below.drew ?_ | with_reducible refine ba _ _ ?_ | omega | (simp <;> omega))) | (first | with_reducible assumption | (with_reducible refine Below.drew ?_; with_reducible assumption) | (with_reducible refine ba _ _ ?_; with_reducible assumption) | (with_reducible refine Below.drew ?_; with_reducible refine ba _ _ ?_; with_reducible assumption) | exact Below.refl _ _ | exact (Below.refl _ _).drew | exact (Below.refl _ _).alloc (Nat.le_refl _) _ | (refine bc _ _ (by assumption) (by assumption))))
          clear hK K
          refine RegOk.put_ (m' := 255) (by kernel_rfl) ?_
          try simp only [Act.put, List.setIfInBounds_toArray, List.set_cons_zero, List.set_cons_succ]
          refine hR.all (by kernel_rfl) ?_ _
          refine NoPanic.normal ?_
          go_wp2_with fail
          go_meet
          case rel =>
            obtain ⟨N, hNe, hso⟩ := own_gen hs
            simp at hNe
            have lo := hso.lt
            refine ⟨_, _, x, y, B, d, rfl, rfl, hv, hnw, hy, Lib.hid ?_, Lib.hid ?_, own_to (N := N) (M := wC.heap.size) ?_ (by omega), Lib.hid (fun k hk => by have h1 := lo k hk; omega), by assumption⟩
            · (repeat' (first | with_reducible assumption | (with_reducible refine heap_alloc_at ?_; (first | rfl | (simp [World.setCell]; done))) | with_reducible refine set4 (a := .int .i64 0) (b := .int .i64 0) (c := .int .i64 0) (d := .slice none 0 0) ?_ | with_reducible refine set3 (a := .int .i64 0) (b := .int .i64 0) (c := .int .i64 0) ?_ | (with_reducible refine (Below.heap_setCell _ _ _ _ ?_).trans ?_) | (with_reducible refine (Below.heap_alloc _ _ _ ?_).trans ?_) | (with_reducible refine drew_get_ ?_) | (with_reducible refine (hbD.block _ ?_).trans ?_) | (with_reducible refine (hbC.block _ ?_).trans ?_) | (simp [World.setCell]; done) | omega | (simp [World.setCell] <;> omega)))
            · (repeat' (first | with_reducible assumption | (with_reducible refine heap_alloc_at ?_; (first | rfl | (simp [World.setCell]; done))) | with_reducible refine set4 (a := .int .i64 0) (b := .int .i64 0) (c := .int .i64 0) (d := .slice none 0 0) ?_ | with_reducible refine set3 (a := .int .i64 0) (b := .int .i64 0) (c := .int .i64 0) ?_ | (with_reducible refine (Below.heap_setCell _ _ _ _ ?_).trans ?_) | (with_reducible refine (Below.heap_alloc _ _ _ ?_).trans ?_) | (with_reducible refine drew_get_ ?_) | (with_reducible refine (hbD.block _ ?_).trans ?_) | (with_reducible refine (hbC.block _ ?_).trans ?_) | (simp [World.setCell]; done) | omega | (simp [World.setCell] <;> omega)))
            · repeat' (first | with_reducible exact hso | with_reducible refine Own.set ?_ ?_ ?_ _ | with_reducible refine Own.alloc ?_ _ | with_reducible refine Own.drew ?_ | with_reducible refine Own.call ?_ hbD | (intro e; have h1 := lo _ e; dsimp only at h1; omega) | (rintro ⟨⟨h1, -⟩, h2⟩; dsimp only at h1 h2; omega))
        case kw12_5 =>
          go_simp <;> (try go_wp2_with fail)
          refine hK.out _ _ ?_ (fun hHeld => ?_)
          · (first | (repeat' (first | with_reducible assumption | exact Nat.le_refl _ | with_reducible refine Below.setCell ?_ ?_ _ | with_reducible refine Below.drew ?_ | with_reducible refine ba _ _ ?_ | omega | (simp <;> omega))) | (first | with_reducible assumption | (with_reducible refine Below.drew ?_; with_reducible assumption) | (with_reducible refine ba _ _ ?_; with_reducible assumption) | (with_reducible refine Below.drew ?_; with_reducible refine ba _ _ ?_; with_reducible assumption) | exact Below.refl _ _ | exact (Below.refl _ _).drew | exact (Below.refl _ _).alloc (Nat.le_refl _) _ | (refine bc _ _ (by assumption) (by assumption))))
          clear hK K
          refine RegOk.put_ (m' := 55) (by kernel_rfl) ?_
          try simp only [Act.put, List.setIfInBounds_toArray, List.set_cons_zero, List.set_cons_succ]
          refine hR.come (rs := [3]) (by kernel_rfl) (by simp) ?_
          refine AllReadyH.cons (o := ?o16_3) ?h16_3 (fun K hK => ?kw16_3) AllReadyH.nil
          case h16_3 => simp only [List.getElem?_toArray, List.getElem?_cons_succ, List.getElem?_cons_zero]; rfl
          go_simp
          go_at_call 23; refine (madeCdP cd _).mono ?_; rintro e wD ⟨y, hy, rfl, hbD⟩; have hk2 := bc _ _ (by (first | with_reducible assumption | (with_reducible refine Below.drew ?_; with_reducible assumption) | (with_reducible refine ba _ _ ?_; with_reducible assumption) | (with_reducible refine Below.drew ?_; with_reducible refine ba _ _ ?_; with_reducible assumption) | exact Below.refl _ _ | exact (Below.refl _ _).drew | exact (Below.refl _ _).alloc (Nat.le_refl _) _ | (refine bc _ _ (by assumption) (by assumption)))) hbD; obtain ⟨hcD, hfD⟩ := bcell hbD; have hzD := hbD.size; (try simp at hzD); (try have hl3 : w2.heap.size < wD.heap.size := (by omega)); (try have hl4 : w2.heap.size + 1 < wD.heap.size := (by omega)); (try have hl5 : wC.heap.size < wD.heap.size := (by omega)); (try have hl6 : wC.heap.size + 1 < wD.heap.size := (by omega))
          refine hK.out _ _ ?_ (fun hHeld => ?_)
          · (first | (repeat' (first | with_reducible assumption | exact Nat.le_refl _ | with_reducible refine Below.setCell ?_ ?_ _ | with_reducible refine Below.drew ?_ | with_reducible refine ba _ _ ?_ | omega | (simp <;> omega))) | (first | with_reducible assumption | (with_reducible refine Below.drew ?_; with_reducible assumption) | (with_reducible refine ba _ _ ?_; with_reducible assumption) | (with_reducible refine Below.drew ?_; with_reducible refine ba _ _ ?_; with_reducible assumption) | exact Below.refl _ _ | exact (Below.refl _ _).drew | exact (Below.refl _ _).alloc (Nat.le_refl _) _ | (refine bc _ _ (by assumption) (by assumption))))
          clear hK K
          refine RegOk.put_ (m' := 63) (by kernel_rfl) ?_
          try simp only [Act.put, List.setIfInBounds_toArray, List.set_cons_zero, List.set_cons_succ]
          refine hR.come (rs := [6]) (by kernel_rfl) (by simp) ?_
          refine AllReadyH.cons (o := ?o17_6) ?h17_6 (fun K hK => ?kw17_6) AllReadyH.nil
          case h17_6 => simp only [List.getElem?_toArray, List.getElem?_cons_succ, List.getElem?_cons_zero]; rfl
          go_simp <;> (try go_wp2_with fail)
          refine hK.out _ _ ?_ (fun hHeld => ?_)
          · (first | (repeat' (first | with_reducible assumption | exact Nat.le_refl _ | with_reducible refine Below.setCell ?_ ?_ _ | with_reducible refine Below.drew ?_ | with_reducible refine ba _ _ ?_ | omega | (simp <;> omega))) | (first | with_reducible assumption | (with_reducible refine Below.drew ?_; with_reducible assumption) | (with_reducible refine ba _ _ ?_; with_reducible assumption) | (with_reducible refine Below.drew ?_; with_reducible refine ba _ _ ?_; with_reducible assumption) | exact Below.refl _ _ | exact (Below.refl _ _).drew | exact (Below.refl _ _).alloc (Nat.le_refl _) _ | (refine bc _ _ (by assumption) (by assumption))))
          clear hK K
          refine RegOk.put_ (m' := 127) (by kernel_rfl) ?_
          try simp only [Act.put, List.setIfInBounds_toArray, List.set_cons_zero, List.set_cons_succ]
          refine hR.come (rs := [7]) (by kernel_rfl) (by simp) ?_
          refine AllReadyH.cons (o := ?o18_7) ?h18_7 (fun K hK => ?kw18_7) AllReadyH.nil
          case h18_7 => simp only [List.getElem?_toArray, List.getElem?_cons_succ, List.getElem?_cons_zero]; rfl
          go_simp <;> (try go_wp2_with fail)
          refine hK.out _ _ ?_ (fun hHeld => ?_)
          · (first | (repeat' (first | with_reducible assumption | exact Nat.le_refl _ | with_reducible refine Below.setCell ?_ ?_ _ | with_reducible refine Below.drew ?_ | with_reducible refine ba _ _ ?_ | omega | (simp <;> omega))) | (first | with_reducible assumption | (with_reducible refine Below.drew ?_; with_reducible assumption) | (with_reducible refine ba _ _ ?_; with_reducible assumption) | (with_reducible refine Below.drew ?_; with_reducible refine ba _ _ ?_; with_reducible assumption) | exact Below.refl _ _ | exact (Below.refl _ _).drew | exact (Below.refl _ _).alloc (Nat.le_refl _) _ | (refine bc _ _ (by assumption) (by assumption))))
          clear hK K
          refine RegOk.put_ (m' := 255) (by kernel_rfl) ?_
          try simp only [Act.put, List.setIfInBounds_toArray, List.set_cons_zero, List.set_cons_succ]
          refine hR.all (by kernel_rfl) ?_ _
          refine NoPanic.normal ?_
          go_wp2_with fail
          go_meet
          case rel =>
            obtain ⟨N, hNe, hso⟩ := own_gen hs
            simp at hNe
            have lo := hso.lt
            refine ⟨_, _, x, y, B, d, rfl, rfl, hv, hnw, hy, Lib.hid ?_, Lib.hid ?_, own_to (N := N) (M := wC.heap.size) ?_ (by omega), Lib.hid (fun k hk => by have h1 := lo k hk; omega), by assumption⟩
            · (repeat' (first | with_reducible assumption | (with_reducible refine heap_alloc_at ?_; (first | rfl | (simp [World.setCell]; done))) | with_reducible refine set4 (a := .int .i64 0) (b := .int .i64 0) (c := .int .i64 0) (d := .slice none 0 0) ?_ | with_reducible refine set3 (a := .int .i64 0) (b := .int .i64 0) (c := .int .i64 0) ?_ | (with_reducible refine (Below.heap_setCell _ _ _ _ ?_).trans ?_) | (with_reducible refine (Below.heap_alloc _ _ _ ?_).trans ?_) | (with_reducible refine drew_get_ ?_) | (with_reducible refine (hbD.block _ ?_).trans ?_) | (with_reducible refine (hbC.block _ ?_).trans ?_) | (simp [World.setCell]; done) | omega | (simp [World.setCell] <;> omega)))
            · (repeat' (first | with_reducible assumption | (with_reducible refine heap_alloc_at ?_; (first | rfl | (simp [World.setCell]; done))) | with_reducible refine set4 (a := .int .i64 0) (b := .int .i64 0) (c := .int .i64 0) (d := .slice none 0 0) ?_ | with_reducible refine set3 (a := .int .i64 0) (b := .int .i64 0) (c := .int .i64 0) ?_ | (with_reducible refine (Below.heap_setCell _ _ _ _ ?_).trans ?_) | (with_reducible refine (Below.heap_alloc _ _ _ ?_).trans ?_) | (with_reducible refine drew_get_ ?_) | (with_reducible refine (hbD.block _ ?_).trans ?_) | (with_reducible refine (hbC.block _ ?_).trans ?_) | (simp [World.setCell]; done) | omega | (simp [World.setCell] <;> omega)))
            · repeat' (first | with_reducible exact hso | with_reducible refine Own.set ?_ ?_ ?_ _ | with_reducible refine Own.alloc ?_ _ | with_reducible refine Own.drew ?_ | with_reducible refine Own.call ?_ hbD | (intro e; have h1 := lo _ e; dsimp only at h1; omega) | (rintro ⟨⟨h1, -⟩, h2⟩; dsimp only at h1 h2; omega))
      case kw4_5 =>
        go_simp <;> (try go_wp2_with fail)
        refine hK.out _ _ ?_ (fun hHeld => ?_)
        · (first | (repeat' (first | with_reducible assumption | exact Nat.le_refl _ | with_reducible refine Below.setCell ?_ ?_ _ | with_reducible refine Below.drew ?_ | with_reducible refine ba _ _ ?_ | omega | (simp <;> omega))) | (first | with_reducible assumption | (with_reducible refine Below.drew ?_; with_reducible assumption) | (with_reducible refine ba _ _ ?_; with_reducible assumption) | (with_reducible refine Below.drew ?_; with_reducible refine ba _ _ ?_; with_reducible assumption) | exact Below.refl _ _ | exact (Below.refl _ _).drew | exact (Below.refl _ _).alloc (Nat.le_refl _) _ | (refine bc _ _ (by assumption) (by assumption))))
        clear hK K
        refine RegOk.put_ (m' := 39) (by kernel_rfl) ?_
        try simp only [Act.put, List.setIfInBounds_toArray, List.set_cons_zero, List.set_cons_succ]
        refine hR.come (rs := [3, 4]) (by kernel_rfl) (by simp) ?_
        refine AllReadyH.cons (o := ?o19_3) ?h19_3 (fun K hK => ?kw19_3) (AllReadyH.cons (o := ?o19_4) ?h19_4 (fun K hK => ?kw19_4) AllReadyH.nil)
        case h19_3 => simp only [List.getElem?_toArray, List.getElem?_cons_succ, List.getElem?_cons_zero]; rfl
        case h19_4 => simp only [List.getElem?_toArray, List.getElem?_cons_succ, List.getElem?_cons_zero]; rfl
        case kw19_3 =>
          go_simp
          go_at_call 23; refine (madeCdP cd _).mono ?_; rintro e wD ⟨y, hy, rfl, hbD⟩; have hk2 := bc _ _ (by (first | with_reducible assumption | (with_reducible refine Below.drew ?_; with_reducible assumption) | (with_reducible refine ba _ _ ?_; with_reducible assumption) | (with_reducible refine Below.drew ?_; with_reducible refine ba _ _ ?_; with_reducible assumption) | exact Below.refl _ _ | exact (Below.refl _ _).drew | exact (Below.refl _ _).alloc (Nat.le_refl _) _ | (refine bc _ _ (by assumption) (by assumption)))) hbD; obtain ⟨hcD, hfD⟩ := bcell hbD; have hzD := hbD.size; (try simp at hzD); (try have hl3 : w2.heap.size < wD.heap.size := (by omega)); (try have hl4 : w2.heap.size + 1 < wD.heap.size := (by omega)); (try have hl5 : wC.heap.size < wD.heap.size := (by omega)); (try have hl6 : wC.heap.size + 1 < wD.heap.size := (by omega))
          refine hK.out _ _ ?_ (fun hHeld => ?_)
          · (first | (repeat' (first | with_reducible assumption | exact Nat.le_refl _ | with_reducible refine Below.setCell ?_ ?_ _ | with_reducible refine Below.drew ?_ | with_reducible refine ba _ _ ?_ | omega | (simp <;> omega))) | (first | with_reducible assumption | (with_reducible refine Below.drew ?_; with_reducible assumption) | (with_reducible refine ba _ _ ?_; with_reducible assumption) | (with_reducible refine Below.drew ?_; with_reducible refine ba _ _ ?_; with_reducible assumption) | exact Below.refl _ _ | exact (Below.refl _ _).drew | exact (Below.refl _ _).alloc (Nat.le_refl _) _ | (refine bc _ _ (by assumption) (by assumption))))
          clear hK K
          refine RegOk.put_ (m' := 47) (by kernel_rfl) ?_
          try simp only [Act.put, List.setIfInBounds_toArray, List.set_cons_zero, List.set_cons_succ]
          refine hR.come (rs := [4]) (by kernel_rfl) (by simp) ?_
          refine AllReadyH.cons (o := ?o20_4) ?h20_4 (fun K hK => ?kw20_4) AllReadyH.nil
          case h20_4 => simp only [List.getElem?_toArray, List.getElem?_cons_succ, List.getElem?_cons_zero]; rfl
          go_simp <;> (try go_wp2_with fail)
          refine hK.out _ _ ?_ (fun hHeld => ?_)
          · (first | (repeat' (first | with_reducible assumption | exact Nat.le_refl _ | with_reducible refine Below.setCell ?_ ?_ _ | with_reducible refine Below.drew ?_ | with_reducible refine ba _ _ ?_ | omega | (simp <;> omega))) | (first | with_reducible assumption | (with_reducible refine Below.drew ?_; with_reducible assumption) | (with_reducible refine ba _ _ ?_; with_reducible assumption) | (with_reducible refine Below.drew ?_; with_reducible refine ba _ _ ?_; with_reducible assumption) | exact Below.refl _ _ | exact (Below.refl _ _).drew | exact (Below.refl _ _).alloc (Nat.le_refl _) _ | (refine bc _ _ (by assumption) (by assumption))))
          clear hK K
          refine RegOk.put_ (m' := 63) (by kernel_rfl) ?_
          try simp only [Act.put, List.setIfInBounds_toArray, List.set_cons_zero, List.set_cons_succ]
          refine hR.come (rs := [6]) (by kernel_rfl) (by simp) ?_
          refine AllReadyH.cons (o := ?o21_6) ?h21_6 (fun K hK => ?kw21_6) AllReadyH.nil
          case h21_6 => simp only [List.getElem?_toArray, List.getElem?_cons_succ, List.getElem?_cons_zero]; rfl
          go_simp <;> (try go_wp2_with fail)
          refine hK.out _ _ ?_ (fun hHeld => ?_)
          · (first | (repeat' (first | with_reducible assumption | exact Nat.le_refl _ | with_reducible refine Below.setCell ?_ ?_ _ | with_reducible refine Below.drew ?_ | with_reducible refine ba _ _ ?_ | omega | (simp <;> omega))) | (first | with_reducible assumption | (with_reducible refine Below.drew ?_; with_reducible assumption) | (with_reducible refine ba _ _ ?_; with_reducible assumption) | (with_reducible refine Below.drew ?_; with_reducible refine ba _ _ ?_; with_reducible assumption) | exact Below.refl _ _ | exact (Below.refl _ _).drew | exact (Below.refl _ _).alloc (Nat.le_refl _) _ | (refine bc _ _ (by assumption) (by assumption))))
          clear hK K
          refine RegOk.put_ (m' := 127) (by kernel_rfl) ?_
          try simp only [Act.put, List.setIfInBounds_toArray, List.set_cons_zero, List.set_cons_succ]
          refine hR.come (rs := [7]) (by kernel_rfl) (by simp) ?_
          refine AllReadyH.cons (o := ?o22_7) ?h22_7 (fun K hK => ?kw22_7) AllReadyH.nil
          case h22_7 => simp only [List.getElem?_toArray, List.getElem?_cons_succ, List.getElem?_cons_zero]; rfl
          go_simp <;> (try go_wp2_with fail)
          refine hK.out _ _ ?_ (fun hHeld => ?_)
          · (first | (repeat' (first | with_reducible assumption | exact Nat.le_refl _ | with_reducible refine Below.setCell ?_ ?_ _ | with_reducible refine Below.drew ?_ | with_reducible refine ba _ _ ?_ | omega | (simp <;> omega))) | (first | with_reducible assumption | (with_reducible refine Below.drew ?_; with_reducible assumption) | (with_reducible refine ba _ _ ?_; with_reducible assumption) | (with_reducible refine Below.drew ?_; with_reducible refine ba _ _ ?_; with_reducible assumption) | exact Below.refl _ _ | exact (Below.refl _ _).drew | exact (Below.refl _ _).alloc (Nat.le_refl _) _ | (refine bc _ _ (by assumption) (by assumption))))
          clear hK K
          refine RegOk.put_ (m' := 255) (by kernel_rfl) ?_
          try simp only [Act.put, List.setIfInBounds_toArray, List.set_cons_zero, List.set_cons_succ]
          refine hR.all (by kernel_rfl) ?_ _
          refine NoPanic.normal ?_
          go_wp2_with fail
          go_meet
          case rel =>
            obtain ⟨N, hNe, hso⟩ := own_gen hs
            simp at hNe
            have lo := hso.lt
            refine ⟨_, _, x, y, B, d, rfl, rfl, hv, hnw, hy, Lib.hid ?_, Lib.hid ?_, own_to (N := N) (M := wC.heap.size) ?_ (by omega), Lib.hid (fun k hk => by have h1 := lo k hk; omega), by assumption⟩
            · (repeat' (first | with_reducible assumption | (with_reducible refine heap_alloc_at ?_; (first | rfl | (simp [World.setCell]; done))) | with_reducible refine set4 (a := .int .i64 0) (b := .int .i64 0) (c := .int .i64 0) (d := .slice none 0 0) ?_ | with_reducible refine set3 (a := .int .i64 0) (b := .int .i64 0) (c := .int .i64 0) ?_ | (with_reducible refine (Below.heap_setCell _ _ _ _ ?_).trans ?_) | (with_reducible refine (Below.heap_alloc _ _ _ ?_).trans ?_) | (with_reducible refine drew_get_ ?_) | (with_reducible refine (hbD.block _ ?_).trans ?_) | (with_reducible refine (hbC.block _ ?_).trans ?_) | (simp [World.setCell]; done) | omega | (simp [World.setCell] <;> omega)))
            · (repeat' (first | with_reducible assumption | (with_reducible refine heap_alloc_at ?_; (first | rfl | (simp [World.setCell]; done))) | with_reducible refine set4 (a := .int .i64 0) (b := .int .i64 0) (c := .int .i64 0) (d := .slice none 0 0) ?_ | with_reducible refine set3 (a := .int .i64 0) (b := .int .i64 0) (c := .int .i64 0) ?_ | (with_reducible refine (Below.heap_setCell _ _ _ _ ?_).trans ?_) | (with_reducible refine (Below.heap_alloc _ _ _ ?_).trans ?_) | (with_reducible refine drew_get_ ?_) | (with_reducible refine (hbD.block _ ?_).trans ?_) | (with_reducible refine (hbC.block _ ?_).trans ?_) | (simp [World.setCell]; done) | omega | (simp [World.setCell] <;> omega)))
            · repeat' (first | with_reducible exact hso | with_reducible refine Own.set ?_ ?_ ?_ _ | with_reducible refine Own.alloc ?_ _ | with_reducible refine Own.drew ?_ | with_reducible refine Own.call ?_ hbD | (intro e; have h1 := lo _ e; dsimp only at h1; omega) | (rintro ⟨⟨h1, -⟩, h2⟩; dsimp only at h1 h2; omega))
        case kw19_4 =>
          go_simp <;> (try go_wp2_with fail)
          refine hK.out _ _ ?_ (fun hHeld => ?_)
          · (first | (repeat' (first | with_reducible assumption | exact Nat.le_refl _ | with_reducible refine Below.setCell ?_ ?_ _ | with_reducible refine Below.drew ?_ | with_reducible refine ba _ _ ?_ | omega | (simp <;> omega))) | (first | with_reducible assumption | (with_reducible refine Below.drew ?_; with_reducible assumption) | (with_reducible refine ba _ _ ?_; with_reducible assumption) | (with_reducible refine Below.drew ?_; with_reducible refine ba _ _ ?_; with_reducible assumption) | exact Below.refl _ _ | exact (Below.refl _ _).drew | exact (Below.refl _ _).alloc (Nat.le_refl _) _ | (refine bc _ _ (by assumption) (by assumption))))
          clear hK K
          refine RegOk.put_ (m' := 55) (by kernel_rfl) ?_
          try simp only [Act.put, List.setIfInBounds_toArray, List.set_cons_zero, List.set_cons_succ]
          refine hR.come (rs := [3]) (by kernel_rfl) (by simp) ?_
          refine AllReadyH.cons (o := ?o23_3) ?h23_3 (fun K hK => ?kw23_3) AllReadyH.nil
          case h23_3 => simp only [List.getElem?_toArray, List.getElem?_cons_succ, List.getElem?_cons_zero]; rfl
          go_simp
          go_at_call 23; refine (madeCdP cd _).mono ?_; rintro e wD ⟨y, hy, rfl, hbD⟩; have hk2 := bc _ _ (by (first | with_reducible assumption | (with_reducible refine Below.drew ?_; with_reducible assumption) | (with_reducible refine ba _ _ ?_; with_reducible assumption) | (with_reducible refine Below.drew ?_; with_reducible refine ba _ _ ?_; with_reducible assumption) | exact Below.refl _ _ | exact (Below.refl _ _).drew | exact (Below.refl _ _).alloc (Nat.le_refl _) _ | (refine bc _ _ (by assumption) (by assumption)))) hbD; obtain ⟨hcD, hfD⟩ := bcell hbD; have hzD := hbD.size; (try simp at hzD); (try have hl3 : w2.heap.size < wD.heap.size := (by omega)); (try have hl4 : w2.heap.size + 1 < wD.heap.size := (by omega)); (try have hl5 : wC.heap.size < wD.heap.size := (by omega)); (try have hl6 : wC.heap.size + 1 < wD.heap.size := (by omega))
          refine hK.out _ _ ?_ (fun hHeld => ?_)
          · (first | (repeat' (first | with_reducible assumption | exact Nat.le_refl _ | with_reducible refine Below.setCell ?_ ?_ _ | with_reducible refine Below.drew ?_ | with_reducible refine ba _ _ ?_ | omega | (simp <;> omega))) | (first | with_reducible assumption | (with_reducible refine Below.drew ?_; with_reducible assumption) | (with_reducible refine ba _ _ ?_; with_reducible assumption) | (with_reducible refine Below.drew ?_; with_reducible refine ba _ _ ?_; with_reducible assumption) | exact Below.refl _ _ | exact (Below.refl _ _).drew | exact (Below.refl _ _).alloc (Nat.le_refl _) _ | (refine bc _ _ (by assumption) (by assumption))))
          clear hK K
          refine RegOk.put_ (m' := 63) (by kernel_rfl) ?_
          try simp only [Act.put, List.setIfInBounds_toArray, List.set_cons_zero, List.set_cons_succ]
          refine hR.come (rs := [6]) (by kernel_rfl) (by simp) ?_
          refine AllReadyH.cons (o := ?o24_6) ?h24_6 (fun K hK => ?kw24_6) AllReadyH.nil
          case h24_6 => simp only [List.getElem?_toArray, List.getElem?_cons_succ, List.getElem?_cons_zero]; rfl
          go_simp <;> (try go_wp2_with fail)
          refine hK.out _ _ ?_ (fun hHeld => ?_)
          · (first | (repeat' (first | with_reducible assumption | exact Nat.le_refl _ | with_reducible refine Below.setCell ?_ ?_ _ | with_reducible refine Below.drew ?_ | with_reducible refine ba _ _ ?_ | omega | (simp <;> omega))) | (first | with_reducible assumption | (with_reducible refine Below.drew ?_; with_reducible assumption) | (with_reducible refine ba _ _ ?_; with_reducible assumption) | (with_reducible refine Below.drew ?_; with_reducible refine ba _ _ ?_; with_reducible assumption) | exact Below.refl _ _ | exact (Below.refl _ _).drew | exact (Below.refl _ _).alloc (Nat.le_refl _) _ | (refine bc _ _ (by assumption) (by assumption))))
          clear hK K
          refine RegOk.put_ (m' := 127) (by kernel_rfl) ?_
          try simp only [Act.put, List.setIfInBounds_toArray, List.set_cons_zero, List.set_cons_succ]
          refine hR.come (rs := [7]) (by kernel_rfl) (by simp) ?_
          refine AllReadyH.cons (o := ?o25_7) ?h25_7 (fun K hK => ?kw25_7) AllReadyH.nil
          case h25_7 => simp only [List.getElem?_toArray, List.getElem?_cons_succ, List.getElem?_cons_zero]; rfl
          go_simp <;> (try go_wp2_with fail)
          refine hK.out _ _ ?_ (fun hHeld => ?_)
          · (first | (repeat' (first | with_reducible assumption | exact Nat.le_refl _ | with_reducible refine Below.setCell ?_ ?_ _ | with_reducible refine Below.drew ?_ | with_reducible refine ba _ _ ?_ | omega | (simp <;> omega))) | (first | with_reducible assumption | (with_reducible refine Below.drew ?_; with_reducible assumption) | (with_reducible refine ba _ _ ?_; with_reducible assumption) | (with_reducible refine Below.drew ?_; with_reducible refine ba _ _ ?_; with_reducible assumption) | exact Below.refl _ _ | exact (Below.refl _ _).drew | exact (Below.refl _ _).alloc (Nat.le_refl _) _ | (refine bc _ _ (by assumption) (by assumption))))
          clear hK K
          refine RegOk.put_ (m' := 255) (by kernel_rfl) ?_
          try simp only [Act.put, List.setIfInBounds_toArray, List.set_cons_zero, List.set_cons_succ]
          refine hR.all (by kernel_rfl) ?_ _
          refine NoPanic.normal ?_
          go_wp2_with fail
          go_meet
          case rel =>
            obtain ⟨N, hNe, hso⟩ := own_gen hs
            simp at hNe
            have lo := hso.lt
            refine ⟨_, _, x, y, B, d, rfl, rfl, hv, hnw, hy, Lib.hid ?_, Lib.hid ?_, own_to (N := N) (M := wC.heap.size) ?_ (by omega), Lib.hid (fun k hk => by have h1 := lo k hk; omega), by assumption⟩
            · (repeat' (first | with_reducible assumption | (with_reducible refine heap_alloc_at ?_; (first | rfl | (simp [World.setCell]; done))) | with_reducible refine set4 (a := .int .i64 0) (b := .int .i64 0) (c := .int .i64 0) (d := .slice none 0 0) ?_ | with_reducible refine set3 (a := .int .i64 0) (b := .int .i64 0) (c := .int .i64 0) ?_ | (with_reducible refine (Below.heap_setCell _ _ _ _ ?_).trans ?_) | (with_reducible refine (Below.heap_alloc _ _ _ ?_).trans ?_) | (with_reducible refine drew_get_ ?_) | (with_reducible refine (hbD.block _ ?_).trans ?_) | (with_reducible refine (hbC.block _ ?_).trans ?_) | (simp [World.setCell]; done) | omega | (simp [World.setCell] <;> omega)))
            · (repeat' (first | with_reducible assumption | (with_reducible refine heap_alloc_at ?_; (first | rfl | (simp [World.setCell]; done))) | with_reducible refine set4 (a := .int .i64 0) (b := .int .i64 0) (c := .int .i64 0) (d := .slice none 0 0) ?_ | with_reducible refine set3 (a := .int .i64 0) (b := .int .i64 0) (c := .int .i64 0) ?_ | (with_reducible refine (Below.heap_setCell _ _ _ _ ?_).trans ?_) | (with_reducible refine (Below.heap_alloc _ _ _ ?_).trans ?_) | (with_reducible refine drew_get_ ?_) | (with_reducible refine (hbD.block _ ?_).trans ?_) | (with_reducible refine (hbC.block _ ?_).trans ?_) | (simp [World.setCell]; done) | omega | (simp [World.setCell] <;> omega)))
            · repeat' (first | with_reducible exact hso | with_reducible refine Own.set ?_ ?_ ?_ _ | with_reducible refine Own.alloc ?_ _ | with_reducible refine Own.drew ?_ | with_reducible refine Own.call ?_ hbD | (intro e; have h1 := lo _ e; dsimp only at h1; omega) | (rintro ⟨⟨h1, -⟩, h2⟩; dsimp only at h1 h2; omega))
    case kw3_4 =>
      go_simp <;> (try go_wp2_with fail)
      refine hK.out _ _ ?_ (fun hHeld => ?_)
      · (first | (repeat' (first | with_reducible assumption | exact Nat.le_refl _ | with_reducible refine Below.setCell ?_ ?_ _ | with_reducible refine Below.drew ?_ | with_reducible refine ba _ _ ?_ | omega | (simp <;> omega))) | (first | with_reducible assumption | (with_reducible refine Below.drew ?_; with_reducible assumption) | (with_reducible refine ba _ _ ?_; with_reducible assumption) | (with_reducible refine Below.drew ?_; with_reducible refine ba _ _ ?_; with_reducible assumption) | exact Below.refl _ _ | exact (Below.refl _ _).drew | exact (Below.refl _ _).alloc (Nat.le_refl _) _ | (refine bc _ _ (by assumption) (by assumption))))
      clear hK K
      refine RegOk.put_ (m' := 21) (by kernel_rfl) ?_
      try simp only [Act.put, List.setIfInBounds_toArray, List.set_cons_zero, List.set_cons_succ]
      refine hR.come (rs := [1, 5]) (by kernel_rfl) (by simp) ?_
      refine AllReadyH.cons (o := ?o26_1) ?h26_1 (fun K hK => ?kw26_1) (AllReadyH.cons (o := ?o26_5) ?h26_5 (fun K hK => ?kw26_5) AllReadyH.nil)
      case h26_1 => simp only [List.getElem?_toArray, List.getElem?_cons_succ, List.getElem?_cons_zero]; rfl
      case h26_5 => simp only [List.getElem?_toArray, List.getElem?_cons_succ, List.getElem?_cons_zero]; rfl
      case kw26_1 =>
        go_simp
        go_at_call 19; refine (made14O (q := q) _ (H2.out.keep (Below.agree (by (first | with_reducible assumption | (with_reducible refine Below.drew ?_; with_reducible assumption) | (with_reducible refine ba _ _ ?_; with_reducible assumption) | (with_reducible refine Below.drew ?_; with_reducible refine ba _ _ ?_; with_reducible assumption) | exact Below.refl _ _ | exact (Below.refl _ _).drew | exact (Below.refl _ _).alloc (Nat.le_refl _) _ | (refine bc _ _ (by assumption) (by assumption))))))).mono ?_; rintro e wC ⟨x, hv, hnw, B, d, rfl, hs, hbC⟩; have hk1 := bc _ _ (by (first | with_reducible assumption | (with_reducible refine Below.drew ?_; with_reducible assumption) | (with_reducible refine ba _ _ ?_; with_reducible assumption) | (with_reducible refine Below.drew ?_; with_reducible refine ba _ _ ?_; with_reducible assumption) | exact Below.refl _ _ | exact (Below.refl _ _).drew | exact (Below.refl _ _).alloc (Nat.le_refl _) _ | (refine bc _ _ (by assumption) (by assumption)))) hbC; obtain ⟨hcC, hfC⟩ := bcell hbC; have hzC := hbC.size; (try simp at hzC); (try have hl1 : w2.heap.size < wC.heap.size := (by omega)); (try have hl2 : w2.heap.size + 1 < wC.heap.size := (by omega))
        refine hK.out _ _ ?_ (fun hHeld => ?_)
        · (first | (repeat' (first | with_reducible assumption | exact Nat.le_refl _ | with_reducible refine Below.setCell ?_ ?_ _ | with_reducible refine Below.drew ?_ | with_reducible refine ba _ _ ?_ | omega | (simp <;> omega))) | (first | with_reducible assumption | (with_reducible refine Below.drew ?_; with_reducible assumption) | (with_reducible refine ba _ _ ?_; with_reducible assumption) | (with_reducible refine Below.drew ?_; with_reducible refine ba _ _ ?_; with_reducible assumption) | exact Below.refl _ _ | exact (Below.refl _ _).drew | exact (Below.refl _ _).alloc (Nat.le_refl _) _ | (refine bc _ _ (by assumption) (by assumption))))
        clear hK K
        refine RegOk.put_ (m' := 23) (by kernel_rfl) ?_
        try simp only [Act.put, List.setIfInBounds_toArray, List.set_cons_zero, List.set_cons_succ]
        refine hR.come (rs := [3, 5]) (by kernel_rfl) (by simp) ?_
        refine AllReadyH.cons (o := ?o27_3) ?h27_3 (fun K hK => ?kw27_3) (AllReadyH.cons (o := ?o27_5) ?h27_5 (fun K hK => ?kw27_5) AllReadyH.nil)
        case h27_3 => simp only [List.getElem?_toArray, List.getElem?_cons_succ, List.getElem?_cons_zero]; rfl
        case h27_5 => simp only [List.getElem?_toArray, List.getElem?_cons_succ, List.getElem?_cons_zero]; rfl
        case kw27_3 =>
          go_simp
          go_at_call 23; refine (madeCdP cd _).mono ?_; rintro e wD ⟨y, hy, rfl, hbD⟩; have hk2 := bc _ _ (by (first | with_reducible assumption | (with_reducible refine Below.drew ?_; with_reducible assumption) | (with_reducible refine ba _ _ ?_; with_reducible assumption) | (with_reducible refine Below.drew ?_; with_reducible refine ba _ _ ?_; with_reducible assumption) | exact Below.refl _ _ | exact (Below.refl _ _).drew | exact (Below.refl _ _).alloc (Nat.le_refl _) _ | (refine bc _ _ (by assumption) (by assumption)))) hbD; obtain ⟨hcD, hfD⟩ := bcell hbD; have hzD := hbD.size; (try simp at hzD); (try have hl3 : w2.heap.size < wD.heap.size := (by omega)); (try have hl4 : w2.heap.size + 1 < wD.heap.size := (by omega)); (try have hl5 : wC.heap.size < wD.heap.size := (by omega)); (try have hl6 : wC.heap.size + 1 < wD.heap.size := (by omega))
          refine hK.out _ _ ?_ (fun hHeld => ?_)
          · (first | (repeat' (first | with_reducible assumption | exact Nat.le_refl _ | with_reducible refine Below.setCell ?_ ?_ _ | with_reducible refine Below.drew ?_ | with_reducible refine ba _ _ ?_ | omega | (simp <;> omega))) | (first | with_reducible assumption | (with_reducible refine Below.drew ?_; with_reducible assumption) | (with_reducible refine ba _ _ ?_; with_reducible assumption) | (with_reducible refine Below.drew ?_; with_reducible refine ba _ _ ?_; with_reducible assumption) | exact Below.refl _ _ | exact (Below.refl _ _).drew | exact (Below.refl _ _).alloc (Nat.le_refl _) _ | (refine bc _ _ (by assumption) (by assumption))))
          clear hK K
          refine RegOk.put_ (m' := 31) (by kernel_rfl) ?_
          try simp only [Act.put, List.setIfInBounds_toArray, List.set_cons_zero, List.set_cons_succ]
          refine hR.come (rs := [5]) (by kernel_rfl) (by simp) ?_
          refine AllReadyH.cons (o := ?o28_5) ?h28_5 (fun K hK => ?kw28_5) AllReadyH.nil
          case h28_5 => simp only [List.getElem?_toArray, List.getElem?_cons_succ, List.getElem?_cons_zero]; rfl
          go_simp <;> (try go_wp2_with fail)
          refine hK.out _ _ ?_ (fun hHeld => ?_)
          · (first | (repeat' (first | with_reducible assumption | exact Nat.le_refl _ | with_reducible refine Below.setCell ?_ ?_ _ | with_reducible refine Below.drew ?_ | with_reducible refine ba _ _ ?_ | omega | (simp <;> omega))) | (first | with_reducible assumption | (with_reducible refine Below.drew ?_; with_reducible assumption) | (with_reducible refine ba _ _ ?_; with_reducible assumption) | (with_reducible refine Below.drew ?_; with_reducible refine ba _ _ ?_; with_reducible assumption) | exact Below.refl _ _ | exact (Below.refl _ _).drew | exact (Below.refl _ _).alloc (Nat.le_refl _) _ | (refine bc _ _ (by assumption) (by assumption))))
          clear hK K
          refine RegOk.put_ (m' := 63) (by kernel_rfl) ?_
          try simp only [Act.put, List.setIfInBounds_toArray, List.set_cons_zero, List.set_cons_succ]
          refine hR.come (rs := [6]) (by kernel_rfl) (by simp) ?_
          refine AllReadyH.cons (o := ?o29_6) ?h29_6 (fun K hK => ?kw29_6) AllReadyH.nil
          case h29_6 => simp only [List.getElem?_toArray, List.getElem?_cons_succ, List.getElem?_cons_zero]; rfl
          go_simp <;> (try go_wp2_with fail)
          refine hK.out _ _ ?_ (fun hHeld => ?_)
          · (first | (repeat' (first | with_reducible assumption | exact Nat.le_refl _ | with_reducible refine Below.setCell ?_ ?_ _ | with_reducible refine Below.drew ?_ | with_reducible refine ba _ _ ?_ | omega | (simp <;> omega))) | (first | with_reducible assumption | (with_reducible refine Below.drew ?_; with_reducible assumption) | (with_reducible refine ba _ _ ?_; with_reducible assumption) | (with_reducible refine Below.drew ?_; with_reducible refine ba _ _ ?_; with_reducible assumption) | exact Below.refl _ _ | exact (Below.refl _ _).drew | exact (Below.refl _ _).alloc (Nat.le_refl _) _ | (refine bc _ _ (by assumption) (by assumption))))
          clear hK K
          refine RegOk.put_ (m' := 127) (by kernel_rfl) ?_
          try simp only [Act.put, List.setIfInBounds_toArray, List.set_cons_zero, List.set_cons_succ]
          refine hR.come (rs := [7]) (by kernel_rfl) (by simp) ?_
          refine AllReadyH.cons (o := ?o30_7) ?h30_7 (fun K hK => ?kw30_7) AllReadyH.nil
          case h30_7 => simp only [List.getElem?_toArray, List.getElem?_cons_succ, List.getElem?_cons_zero]; rfl
          go_simp <;> (try go_wp2_with fail)
          refine hK.out _ _ ?_ (fun hHeld => ?_)
          · (first | (repeat' (first | with_reducible assumption | exact Nat.le_refl _ | with_reducible refine Below.setCell ?_ ?_ _ | with_reducible refine Below.drew ?_ | with_reducible refine ba _ _ ?_ | omega | (simp <;> omega))) | (first | with_reducible assumption | (with_reducible refine Below.drew ?_; with_reducible assumption) | (with_reducible refine ba _ _ ?_; with_reducible assumption) | (with_reducible refine Below.drew ?_; with_reducible refine ba _ _ ?_; with_reducible assumption) | exact Below.refl _ _ | exact (Below.refl _ _).drew | exact (Below.refl _ _).alloc (Nat.le_refl _) _ | (refine bc _ _ (by assumption) (by assumption))))
          clear hK K
          refine RegOk.put_ (m' := 255) (by kernel_rfl) ?_
          try simp only [Act.put, List.setIfInBounds_toArray, List.set_cons_zero, List.set_cons_succ]
          refine hR.all (by kernel_rfl) ?_ _
          refine NoPanic.normal ?_
          go_wp2_with fail
          go_meet
          case rel =>
            obtain ⟨N, hNe, hso⟩ := own_gen hs
            simp at hNe
            have lo := hso.lt
            refine ⟨_, _, x, y, B, d, rfl, rfl, hv, hnw, hy, Lib.hid ?_, Lib.hid ?_, own_to (N := N) (M := wC.heap.size) ?_ (by omega), Lib.hid (fun k hk => by have h1 := lo k hk; omega), by assumption⟩
            · (repeat' (first | with_reducible assumption | (with_reducible refine heap_alloc_at ?_; (first | rfl | (simp [World.setCell]; done))) | with_reducible refine set4 (a := .int .i64 0) (b := .int .i64 0) (c := .int .i64 0) (d := .slice none 0 0) ?_ | with_reducible refine set3 (a := .int .i64 0) (b := .int .i64 0) (c := .int .i64 0) ?_ | (with_reducible refine (Below.heap_setCell _ _ _ _ ?_).trans ?_) | (with_reducible refine (Below.heap_alloc _ _ _ ?_).trans ?_) | (with_reducible refine drew_get_ ?_) | (with_reducible refine (hbD.block _ ?_).trans ?_) | (with_reducible refine (hbC.block _ ?_).trans ?_) | (simp [World.setCell]; done) | omega | (simp [World.setCell] <;> omega)))
            · (repeat' (first | with_reducible assumption | (with_reducible refine heap_alloc_at ?_; (first | rfl | (simp [World.setCell]; done))) | with_reducible refine set4 (a := .int .i64 0) (b := .int .i64 0) (c := .int .i64 0) (d := .slice none 0 0) ?_ | with_reducible refine set3 (a := .int .i64 0) (b := .int .i64 0) (c := .int .i64 0) ?_ | (with_reducible refine (Below.heap_setCell _ _ _ _ ?_).trans ?_) | (with_reducible refine (Below.heap_alloc _ _ _ ?_).trans ?_) | (with_reducible refine drew_get_ ?_) | (with_reducible refine (hbD.block _ ?_).trans ?_) | (with_reducible refine (hbC.block _ ?_).trans ?_) | (simp [World.setCell]; done) | omega | (simp [World.setCell] <;> omega)))
            · repeat' (first | with_reducible exact hso | with_reducible refine Own.set ?_ ?_ ?_ _ | with_reducible refine Own.alloc ?_ _ | with_reducible refine Own.drew ?_ | with_reducible refine Own.call ?_ hbD | (intro e; have h1 := lo _ e; dsimp only at h1; omega) | (rintro ⟨⟨h1, -⟩, h2⟩; dsimp only at h1 h2; omega))
        case kw27_5 =>
          go_simp <;> (try go_wp2_with fail)
          refine hK.out _ _ ?_ (fun hHeld => ?_)
          · (first | (repeat' (first | with_reducible assumption | exact Nat.le_refl _ | with_reducible refine Below.setCell ?_ ?_ _ | with_reducible refine Below.drew ?_ | with_reducible refine ba _ _ ?_ | omega | (simp <;> omega))) | (first | with_reducible assumption | (with_reducible refine Below.drew ?_; with_reducible assumption) | (with_reducible refine ba _ _ ?_; with_reducible assumption) | (with_reducible refine Below.drew ?_; with_reducible refine ba _ _ ?_; with_reducible assumption) | exact Below.refl _ _ | exact (Below.refl _ _).drew | exact (Below.refl _ _).alloc (Nat.le_refl _) _ | (refine bc _ _ (by assumption) (by assumption))))
          clear hK K
          refine RegOk.put_ (m' := 55) (by kernel_rfl) ?_
          try simp only [Act.put, List.setIfInBounds_toArray, List.set_cons_zero, List.set_cons_succ]
          refine hR.come (rs := [3]) (by kernel_rfl) (by simp) ?_
          refine AllReadyH.cons (o := ?o31_3) ?h31_3 (fun K hK => ?kw31_3) AllReadyH.nil
          case h31_3 => simp only [List.getElem?_toArray, List.getElem?_cons_succ, List.getElem?_cons_zero]; rfl
          go_simp
          go_at_call 23; refine (madeCdP cd _).mono ?_; rintro e wD ⟨y, hy, rfl, hbD⟩; have hk2 := bc _ _ (by (first | with_reducible assumption | (with_reducible refine Below.drew ?_; with_reducible assumption) | (with_reducible refine ba _ _ ?_; with_reducible assumption) | (with_reducible refine Below.drew ?_; with_reducible refine ba _ _ ?_; with_reducible assumption) | exact Below.refl _ _ | exact (Below.refl _ _).drew | exact (Below.refl _ _).alloc (Nat.le_refl _) _ | (refine bc _ _ (by assumption) (by assumption)))) hbD; obtain ⟨hcD, hfD⟩ := bcell hbD; have hzD := hbD.size; (try simp at hzD); (try have hl3 : w2.heap.size < wD.heap.size := (by omega)); (try have hl4 : w2.heap.size + 1 < wD.heap.size := (by omega)); (try have hl5 : wC.heap.size < wD.heap.size := (by omega)); (try have hl6 : wC.heap.size + 1 < wD.heap.size := (by omega))
          refine hK.out _ _ ?_ (fun hHeld => ?_)
          · (first | (repeat' (first | with_reducible assumption | exact Nat.le_refl _ | with_reducible refine Below.setCell ?_ ?_ _ | with_reducible refine Below.drew ?_ | with_reducible refine ba _ _ ?_ | omega | (simp <;> omega))) | (first | with_reducible assumption | (with_reducible refine Below.drew ?_; with_reducible assumption) | (with_reducible refine ba _ _ ?_; with_reducible assumption) | (with_reducible refine Below.drew ?_; with_reducible refine ba _ _ ?_; with_reducible assumption) | exact Below.refl _ _ | exact (Below.refl _ _).drew | exact (Below.refl _ _).alloc (Nat.le_refl _) _ | (refine bc _ _ (by assumption) (by assumption))))
          clear hK K
          refine RegOk.put_ (m' := 63) (by kernel_rfl) ?_
          try simp only [Act.put, List.setIfInBounds_toArray, List.set_cons_zero, List.set_cons_succ]
          refine hR.come (rs := [6]) (by kernel_rfl) (by simp) ?_
          refine AllReadyH.cons (o := ?o32_6) ?h32_6 (fun K hK => ?kw32_6) AllReadyH.nil
          case h32_6 => simp only [List.getElem?_toArray, List.getElem?_cons_succ, List.getElem?_cons_zero]; rfl
          go_simp <;> (try go_wp2_with fail)
          refine hK.out _ _ ?_ (fun hHeld => ?_)
          · (first | (repeat' (first | with_reducible assumption | exact Nat.le_refl _ | with_reducible refine Below.setCell ?_ ?_ _ | with_reducible refine Below.drew ?_ | with_reducible refine ba _ _ ?_ | omega | (simp <;> omega))) | (first | with_reducible assumption | (with_reducible refine Below.drew ?_; with_reducible assumption) | (with_reducible refine ba _ _ ?_; with_reducible assumption) | (with_reducible refine Below.drew ?_; with_reducible refine ba _ _ ?_; with_reducible assumption) | exact Below.refl _ _ | exact (Below.refl _ _).drew | exact (Below.refl _ _).alloc (Nat.le_refl _) _ | (refine bc _ _ (by assumption) (by assumption))))
          clear hK K
          refine RegOk.put_ (m' := 127) (by kernel_rfl) ?_
          try simp only [Act.put, List.setIfInBounds_toArray, List.set_cons_zero, List.set_cons_succ]
          refine hR.come (rs := [7]) (by kernel_rfl) (by simp) ?_
          refine AllReadyH.cons (o := ?o33_7) ?h33_7 (fun K hK => ?kw33_7) AllReadyH.nil
          case h33_7 => simp only [List.getElem?_toArray, List.getElem?_cons_succ, List.getElem?_cons_zero]; rfl
          go_simp <;> (try go_wp2_with fail)
          refine hK.out _ _ ?_ (fun hHeld => ?_)
          · (first | (repeat' (first | with_reducible assumption | exact Nat.le_refl _ | with_reducible refine Below.setCell ?_ ?_ _ | with_reducible refine Below.drew ?_ | with_reducible refine ba _ _ ?_ | omega | (simp <;> omega))) | (first | with_reducible assumption | (with_reducible refine Below.drew ?_; with_reducible assumption) | (with_reducible refine ba _ _ ?_; with_reducible assumption) | (with_reducible refine Below.drew ?_; with_reducible refine ba _ _ ?_; with_reducible assumption) | exact Below.refl _ _ | exact (Below.refl _ _).drew | exact (Below.refl _ _).alloc (Nat.le_refl _) _ | (refine bc _ _ (by assumption) (by assumption))))
          clear hK K
          refine RegOk.put_ (m' := 255) (by kernel_rfl) ?_
          try simp only [Act.put, List.setIfInBounds_toArray, List.set_cons_zero, List.set_cons_succ]
          refine hR.all (by kernel_rfl) ?_ _
          refine NoPanic.normal ?_
          go_wp2_with fail
          go_meet
          case rel =>
            obtain ⟨N, hNe, hso⟩ := own_gen hs
            simp at hNe
            have lo := hso.lt
            refine ⟨_, _, x, y, B, d, rfl, rfl, hv, hnw, hy, Lib.hid ?_, Lib.hid ?_, own_to (N := N) (M := wC.heap.size) ?_ (by omega), Lib.hid (fun k hk => by have h1 := lo k hk; omega), by assumption⟩
            · (repeat' (first | with_reducible assumption | (with_reducible refine heap_alloc_at ?_; (first | rfl | (simp [World.setCell]; done))) | with_reducible refine set4 (a := .int .i64 0) (b := .int .i64 0) (c := .int .i64 0) (d := .slice none 0 0) ?_ | with_reducible refine set3 (a := .int .i64 0) (b := .int .i64 0) (c := .int .i64 0) ?_ | (with_reducible refine (Below.heap_setCell _ _ _ _ ?_).trans ?_) | (with_reducible refine (Below.heap_alloc _ _ _ ?_).trans ?_) | (with_reducible refine drew_get_ ?_) | (with_reducible refine (hbD.block _ ?_).trans ?_) | (with_reducible refine (hbC.block _ ?_).trans ?_) | (simp [World.setCell]; done) | omega | (simp [World.setCell] <;> omega)))
            · (repeat' (first | with_reducible assumption | (with_reducible refine heap_alloc_at ?_; (first | rfl | (simp [World.setCell]; done))) | with_reducible refine set4 (a := .int .i64 0) (b := .int .i64 0) (c := .int .i64 0) (d := .slice none 0 0) ?_ | with_reducible refine set3 (a := .int .i64 0) (b := .int .i64 0) (c := .int .i64 0) ?_ | (with_reducible refine (Below.heap_setCell _ _ _ _ ?_).trans ?_) | (with_reducible refine (Below.heap_alloc _ _ _ ?_).trans ?_) | (with_reducible refine drew_get_ ?_) | (with_reducible refine (hbD.block _ ?_).trans ?_) | (with_reducible refine (hbC.block _ ?_).trans ?_) | (simp [World.setCell]; done) | omega | (simp [World.setCell] <;> omega)))
            · repeat' (first | with_reducible exact hso | with_reducible refine Own.set ?_ ?_ ?_ _ | with_reducible refine Own.alloc ?_ _ | with_reducible refine Own.drew ?_ | with_reducible refine Own.call ?_ hbD | (intro e; have h1 := lo _ e; dsimp only at h1; omega) | (rintro ⟨⟨h1, -⟩, h2⟩; dsimp only at h1 h2; omega))
      case kw26_5 =>
        go_simp <;> (try go_wp2_with fail)
        refine hK.out _ _ ?_ (fun hHeld => ?_)
        · (first | (repeat' (first | with_reducible assumption | exact Nat.le_refl _ | with_reducible refine Below.setCell ?_ ?_ _ | with_reducible refine Below.drew ?_ | with_reducible refine ba _ _ ?_ | omega | (simp <;> omega))) | (first | with_reducible assumption | (with_reducible refine Below.drew ?_; with_reducible assumption) | (with_reducible refine ba _ _ ?_; with_reducible assumption) | (with_reducible refine Below.drew ?_; with_reducible refine ba _ _ ?_; with_reducible assumption) | exact Below.refl _ _ | exact (Below.refl _ _).drew | exact (Below.refl _ _).alloc (Nat.le_refl _) _ | (refine bc _ _ (by assumption) (by assumption))))
        clear hK K
        refine RegOk.put_ (m' := 53) (by kernel_rfl) ?_
        try simp only [Act.put, List.setIfInBounds_toArray, List.set_cons_zero, List.set_cons_succ]
        refine hR.come (rs := [1]) (by kernel_rfl) (by simp) ?_
        refine AllReadyH.cons (o := ?o34_1) ?h34_1 (fun K hK => ?kw34_1) AllReadyH.nil
        case h34_1 => simp only [List.getElem?_toArray, List.getElem?_cons_succ, List.getElem?_cons_zero]; rfl
        go_simp
        go_at_call 19; refine (made14O (q := q) _ (H2.out.keep (Below.agree (by (first | with_reducible assumption | (with_reducible refine Below.drew ?_; with_reducible assumption) | (with_reducible refine ba _ _ ?_; with_reducible assumption) | (with_reducible refine Below.drew ?_; with_reducible refine ba _ _ ?_; with_reducible assumption) | exact Below.refl _ _ | exact (Below.refl _ _).drew | exact (Below.refl _ _).alloc (Nat.le_refl _) _ | (refine bc _ _ (by assumption) (by assumption))))))).mono ?_; rintro e wC ⟨x, hv, hnw, B, d, rfl, hs, hbC⟩; have hk1 := bc _ _ (by (first | with_reducible assumption | (with_reducible refine Below.drew ?_; with_reducible assumption) | (with_reducible refine ba _ _ ?_; with_reducible assumption) | (with_reducible refine Below.drew ?_; with_reducible refine ba _ _ ?_; with_reducible assumption) | exact Below.refl _ _ | exact (Below.refl _ _).drew | exact (Below.refl _ _).alloc (Nat.le_refl _) _ | (refine bc _ _ (by assumption) (by assumption)))) hbC; obtain ⟨hcC, hfC⟩ := bcell hbC; have hzC := hbC.size; (try simp at hzC); (try have hl1 : w2.heap.size < wC.heap.size := (by omega)); (try have hl2 : w2.heap.size + 1 < wC.heap.size := (by omega))
        refine hK.out _ _ ?_ (fun hHeld => ?_)
        · (first | (repeat' (first | with_reducible assumption | exact Nat.le_refl _ | with_reducible refine Below.setCell ?_ ?_ _ | with_reducible refine Below.drew ?_ | with_reducible refine ba _ _ ?_ | omega | (simp <;> omega))) | (first | with_reducible assumption | (with_reducible refine Below.drew ?_; with_reducible assumption) | (with_reducible refine ba _ _ ?_; with_reducible assumption) | (with_reducible refine Below.drew ?_; with_reducible refine ba _ _ ?_; with_reducible assumption) | exact Below.refl _ _ | exact (Below.refl _ _).drew | exact (Below.refl _ _).alloc (Nat.le_refl _) _ | (refine bc _ _ (by assumption) (by assumption))))
        clear hK K
        refine RegOk.put_ (m' := 55) (by kernel_rfl) ?_
        try simp only [Act.put, List.setIfInBounds_toArray, List.set_cons_zero, List.set_cons_succ]
        refine hR.come (rs := [3]) (by kernel_rfl) (by simp) ?_
        refine AllReadyH.cons (o := ?o35_3) ?h35_3 (fun K hK => ?kw35_3) AllReadyH.nil
        case h35_3 => simp only [List.getElem?_toArray, List.getElem?_cons_succ, List.getElem?_cons_zero]; rfl
        go_simp
        go_at_call 23; refine (madeCdP cd _).mono ?_; rintro e wD ⟨y, hy, rfl, hbD⟩; have hk2 := bc _ _ (by (first | with_reducible assumption | (with_reducible refine Below.drew ?_; with_reducible assumption) | (with_reducible refine ba _ _ ?_; with_reducible assumption) | (with_reducible refine Below.drew ?_; with_reducible refine ba _ _ ?_; with_reducible assumption) | exact Below.refl _ _ | exact (Below.refl _ _).drew | exact (Below.refl _ _).alloc (Nat.le_refl _) _ | (refine bc _ _ (by assumption) (by assumption)))) hbD; obtain ⟨hcD, hfD⟩ := bcell hbD; have hzD := hbD.size; (try simp at hzD); (try have hl3 : w2.heap.size < wD.heap.size := (by omega)); (try have hl4 : w2.heap.size + 1 < wD.heap.size := (by omega)); (try have hl5 : wC.heap.size < wD.heap.size := (by omega)); (try have hl6 : wC.heap.size + 1 < wD.heap.size := (by omega))
        refine hK.out _ _ ?_ (fun hHeld => ?_)
        · (first | (repeat' (first | with_reducible assumption | exact Nat.le_refl _ | with_reducible refine Below.setCell ?_ ?_ _ | with_reducible refine Below.drew ?_ | with_reducible refine ba _ _ ?_ | omega | (simp <;> omega))) | (first | with_reducible assumption | (with_reducible refine Below.drew ?_; with_reducible assumption) | (with_reducible refine ba _ _ ?_; with_reducible assumption) | (with_reducible refine Below.drew ?_; with_reducible refine ba _ _ ?_; with_reducible assumption) | exact Below.refl _ _ | exact (Below.refl _ _).drew | exact (Below.refl _ _).alloc (Nat.le_refl _) _ | (refine bc _ _ (by assumption) (by assumption))))
        clear hK K
        refine RegOk.put_ (m' := 63) (by kernel_rfl) ?_
        try simp only [Act.put, List.setIfInBounds_toArray, List.set_cons_zero, List.set_cons_succ]
        refine hR.come (rs := [6]) (by kernel_rfl) (by simp) ?_
        refine AllReadyH.cons (o := ?o36_6) ?h36_6 (fun K hK => ?kw36_6) AllReadyH.nil
        case h36_6 => simp only [List.getElem?_toArray, List.getElem?_cons_succ, List.getElem?_cons_zero]; rfl
        go_simp <;> (try go_wp2_with fail)
        refine hK.out _ _ ?_ (fun hHeld => ?_)
        · (first | (repeat' (first | with_reducible assumption | exact Nat.le_refl _ | with_reducible refine Below.setCell ?_ ?_ _ | with_reducible refine Below.drew ?_ | with_reducible refine ba _ _ ?_ | omega | (simp <;> omega))) | (first | with_reducible assumption | (with_reducible refine Below.drew ?_; with_reducible assumption) | (with_reducible refine ba _ _ ?_; with_reducible assumption) | (with_reducible refine Below.drew ?_; with_reducible refine ba _ _ ?_; with_reducible assumption) | exact Below.refl _ _ | exact (Below.refl _ _).drew | exact (Below.refl _ _).alloc (Nat.le_refl _) _ | (refine bc _ _ (by assumption) (by assumption))))
        clear hK K
        refine RegOk.put_ (m' := 127) (by kernel_rfl) ?_
        try simp only [Act.put, List.setIfInBounds_toArray, List.set_cons_zero, List.set_cons_succ]
        refine hR.come (rs := [7]) (by kernel_rfl) (by simp) ?_
        refine AllReadyH.cons (o := ?o37_7) ?h37_7 (fun K hK => ?kw37_7) AllReadyH.nil
        case h37_7 => simp only [List.getElem?_toArray, List.getElem?_cons_succ, List.getElem?_cons_zero]; rfl
        go_simp <;> (try go_wp2_with fail)
        refine hK.out _ _ ?_ (fun hHeld => ?_)
        · (first | (repeat' (first | with_reducible assumption | exact Nat.le_refl _ | with_reducible refine Below.setCell ?_ ?_ _ | with_reducible refine Below.drew ?_ | with_reducible refine ba _ _ ?_ | omega | (simp <;> omega))) | (first | with_reducible assumption | (with_reducible refine Below.drew ?_; with_reducible assumption) | (with_reducible refine ba _ _ ?_; with_reducible assumption) | (with_reducible refine Below.drew ?_; with_reducible refine ba _ _ ?_; with_reducible assumption) | exact Below.refl _ _ | exact (Below.refl _ _).drew | exact (Below.refl _ _).alloc (Nat.le_refl _) _ | (refine bc _ _ (by assumption) (by assumption))))
        clear hK K
        refine RegOk.put_ (m' := 255) (by kernel_rfl) ?_
        try simp only [Act.put, List.setIfInBounds_toArray, List.set_cons_zero, List.set_cons_succ]
        refine hR.all (by kernel_rfl) ?_ _
        refine NoPanic.normal ?_
        go_wp2_with fail
        go_meet
        case rel =>
          obtain ⟨N, hNe, hso⟩ := own_gen hs
          simp at hNe
          have lo := hso.lt
          refine ⟨_, _, x, y, B, d, rfl, rfl, hv, hnw, hy, Lib.hid ?_, Lib.hid ?_, own_to (N := N) (M := wC.heap.size) ?_ (by omega), Lib.hid (fun k hk => by have h1 := lo k hk; omega), by assumption⟩
          · (repeat' (first | with_reducible assumption | (with_reducible refine heap_alloc_at ?_; (first | rfl | (simp [World.setCell]; done))) | with_reducible refine set4 (a := .int .i64 0) (b := .int .i64 0) (c := .int .i64 0) (d := .slice none 0 0) ?_ | with_reducible refine set3 (a := .int .i64 0) (b := .int .i64 0) (c := .int .i64 0) ?_ | (with_reducible refine (Below.heap_setCell _ _ _ _ ?_).trans ?_) | (with_reducible refine (Below.heap_alloc _ _ _ ?_).trans ?_) | (with_reducible refine drew_get_ ?_) | (with_reducible refine (hbD.block _ ?_).trans ?_) | (with_reducible refine (hbC.block _ ?_).trans ?_) | (simp [World.setCell]; done) | omega | (simp [World.setCell] <;> omega)))
          · (repeat' (first | with_reducible assumption | (with_reducible refine heap_alloc_at ?_; (first | rfl | (simp [World.setCell]; done))) | with_reducible refine set4 (a := .int .i64 0) (b := .int .i64 0) (c := .int .i64 0) (d := .slice none 0 0) ?_ | with_reducible refine set3 (a := .int .i64 0) (b := .int .i64 0) (c := .int .i64 0) ?_ | (with_reducible refine (Below.heap_setCell _ _ _ _ ?_).trans ?_) | (with_reducible refine (Below.heap_alloc _ _ _ ?_).trans ?_) | (with_reducible refine drew_get_ ?_) | (with_reducible refine (hbD.block _ ?_).trans ?_) | (with_reducible refine (hbC.block _ ?_).trans ?_) | (simp [World.setCell]; done) | omega | (simp [World.setCell] <;> omega)))
          · repeat' (first | with_reducible exact hso | with_reducible refine Own.set ?_ ?_ ?_ _ | with_reducible refine Own.alloc ?_ _ | with_reducible refine Own.drew ?_ | with_reducible refine Own.call ?_ hbD | (intro e; have h1 := lo _ e; dsimp only at h1; omega) | (rintro ⟨⟨h1, -⟩, h2⟩; dsimp only at h1 h2; omega))
    case kw3_5 =>
      go_simp <;> (try go_wp2_with fail)
      refine hK.out _ _ ?_ (fun hHeld => ?_)
      · (first | (repeat' (first | with_reducible assumption | exact Nat.le_refl _ | with_reducible refine Below.setCell ?_ ?_ _ | with_reducible refine Below.drew ?_ | with_reducible refine ba _ _ ?_ | omega | (simp <;> omega))) | (first | with_reducible assumption | (with_reducible refine Below.drew ?_; with_reducible assumption) | (with_reducible refine ba _ _ ?_; with_reducible assumption) | (with_reducible refine Below.drew ?_; with_reducible refine ba _ _ ?_; with_reducible assumption) | exact Below.refl _ _ | exact (Below.refl _ _).drew | exact (Below.refl _ _).alloc (Nat.le_refl _) _ | (refine bc _ _ (by assumption) (by assumption))))
      clear hK K
      refine RegOk.put_ (m' := 37) (by kernel_rfl) ?_
      try simp only [Act.put, List.setIfInBounds_toArray, List.set_cons_zero, List.set_cons_succ]
      refine hR.come (rs := [1, 4]) (by kernel_rfl) (by simp) ?_
      refine AllReadyH.cons (o := ?o38_1) ?h38_1 (fun K hK => ?kw38_1) (AllReadyH.cons (o := ?o38_4) ?h38_4 (fun K hK => ?kw38_4) AllReadyH.nil)
      case h38_1 => simp only [List.getElem?_toArray, List.getElem?_cons_succ, List.getElem?_cons_zero]; rfl
      case h38_4 => simp only [List.getElem?_toArray, List.getElem?_cons_succ, List.getElem?_cons_zero]; rfl
      case kw38_1 =>
        go_simp
        go_at_call 19; refine (made14O (q := q) _ (H2.out.keep (Below.agree (by (first | with_reducible assumption | (with_reducible refine Below.drew ?_; with_reducible assumption) | (with_reducible refine ba _ _ ?_; with_reducible assumption) | (with_reducible refine Below.drew ?_; with_reducible refine ba _ _ ?_; with_reducible assumption) | exact Below.refl _ _ | exact (Below.refl _ _).drew | exact (Below.refl _ _).alloc (Nat.le_refl _) _ | (refine bc _ _ (by assumption) (by assumption))))))).mono ?_; rintro e wC ⟨x, hv, hnw, B, d, rfl, hs, hbC⟩; have hk1 := bc _ _ (by (first | with_reducible assumption | (with_reducible refine Below.drew ?_; with_reducible assumption) | (with_reducible refine ba _ _ ?_; with_reducible assumption) | (with_reducible refine Below.drew ?_; with_reducible refine ba _ _ ?_; with_reducible assumption) | exact Below.refl _ _ | exact (Below.refl _ _).drew | exact (Below.refl _ _).alloc (Nat.le_refl _) _ | (refine bc _ _ (by assumption) (by assumption)))) hbC; obtain ⟨hcC, hfC⟩ := bcell hbC; have hzC := hbC.size; (try simp at hzC); (try have hl1 : w2.heap.size < wC.heap.size := (by omega)); (try have hl2 : w2.heap.size + 1 < wC.heap.size := (by omega))
        refine hK.out _ _ ?_ (fun hHeld => ?_)
        · (first | (repeat' (first | with_reducible assumption | exact Nat.le_refl _ | with_reducible refine Below.setCell ?_ ?_ _ | with_reducible refine Below.drew ?_ | with_reducible refine ba _ _ ?_ | omega | (simp <;> omega))) | (first | with_reducible assumption | (with_reducible refine Below.drew ?_; with_reducible assumption) | (with_reducible refine ba _ _ ?_; with_reducible assumption) | (with_reducible refine Below.drew ?_; with_reducible refine ba _ _ ?_; with_reducible assumption) | exact Below.refl _ _ | exact (Below.refl _ _).drew | exact (Below.refl _ _).alloc (Nat.le_refl _) _ | (refine bc _ _ (by assumption) (by assumption))))
        clear hK K
        refine RegOk.put_ (m' := 39) (by kernel_rfl) ?_
        try simp only [Act.put, List.setIfInBounds_toArray, List.set_cons_zero, List.set_cons_succ]
        refine hR.come (rs := [3, 4]) (by kernel_rfl) (by simp) ?_
        refine AllReadyH.cons (o := ?o39_3) ?h39_3 (fun K hK => ?kw39_3) (AllReadyH.cons (o := ?o39_4) ?h39_4 (fun K hK => ?kw39_4) AllReadyH.nil)
        case h39_3 => simp only [List.getElem?_toArray, List.getElem?_cons_succ, List.getElem?_cons_zero]; rfl
        case h39_4 => simp only [List.getElem?_toArray, List.getElem?_cons_succ, List.getElem?_cons_zero]; rfl
        case kw39_3 =>
          go_simp
          go_at_call 23; refine (madeCdP cd _).mono ?_; rintro e wD ⟨y, hy, rfl, hbD⟩; have hk2 := bc _ _ (by (first | with_reducible assumption | (with_reducible refine Below.drew ?_; with_reducible assumption) | (with_reducible refine ba _ _ ?_; with_reducible assumption) | (with_reducible refine Below.drew ?_; with_reducible refine ba _ _ ?_; with_reducible assumption) | exact Below.refl _ _ | exact (Below.refl _ _).drew | exact (Below.refl _ _).alloc (Nat.le_refl _) _ | (refine bc _ _ (by assumption) (by assumption)))) hbD; obtain ⟨hcD, hfD⟩ := bcell hbD; have hzD := hbD.size; (try simp at hzD); (try have hl3 : w2.heap.size < wD.heap.size := (by omega)); (try have hl4 : w2.heap.size + 1 < wD.heap.size := (by omega)); (try have hl5 : wC.heap.size < wD.heap.size := (by omega)); (try have hl6 : wC.heap.size + 1 < wD.heap.size := (by omega))
          refine hK.out _ _ ?_ (fun hHeld => ?_)
          · (first | (repeat' (first | with_reducible assumption | exact Nat.le_refl _ | with_reducible refine Below.setCell ?_ ?_ _ | with_reducible refine Below.drew ?_ | with_reducible refine ba _ _ ?_ | omega | (simp <;> omega))) | (first | with_reducible assumption | (with_reducible refine Below.drew ?_; with_reducible assumption) | (with_reducible refine ba _ _ ?_; with_reducible assumption) | (with_reducible refine Below.drew ?_; with_reducible refine ba _ _ ?_; with_reducible assumption) | exact Below.refl _ _ | exact (Below.refl _ _).drew | exact (Below.refl _ _).alloc (Nat.le_refl _) _ | (refine bc _ _ (by assumption) (by assumption))))
          clear hK K
          refine RegOk.put_ (m' := 47) (by kernel_rfl) ?_
          try simp only [Act.put, List.setIfInBounds_toArray, List.set_cons_zero, List.set_cons_succ]
          refine hR.come (rs := [4]) (by kernel_rfl) (by simp) ?_
          refine AllReadyH.cons (o := ?o40_4) ?h40_4 (fun K hK => ?kw40_4) AllReadyH.nil
          case h40_4 => simp only [List.getElem?_toArray, List.getElem?_cons_succ, List.getElem?_cons_zero]; rfl
          go_simp <;> (try go_wp2_with fail)
          refine hK.out _ _ ?_ (fun hHeld => ?_)
          · (first | (repeat' (first | with_reducible assumption | exact Nat.le_refl _ | with_reducible refine Below.setCell ?_ ?_ _ | with_reducible refine Below.drew ?_ | with_reducible refine ba _ _ ?_ | omega | (simp <;> omega))) | (first | with_reducible assumption | (with_reducible refine Below.drew ?_; with_reducible assumption) | (with_reducible refine ba _ _ ?_; with_reducible assumption) | (with_reducible refine Below.drew ?_; with_reducible refine ba _ _ ?_; with_reducible assumption) | exact Below.refl _ _ | exact (Below.refl _ _).drew | exact (Below.refl _ _).alloc (Nat.le_refl _) _ | (refine bc _ _ (by assumption) (by assumption))))
          clear hK K
          refine RegOk.put_ (m' := 63) (by kernel_rfl) ?_
          try simp only [Act.put, List.setIfInBounds_toArray, List.set_cons_zero, List.set_cons_succ]
          refine hR.come (rs := [6]) (by kernel_rfl) (by simp) ?_
          refine AllReadyH.cons (o := ?o41_6) ?h41_6 (fun K hK => ?kw41_6) AllReadyH.nil
          case h41_6 => simp only [List.getElem?_toArray, List.getElem?_cons_succ, List.getElem?_cons_zero]; rfl
          go_simp <;> (try go_wp2_with fail)
          refine hK.out _ _ ?_ (fun hHeld => ?_)
          · (first | (repeat' (first | with_reducible assumption | exact Nat.le_refl _ | with_reducible refine Below.setCell ?_ ?_ _ | with_reducible refine Below.drew ?_ | with_reducible refine ba _ _ ?_ | omega | (simp <;> omega))) | (first | with_reducible assumption | (with_reducible refine Below.drew ?_; with_reducible assumption) | (with_reducible refine ba _ _ ?_; with_reducible assumption) | (with_reducible refine Below.drew ?_; with_reducible refine ba _ _ ?_; with_reducible assumption) | exact Below.refl _ _ | exact (Below.refl _ _).drew | exact (Below.refl _ _).alloc (Nat.le_refl _) _ | (refine bc _ _ (by assumption) (by assumption))))
          clear hK K
          refine RegOk.put_ (m' := 127) (by kernel_rfl) ?_
          try simp only [Act.put, List.setIfInBounds_toArray, List.set_cons_zero, List.set_cons_succ]
          refine hR.come (rs := [7]) (by kernel_rfl) (by simp) ?_
          refine AllReadyH.cons (o := ?o42_7) ?h42_7 (fun K hK => ?kw42_7) AllReadyH.nil
          case h42_7 => simp only [List.getElem?_toArray, List.getElem?_cons_succ, List.getElem?_cons_zero]; rfl
          go_simp <;> (try go_wp2_with fail)
          refine hK.out _ _ ?_ (fun hHeld => ?_)
          · (first | (repeat' (first | with_reducible assumption | exact Nat.le_refl _ | with_reducible refine Below.setCell ?_ ?_ _ | with_reducible refine Below.drew ?_ | with_reducible refine ba _ _ ?_ | omega | (simp <;> omega))) | (first | with_reducible assumption | (with_reducible refine Below.drew ?_; with_reducible assumption) | (with_reducible refine ba _ _ ?_; with_reducible assumption) | (with_reducible refine Below.drew ?_; with_reducible refine ba _ _ ?_; with_reducible assumption) | exact Below.refl _ _ | exact (Below.refl _ _).drew | exact (Below.refl _ _).alloc (Nat.le_refl _) _ | (refine bc _ _ (by assumption) (by assumption))))
          clear hK K
          refine RegOk.put_ (m' := 255) (by kernel_rfl) ?_
          try simp only [Act.put, List.setIfInBounds_toArray, List.set_cons_zero, List.set_cons_succ]
          refine hR.all (by kernel_rfl) ?_ _
          refine NoPanic.normal ?_
          go_wp2_with fail
          go_meet
          case rel =>
            obtain ⟨N, hNe, hso⟩ := own_gen hs
            simp at hNe
            have lo := hso.lt
            refine ⟨_, _, x, y, B, d, rfl, rfl, hv, hnw, hy, Lib.hid ?_, Lib.hid ?_, own_to (N := N) (M := wC.heap.size) ?_ (by omega), Lib.hid (fun k hk => by have h1 := lo k hk; omega), by assumption⟩
            · (repeat' (first | with_reducible assumption | (with_reducible refine heap_alloc_at ?_; (first | rfl | (simp [World.setCell]; done))) | with_reducible refine set4 (a := .int .i64 0) (b := .int .i64 0) (c := .int .i64 0) (d := .slice none 0 0) ?_ | with_reducible refine set3 (a := .int .i64 0) (b := .int .i64 0) (c := .int .i64 0) ?_ | (with_reducible refine (Below.heap_setCell _ _ _ _ ?_).trans ?_) | (with_reducible refine (Below.heap_alloc _ _ _ ?_).trans ?_) | (with_reducible refine drew_get_ ?_) | (with_reducible refine (hbD.block _ ?_).trans ?_) | (with_reducible refine (hbC.block _ ?_).trans ?_) | (simp [World.setCell]; done) | omega | (simp [World.setCell] <;> omega)))
            · (repeat' (first | with_reducible assumption | (with_reducible refine heap_alloc_at ?_; (first | rfl | (simp [World.setCell]; done))) | with_reducible refine set4 (a := .int .i64 0) (b := .int .i64 0) (c := .int .i64 0) (d := .slice none 0 0) ?_ | with_reducible refine set3 (a := .int .i64 0) (b := .int .i64 0) (c := .int .i64 0) ?_ | (with_reducible refine (Below.heap_setCell _ _ _ _ ?_).trans ?_) | (with_reducible refine (Below.heap_alloc _ _ _ ?_).trans ?_) | (with_reducible refine drew_get_ ?_) | (with_reducible refine (hbD.block _ ?_).trans ?_) | (with_reducible refine (hbC.block _ ?_).trans ?_) | (simp [World.setCell]; done) | omega | (simp [World.setCell] <;> omega)))
            · repeat' (first | with_reducible exact hso | with_reducible refine Own.set ?_ ?_ ?_ _ | with_reducible refine Own.alloc ?_ _ | with_reducible refine Own.drew ?_ | with_reducible refine Own.call ?_ hbD | (intro e; have h1 := lo _ e; dsimp only at h1; omega) | (rintro ⟨⟨h1, -⟩, h2⟩; dsimp only at h1 h2; omega))
        case kw39_4 =>
          go_simp <;> (try go_wp2_with fail)
          refine hK.out _ _ ?_ (fun hHeld => ?_)
          · (first | (repeat' (first | with_reducible assumption | exact Nat.le_refl _ | with_reducible refine Below.setCell ?_ ?_ _ | with_reducible refine Below.drew ?_ | with_reducible refine ba _ _ ?_ | omega | (simp <;> omega))) | (first | with_reducible assumption | (with_reducible refine Below.drew ?_; with_reducible assumption) | (with_reducible refine ba _ _ ?_; with_reducible assumption) | (with_reducible refine Below.drew ?_; with_reducible refine ba _ _ ?_; with_reducible assumption) | exact Below.refl _ _ | exact (Below.refl _ _).drew | exact (Below.refl _ _).alloc (Nat.le_refl _) _ | (refine bc _ _ (by assumption) (by assumption))))
          clear hK K
          refine RegOk.put_ (m' := 55) (by kernel_rfl) ?_
          try simp only [Act.put, List.setIfInBounds_toArray, List.set_cons_zero, List.set_cons_succ]
          refine hR.come (rs := [3]) (by kernel_rfl) (by simp) ?_
          refine AllReadyH.cons (o := ?o43_3) ?h43_3 (fun K hK => ?kw43_3) AllReadyH.nil
          case h43_3 => simp only [List.getElem?_toArray, List.getElem?_cons_succ, List.getElem?_cons_zero]; rfl
          go_simp
          go_at_call 23; refine (madeCdP cd _).mono ?_; rintro e wD ⟨y, hy, rfl, hbD⟩; have hk2 := bc _ _ (by (first | with_reducible assumption | (with_reducible refine Below.drew ?_; with_reducible assumption) | (with_reducible refine ba _ _ ?_; with_reducible assumption) | (with_reducible refine Below.drew ?_; with_reducible refine ba _ _ ?_; with_reducible assumption) | exact Below.refl _ _ | exact (Below.refl _ _).drew | exact (Below.refl _ _).alloc (Nat.le_refl _) _ | (refine bc _ _ (by assumption) (by assumption)))) hbD; obtain ⟨hcD, hfD⟩ := bcell hbD; have hzD := hbD.size; (try simp at hzD); (try have hl3 : w2.heap.size < wD.heap.size := (by omega)); (try have hl4 : w2.heap.size + 1 < wD.heap.size := (by omega)); (try have hl5 : wC.heap.size < wD.heap.size := (by omega)); (try have hl6 : wC.heap.size + 1 < wD.heap.size := (by omega))
          refine hK.out _ _ ?_ (fun hHeld => ?_)
          · (first | (repeat' (first | with_reducible assumption | exact Nat.le_refl _ | with_reducible refine Below.setCell ?_ ?_ _ | with_reducible refine Below.drew ?_ | with_reducible refine ba _ _ ?_ | omega | (simp <;> omega))) | (first | with_reducible assumption | (with_reducible refine Below.drew ?_; with_reducible assumption) | (with_reducible refine ba _ _ ?_; with_reducible assumption) | (with_reducible refine Below.drew ?_; with_reducible refine ba _ _ ?_; with_reducible assumption) | exact Below.refl _ _ | exact (Below.refl _ _).drew | exact (Below.refl _ _).alloc (Nat.le_refl _) _ | (refine bc _ _ (by assumption) (by assumption))))
          clear hK K
          refine RegOk.put_ (m' := 63) (by kernel_rfl) ?_
          try simp only [Act.put, List.setIfInBounds_toArray, List.set_cons_zero, List.set_cons_succ]
          refine hR.come (rs := [6]) (by kernel_rfl) (by simp) ?_
          refine AllReadyH.cons (o := ?o44_6) ?h44_6 (fun K hK => ?kw44_6) AllReadyH.nil
          case h44_6 => simp only [List.getElem?_toArray, List.getElem?_cons_succ, List.getElem?_cons_zero]; rfl
          go_simp <;> (try go_wp2_with fail)
          refine hK.out _ _ ?_ (fun hHeld => ?_)
          · (first | (repeat' (first | with_reducible assumption | exact Nat.le_refl _ | with_reducible refine Below.setCell ?_ ?_ _ | with_reducible refine Below.drew ?_ | with_reducible refine ba _ _ ?_ | omega | (simp <;> omega))) | (first | with_reducible assumption | (with_reducible refine Below.drew ?_; with_reducible assumption) | (with_reducible refine ba _ _ ?_; with_reducible assumption) | (with_reducible refine Below.drew ?_; with_reducible refine ba _ _ ?_; with_reducible assumption) | exact Below.refl _ _ | exact (Below.refl _ _).drew | exact (Below.refl _ _).alloc (Nat.le_refl _) _ | (refine bc _ _ (by assumption) (by assumption))))
          clear hK K
          refine RegOk.put_ (m' := 127) (by kernel_rfl) ?_
          try simp only [Act.put, List.setIfInBounds_toArray, List.set_cons_zero, List.set_cons_succ]
          refine hR.come (rs := [7]) (by kernel_rfl) (by simp) ?_
          refine AllReadyH.cons (o := ?o45_7) ?h45_7 (fun K hK => ?kw45_7) AllReadyH.nil
          case h45_7 => simp only [List.getElem?_toArray, List.getElem?_cons_succ, List.getElem?_cons_zero]; rfl
          go_simp <;> (try go_wp2_with fail)
          refine hK.out _ _ ?_ (fun hHeld => ?_)
          · (first | (repeat' (first | with_reducible assumption | exact Nat.le_refl _ | with_reducible refine Below.setCell ?_ ?_ _ | with_reducible refine Below.drew ?_ | with_reducible refine ba _ _ ?_ | omega | (simp <;> omega))) | (first | with_reducible assumption | (with_reducible refine Below.drew ?_; with_reducible assumption) | (with_reducible refine ba _ _ ?_; with_reducible assumption) | (with_reducible refine Below.drew ?_; with_reducible refine ba _ _ ?_; with_reducible assumption) | exact Below.refl _ _ | exact (Below.refl _ _).drew | exact (Below.refl _ _).alloc (Nat.le_refl _) _ | (refine bc _ _ (by assumption) (by assumption))))
          clear hK K
          refine RegOk.put_ (m' := 255) (by kernel_rfl) ?_
          try simp only [Act.put, List.setIfInBounds_toArray, List.set_cons_zero, List.set_cons_succ]
          refine hR.all (by kernel_rfl) ?_ _
          refine NoPanic.normal ?_
          go_wp2_with fail
          go_meet
          case rel =>
            obtain ⟨N, hNe, hso⟩ := own_gen hs
            simp at hNe
            have lo := hso.lt
            refine ⟨_, _, x, y, B, d, rfl, rfl, hv, hnw, hy, Lib.hid ?_, Lib.hid ?_, own_to (N := N) (M := wC.heap.size) ?_ (by omega), Lib.hid (fun k hk => by have h1 := lo k hk; omega), by assumption⟩
            · (repeat' (first | with_reducible assumption | (with_reducible refine heap_alloc_at ?_; (first | rfl | (simp [World.setCell]; done))) | with_reducible refine set4 (a := .int .i64 0) (b := .int .i64 0) (c := .int .i64 0) (d := .slice none 0 0) ?_ | with_reducible refine set3 (a := .int .i64 0) (b := .int .i64 0) (c := .int .i64 0) ?_ | (with_reducible refine (Below.heap_setCell _ _ _ _ ?_).trans ?_) | (with_reducible refine (Below.heap_alloc _ _ _ ?_).trans ?_) | (with_reducible refine drew_get_ ?_) | (with_reducible refine (hbD.block _ ?_).trans ?_) | (with_reducible refine (hbC.block _ ?_).trans ?_) | (simp [World.setCell]; done) | omega | (simp [World.setCell] <;> omega)))
            · (repeat' (first | with_reducible assumption | (with_reducible refine heap_alloc_at ?_; (first | rfl | (simp [World.setCell]; done))) | with_reducible refine set4 (a := .int .i64 0) (b := .int .i64 0) (c := .int .i64 0) (d := .slice none 0 0) ?_ | with_reducible refine set3 (a := .int .i64 0) (b := .int .i64 0) (c := .int .i64 0) ?_ | (with_reducible refine (Below.heap_setCell _ _ _ _ ?_).trans ?_) | (with_reducible refine (Below.heap_alloc _ _ _ ?_).trans ?_) | (with_reducible refine drew_get_ ?_) | (with_reducible refine (hbD.block _ ?_).trans ?_) | (with_reducible refine (hbC.block _ ?_).trans ?_) | (simp [World.setCell]; done) | omega | (simp [World.setCell] <;> omega)))
            · repeat' (first | with_reducible exact hso | with_reducible refine Own.set ?_ ?_ ?_ _ | with_reducible refine Own.alloc ?_ _ | with_reducible refine Own.drew ?_ | with_reducible refine Own.call ?_ hbD | (intro e; have h1 := lo _ e; dsimp only at h1; omega) | (rintro ⟨⟨h1, -⟩, h2⟩; dsimp only at h1 h2; omega))
      case kw38_4 =>
        go_simp <;> (try go_wp2_with fail)
        refine hK.out _ _ ?_ (fun hHeld => ?_)
        · (first | (repeat' (first | with_reducible assumption | exact Nat.le_refl _ | with_reducible refine Below.setCell ?_ ?_ _ | with_reducible refine Below.drew ?_ | with_reducible refine ba _ _ ?_ | omega | (simp <;> omega))) | (first | with_reducible assumption | (with_reducible refine Below.drew ?_; with_reducible assumption) | (with_reducible refine ba _ _ ?_; with_reducible assumption) | (with_reducible refine Below.drew ?_; with_reducible refine ba _ _ ?_; with_reducible assumption) | exact Below.refl _ _ | exact (Below.refl _ _).drew | exact (Below.refl _ _).alloc (Nat.le_refl _) _ | (refine bc _ _ (by assumption) (by assumption))))
        clear hK K
        refine RegOk.put_ (m' := 53) (by kernel_rfl) ?_
        try simp only [Act.put, List.setIfInBounds_toArray, List.set_cons_zero, List.set_cons_succ]
        refine hR.come (rs := [1]) (by kernel_rfl) (by simp) ?_
        refine AllReadyH.cons (o := ?o46_1) ?h46_1 (fun K hK => ?kw46_1) AllReadyH.nil
        case h46_1 => simp only [List.getElem?_toArray, List.getElem?_cons_succ, List.getElem?_cons_zero]; rfl
        go_simp
        go_at_call 19; refine (made14O (q := q) _ (H2.out.keep (Below.agree (by (first | with_reducible assumption | (with_reducible refine Below.drew ?_; with_reducible assumption) | (with_reducible refine ba _ _ ?_; with_reducible assumption) | (with_reducible refine Below.drew ?_; with_reducible refine ba _ _ ?_; with_reducible assumption) | exact Below.refl _ _ | exact (Below.refl _ _).drew | exact (Below.refl _ _).alloc (Nat.le_refl _) _ | (refine bc _ _ (by assumption) (by assumption))))))).mono ?_; rintro e wC ⟨x, hv, hnw, B, d, rfl, hs, hbC⟩; have hk1 := bc _ _ (by (first | with_reducible assumption | (with_reducible refine Below.drew ?_; with_reducible assumption) | (with_reducible refine ba _ _ ?_; with_reducible assumption) | (with_reducible refine Below.drew ?_; with_reducible refine ba _ _ ?_; with_reducible assumption) | exact Below.refl _ _ | exact (Below.refl _ _).drew | exact (Below.refl _ _).alloc (Nat.le_refl _) _ | (refine bc _ _ (by assumption) (by assumption)))) hbC; obtain ⟨hcC, hfC⟩ := bcell hbC; have hzC := hbC.size; (try simp at hzC); (try have hl1 : w2.heap.size < wC.heap.size := (by omega)); (try have hl2 : w2.heap.size + 1 < wC.heap.size := (by omega))
        refine hK.out _ _ ?_ (fun hHeld => ?_)
        · (first | (repeat' (first | with_reducible assumption | exact Nat.le_refl _ | with_reducible refine Below.setCell ?_ ?_ _ | with_reducible refine Below.drew ?_ | with_reducible refine ba _ _ ?_ | omega | (simp <;> omega))) | (first | with_reducible assumption | (with_reducible refine Below.drew ?_; with_reducible assumption) | (with_reducible refine ba _ _ ?_; with_reducible assumption) | (with_reducible refine Below.drew ?_; with_reducible refine ba _ _ ?_; with_reducible assumption) | exact Below.refl _ _ | exact (Below.refl _ _).drew | exact (Below.refl _ _).alloc (Nat.le_refl _) _ | (refine bc _ _ (by assumption) (by assumption))))
        clear hK K
        refine RegOk.put_ (m' := 55) (by kernel_rfl) ?_
        try simp only [Act.put, List.setIfInBounds_toArray, List.set_cons_zero, List.set_cons_succ]
        refine hR.come (rs := [3]) (by kernel_rfl) (by simp) ?_
        refine AllReadyH.cons (o := ?o47_3) ?h47_3 (fun K hK => ?kw47_3) AllReadyH.nil
        case h47_3 => simp only [List.getElem?_toArray, List.getElem?_cons_succ, List.getElem?_cons_zero]; rfl
        go_simp
        go_at_call 23; refine (madeCdP cd _).mono ?_; rintro e wD ⟨y, hy, rfl, hbD⟩; have hk2 := bc _ _ (by (first | with_reducible assumption | (with_reducible refine Below.drew ?_; with_reducible assumption) | (with_reducible refine ba _ _ ?_; with_reducible assumption) | (with_reducible refine Below.drew ?_; with_reducible refine ba _ _ ?_; with_reducible assumption) | exact Below.refl _ _ | exact (Below.refl _ _).drew | exact (Below.refl _ _).alloc (Nat.le_refl _) _ | (refine bc _ _ (by assumption) (by assumption)))) hbD; obtain ⟨hcD, hfD⟩ := bcell hbD; have hzD := hbD.size; (try simp at hzD); (try have hl3 : w2.heap.size < wD.heap.size := (by omega)); (try have hl4 : w2.heap.size + 1 < wD.heap.size := (by omega)); (try have hl5 : wC.heap.size < wD.heap.size := (by omega)); (try have hl6 : wC.heap.size + 1 < wD.heap.size := (by omega))
        refine hK.out _ _ ?_ (fun hHeld => ?_)
        · (first | (repeat' (first | with_reducible assumption | exact Nat.le_refl _ | with_reducible refine Below.setCell ?_ ?_ _ | with_reducible refine Below.drew ?_ | with_reducible refine ba _ _ ?_ | omega | (simp <;> omega))) | (first | with_reducible assumption | (with_reducible refine Below.drew ?_; with_reducible assumption) | (with_reducible refine ba _ _ ?_; with_reducible assumption) | (with_reducible refine Below.drew ?_; with_reducible refine ba _ _ ?_; with_reducible assumption) | exact Below.refl _ _ | exact (Below.refl _ _).drew | exact (Below.refl _ _).alloc (Nat.le_refl _) _ | (refine bc _ _ (by assumption) (by assumption))))
        clear hK K
        refine RegOk.put_ (m' := 63) (by kernel_rfl) ?_
        try simp only [Act.put, List.setIfInBounds_toArray, List.set_cons_zero, List.set_cons_succ]
        refine hR.come (rs := [6]) (by kernel_rfl) (by simp) ?_
        refine AllReadyH.cons (o := ?o48_6) ?h48_6 (fun K hK => ?kw48_6) AllReadyH.nil
        case h48_6 => simp only [List.getElem?_toArray, List.getElem?_cons_succ, List.getElem?_cons_zero]; rfl
        go_simp <;> (try go_wp2_with fail)
        refine hK.out _ _ ?_ (fun hHeld => ?_)
        · (first | (repeat' (first | with_reducible assumption | exact Nat.le_refl _ | with_reducible refine Below.setCell ?_ ?_ _ | with_reducible refine Below.drew ?_ | with_reducible refine ba _ _ ?_ | omega | (simp <;> omega))) | (first | with_reducible assumption | (with_reducible refine Below.drew ?_; with_reducible assumption) | (with_reducible refine ba _ _ ?_; with_reducible assumption) | (with_reducible refine Below.drew ?_; with_reducible refine ba _ _ ?_; with_reducible assumption) | exact Below.refl _ _ | exact (Below.refl _ _).drew | exact (Below.refl _ _).alloc (Nat.le_refl _) _ | (refine bc _ _ (by assumption) (by assumption))))
        clear hK K
        refine RegOk.put_ (m' := 127) (by kernel_rfl) ?_
        try simp only [Act.put, List.setIfInBounds_toArray, List.set_cons_zero, List.set_cons_succ]
        refine hR.come (rs := [7]) (by kernel_rfl) (by simp) ?_
        refine AllReadyH.cons (o := ?o49_7) ?h49_7 (fun K hK => ?kw49_7) AllReadyH.nil
        case h49_7 => simp only [List.getElem?_toArray, List.getElem?_cons_succ, List.getElem?_cons_zero]; rfl
        go_simp <;> (try go_wp2_with fail)
        refine hK.out _ _ ?_ (fun hHeld => ?_)
        · (first | (repeat' (first | with_reducible assumption | exact Nat.le_refl _ | with_reducible refine Below.setCell ?_ ?_ _ | with_reducible refine Below.drew ?_ | with_reducible refine ba _ _ ?_ | omega | (simp <;> omega))) | (first | with_reducible assumption | (with_reducible refine Below.drew ?_; with_reducible assumption) | (with_reducible refine ba _ _ ?_; with_reducible assumption) | (with_reducible refine Below.drew ?_; with_reducible refine ba _ _ ?_; with_reducible assumption) | exact Below.refl _ _ | exact (Below.refl _ _).drew | exact (Below.refl _ _).alloc (Nat.le_refl _) _ | (refine bc _ _ (by assumption) (by assumption))))
        clear hK K
        refine RegOk.put_ (m' := 255) (by kernel_rfl) ?_
        try simp only [Act.put, List.setIfInBounds_toArray, List.set_cons_zero, List.set_cons_succ]
        refine hR.all (by kernel_rfl) ?_ _
        refine NoPanic.normal ?_
        go_wp2_with fail
        go_meet
        case rel =>
          obtain ⟨N, hNe, hso⟩ := own_gen hs
          simp at hNe
          have lo := hso.lt
          refine ⟨_, _, x, y, B, d, rfl, rfl, hv, hnw, hy, Lib.hid ?_, Lib.hid ?_, own_to (N := N) (M := wC.heap.size) ?_ (by omega), Lib.hid (fun k hk => by have h1 := lo k hk; omega), by assumption⟩
          · (repeat' (first | with_reducible assumption | (with_reducible refine heap_alloc_at ?_; (first | rfl | (simp [World.setCell]; done))) | with_reducible refine set4 (a := .int .i64 0) (b := .int .i64 0) (c := .int .i64 0) (d := .slice none 0 0) ?_ | with_reducible refine set3 (a := .int .i64 0) (b := .int .i64 0) (c := .int .i64 0) ?_ | (with_reducible refine (Below.heap_setCell _ _ _ _ ?_).trans ?_) | (with_reducible refine (Below.heap_alloc _ _ _ ?_).trans ?_) | (with_reducible refine drew_get_ ?_) | (with_reducible refine (hbD.block _ ?_).trans ?_) | (with_reducible refine (hbC.block _ ?_).trans ?_) | (simp [World.setCell]; done) | omega | (simp [World.setCell] <;> omega)))
          · (repeat' (first | with_reducible assumption | (with_reducible refine heap_alloc_at ?_; (first | rfl | (simp [World.setCell]; done))) | with_reducible refine set4 (a := .int .i64 0) (b := .int .i64 0) (c := .int .i64 0) (d := .slice none 0 0) ?_ | with_reducible refine set3 (a := .int .i64 0) (b := .int .i64 0) (c := .int .i64 0) ?_ | (with_reducible refine (Below.heap_setCell _ _ _ _ ?_).trans ?_) | (with_reducible refine (Below.heap_alloc _ _ _ ?_).trans ?_) | (with_reducible refine drew_get_ ?_) | (with_reducible refine (hbD.block _ ?_).trans ?_) | (with_reducible refine (hbC.block _ ?_).trans ?_) | (simp [World.setCell]; done) | omega | (simp [World.setCell] <;> omega)))
          · repeat' (first | with_reducible exact hso | with_reducible refine Own.set ?_ ?_ ?_ _ | with_reducible refine Own.alloc ?_ _ | with_reducible refine Own.drew ?_ | with_reducible refine Own.call ?_ hbD | (intro e; have h1 := lo _ e; dsimp only at h1; omega) | (rintro ⟨⟨h1, -⟩, h2⟩; dsimp only at h1 h2; omega))
  obtain ⟨g, gd, x, d, B, e, rfl, rfl, hv, hnw, hd, gx, gdd, ho, hne, hb⟩ := hcut
  obtain ⟨w3, hwv⟩ : ∃ x, x = wc := ⟨_, rfl⟩
  subst hwv
  have HV := Lib.hid hv
  have HNW := Lib.hid hnw
  have HD := Lib.hid hd
  have HO := Lib.hid ho
  have bs := Lib.hid hb
  have W3 := mvW W2 hb
  have gr3 := mvQ gr2 hb
  have lr2 := heap_lt gr2.out
  clear hv hnw ho hb zq zc br ba bc gq2 gc2 gr2 H2
  have hfs0 : 0 < x.fs.length := by rw [HV.out.head.2.2.2.2.2.2]; unfold nFilF; split <;> omega
  have hd0 := maxC_pos d.col
  obtain ⟨⟨hd1, hd3⟩, hd4, hd5, hd6⟩ := hd
  obtain ⟨M, hM⟩ : ∃ M, maxC d.col = M := ⟨_, rfl⟩
  rw [hM] at hd0 hd6
  have HM := Lib.hid hM
  clear hM
  have hwh : IntKind.i64.wrap (d.hi + 1) = d.hi + 1 := IntWalk.i64_in _ (by omega)
  have zd : ∀ W, Below w3.heap.size w3 W → _ ∧ _ ∧ _ := fun W hW => row3 (mvQ gdd hW)
  have br : Below w3.heap.size w3 w3 := Below.refl _ _
  have ba : ∀ W o, Below w3.heap.size w3 W → Below w3.heap.size w3 (W.alloc o) := fun W o h => h.alloc h.size o
  have bc : ∀ W W', Below w3.heap.size w3 W → Below W.heap.size W W' → Below w3.heap.size w3 W' := fun W W' h k => h.trans (k.mono h.size)
  go_upto_region 3 with fail
  go_cut [10] (fun p wx => ∃ go, p = .pointer (some ⟨go, 0, none⟩) ∧ Hid (wx.heap[go]? = some (.cells #[.int .i64 d.col, .int .i64 (d.hi + 1), .int .i64 M] 49 (0, 0))) ∧ Below w3.heap.size w3 wx)
  case first =>
    refine wp_region_noPanic ?_
    refine wp_region_held_drew (S := fun X => Below w3.heap.size w3 X) (by kernel_rfl) ?_ (fun hHeld => ?_)
    · (first | (repeat' (first | with_reducible assumption | exact Nat.le_refl _ | with_reducible refine Below.setCell ?_ ?_ _ | with_reducible refine Below.drew ?_ | with_reducible refine ba _ _ ?_ | omega | (simp <;> omega))) | (first | with_reducible assumption | (with_reducible refine Below.drew ?_; with_reducible assumption) | (with_reducible refine ba _ _ ?_; with_reducible assumption) | (with_reducible refine Below.drew ?_; with_reducible refine ba _ _ ?_; with_reducible assumption) | exact Below.refl _ _ | exact (Below.refl _ _).drew | exact (Below.refl _ _).alloc (Nat.le_refl _) _ | (refine bc _ _ (by assumption) (by assumption))))
    refine RegOk.begin_ (n := 11) (T := qL5B) ⟨by kernel_rfl, by kernel_rfl, by kernel_rfl, by kernel_rfl⟩ fun hR => ?_
    refine hR.take (i := 0) (oi := ?ow50_0) (v := ?vw50_0) (m' := 1) ?hw50_0 (by kernel_rfl) (by kernel_rfl) (fun _ _ _ h => h) (Or.inl ⟨?sw50_0, ?yw50_0⟩) (by assumption) ?nw50_0
    case hw50_0 => simp only [List.getElem?_toArray, List.getElem?_cons_succ, List.getElem?_cons_zero]; rfl
    case sw50_0 => rfl
    case yw50_0 => (intro w hSw; (try dsimp only at hSw); go_simp <;> with_reducible rfl)
    try simp only [Act.put, List.setIfInBounds_toArray, List.set_cons_zero, List.set_cons_succ]
    refine hR.take (i := 1) (oi := ?ow51_1) (v := ?vw51_1) (m' := 3) ?hw51_1 (by kernel_rfl) (by kernel_rfl) (fun _ _ _ h => h) (Or.inl ⟨?sw51_1, ?yw51_1⟩) (by assumption) ?nw51_1
    case hw51_1 => simp only [List.getElem?_toArray, List.getElem?_cons_succ, List.getElem?_cons_zero]; rfl
    case sw51_1 => rfl
    case yw51_1 => (intro w hSw; (try dsimp only at hSw); go_simp <;> with_reducible rfl)
    try simp only [Act.put, List.setIfInBounds_toArray, List.set_cons_zero, List.set_cons_succ]
    refine hR.take (i := 2) (oi := ?ow52_2) (v := ?vw52_2) (m' := 7) ?hw52_2 (by kernel_rfl) (by kernel_rfl) (fun _ _ _ h => h) (Or.inl ⟨?sw52_2, ?yw52_2⟩) (by assumption) ?nw52_2
    case hw52_2 => simp only [List.getElem?_toArray, List.getElem?_cons_succ, List.getElem?_cons_zero]; rfl
    case sw52_2 => rfl
    case yw52_2 => (intro w hSw; (try dsimp only at hSw); go_simp <;> with_reducible rfl)
    try simp only [Act.put, List.setIfInBounds_toArray, List.set_cons_zero, List.set_cons_succ]
    refine hR.take (i := 3) (oi := ?ow53_3) (v := ?vw53_3) (m' := 15) ?hw53_3 (by kernel_rfl) (by kernel_rfl) (fun _ _ _ h => h) (Or.inl ⟨?sw53_3, ?yw53_3⟩) (by assumption) ?nw53_3
    case hw53_3 => simp only [List.getElem?_toArray, List.getElem?_cons_succ, List.getElem?_cons_zero]; rfl
    case sw53_3 => rfl
    case yw53_3 => (intro w hSw; (try dsimp only at hSw); go_simp <;> with_reducible rfl)
    try simp only [Act.put, List.setIfInBounds_toArray, List.set_cons_zero, List.set_cons_succ]
    refine hR.take (i := 4) (oi := ?ow54_4) (v := ?vw54_4) (m' := 31) ?hw54_4 (by kernel_rfl) (by kernel_rfl) (fun _ _ _ h => h) (Or.inl ⟨?sw54_4, ?yw54_4⟩) (by assumption) ?nw54_4
    case hw54_4 => simp only [List.getElem?_toArray, List.getElem?_cons_succ, List.getElem?_cons_zero]; rfl
    case sw54_4 => rfl
    case yw54_4 => (intro w hSw; (try dsimp only at hSw); go_simp <;> with_reducible rfl)
    try simp only [Act.put, List.setIfInBounds_toArray, List.set_cons_zero, List.set_cons_succ]
    refine hR.take (i := 5) (oi := ?ow55_5) (v := ?vw55_5) (m' := 63) ?hw55_5 (by kernel_rfl) (by kernel_rfl) (fun _ _ _ h => h) (Or.inl ⟨?sw55_5, ?yw55_5⟩) (by assumption) ?nw55_5
    case hw55_5 => simp only [List.getElem?_toArray, List.getElem?_cons_succ, List.getElem?_cons_zero]; rfl
    case sw55_5 => rfl
    case yw55_5 => (intro w hSw; (try dsimp only at hSw); go_simp <;> with_reducible rfl)
    try simp only [Act.put, List.setIfInBounds_toArray, List.set_cons_zero, List.set_cons_succ]
    refine hR.take (i := 6) (oi := ?ow56_6) (v := ?vw56_6) (m' := 127) ?hw56_6 (by kernel_rfl) (by kernel_rfl) (fun _ _ _ h => h) (Or.inl ⟨?sw56_6, ?yw56_6⟩) (by assumption) ?nw56_6
    case hw56_6 => simp only [List.getElem?_toArray, List.getElem?_cons_succ, List.getElem?_cons_zero]; rfl
    case sw56_6 => rfl
    case yw56_6 => (intro w hSw; (try dsimp only at hSw); go_simp <;> with_reducible rfl)
    try simp only [Act.put, List.setIfInBounds_toArray, List.set_cons_zero, List.set_cons_succ]
    refine hR.come (rs := [7, 9]) (by kernel_rfl) (by simp) ?_
    refine AllReadyH.cons (o := ?o57_7) ?h57_7 (fun K hK => ?kw57_7) (AllReadyH.cons (o := ?o57_9) ?h57_9 (fun K hK => ?kw57_9) AllReadyH.nil)
    case h57_7 => simp only [List.getElem?_toArray, List.getElem?_cons_succ, List.getElem?_cons_zero]; rfl
    case h57_9 => simp only [List.getElem?_toArray, List.getElem?_cons_succ, List.getElem?_cons_zero]; rfl
    case kw57_7 =>
      go_simp
      go_at_call 26; refine (maxRef _ _).mono ?_; rw [HM.out]; rintro e w6 ⟨rfl, rfl⟩
      refine hK.out _ _ ?_ (fun hHeld => ?_)
      · (first | (repeat' (first | with_reducible assumption | exact Nat.le_refl _ | with_reducible refine Below.setCell ?_ ?_ _ | with_reducible refine Below.drew ?_ | with_reducible refine ba _ _ ?_ | omega | (simp <;> omega))) | (first | with_reducible assumption | (with_reducible refine Below.drew ?_; with_reducible assumption) | (with_reducible refine ba _ _ ?_; with_reducible assumption) | (with_reducible refine Below.drew ?_; with_reducible refine ba _ _ ?_; with_reducible assumption) | exact Below.refl _ _ | exact (Below.refl _ _).drew | exact (Below.refl _ _).alloc (Nat.le_refl _) _ | (refine bc _ _ (by assumption) (by assumption))))
      clear hK K
      refine RegOk.put_ (m' := 255) (by kernel_rfl) ?_
      try simp only [Act.put, List.setIfInBounds_toArray, List.set_cons_zero, List.set_cons_succ]
      refine hR.take (i := 8) (oi := ?ow58_8) (v := ?vw58_8) (m' := 511) ?hw58_8 (by kernel_rfl) (by kernel_rfl) (fun _ _ _ h => h) (Or.inl ⟨?sw58_8, ?yw58_8⟩) (by assumption) ?nw58_8
      case hw58_8 => simp only [List.getElem?_toArray, List.getElem?_cons_succ, List.getElem?_cons_zero]; rfl
      case sw58_8 => rfl
      case yw58_8 => (intro w hSw; (try dsimp only at hSw); go_simp <;> with_reducible rfl)
      try simp only [Act.put, List.setIfInBounds_toArray, List.set_cons_zero, List.set_cons_succ]
      refine hR.come (rs := [9]) (by kernel_rfl) (by simp) ?_
      refine AllReadyH.cons (o := ?o59_9) ?h59_9 (fun K hK => ?kw59_9) AllReadyH.nil
      case h59_9 => simp only [List.getElem?_toArray, List.getElem?_cons_succ, List.getElem?_cons_zero]; rfl
      go_simp <;> (try go_wp2_with fail)
      refine hK.out _ _ ?_ (fun hHeld => ?_)
      · (first | (repeat' (first | with_reducible assumption | exact Nat.le_refl _ | with_reducible refine Below.setCell ?_ ?_ _ | with_reducible refine Below.drew ?_ | with_reducible refine ba _ _ ?_ | omega | (simp <;> omega))) | (first | with_reducible assumption | (with_reducible refine Below.drew ?_; with_reducible assumption) | (with_reducible refine ba _ _ ?_; with_reducible assumption) | (with_reducible refine Below.drew ?_; with_reducible refine ba _ _ ?_; with_reducible assumption) | exact Below.refl _ _ | exact (Below.refl _ _).drew | exact (Below.refl _ _).alloc (Nat.le_refl _) _ | (refine bc _ _ (by assumption) (by assumption))))
      clear hK K
      refine RegOk.put_ (m' := 1023) (by kernel_rfl) ?_
      try simp only [Act.put, List.setIfInBounds_toArray, List.set_cons_zero, List.set_cons_succ]
      refine hR.come (rs := [10]) (by kernel_rfl) (by simp) ?_
      refine AllReadyH.cons (o := ?o60_10) ?h60_10 (fun K hK => ?kw60_10) AllReadyH.nil
      case h60_10 => simp only [List.getElem?_toArray, List.getElem?_cons_succ, List.getElem?_cons_zero]; rfl
      go_simp <;> (try go_wp2_with fail)
      refine hK.out _ _ ?_ (fun hHeld => ?_)
      · (first | (repeat' (first | with_reducible assumption | exact Nat.le_refl _ | with_reducible refine Below.setCell ?_ ?_ _ | with_reducible refine Below.drew ?_ | with_reducible refine ba _ _ ?_ | omega | (simp <;> omega))) | (first | with_reducible assumption | (with_reducible refine Below.drew ?_; with_reducible assumption) | (with_reducible refine ba _ _ ?_; with_reducible assumption) | (with_reducible refine Below.drew ?_; with_reducible refine ba _ _ ?_; with_reducible assumption) | exact Below.refl _ _ | exact (Below.refl _ _).drew | exact (Below.refl _ _).alloc (Nat.le_refl _) _ | (refine bc _ _ (by assumption) (by assumption))))
      clear hK K
      refine RegOk.put_ (m' := 2047) (by kernel_rfl) ?_
      try simp only [Act.put, List.setIfInBounds_toArray, List.set_cons_zero, List.set_cons_succ]
      refine hR.all (by kernel_rfl) ?_ _
      refine NoPanic.normal ?_
      go_wp2_with fail
      go_meet
      case rel =>
        refine ⟨_, rfl, Lib.hid ?_, by assumption⟩
        repeat' (first | with_reducible assumption | (with_reducible refine heap_alloc_at ?_; (first | rfl | (simp [World.setCell]; done))) | with_reducible refine set3 (a := .int .i64 0) (b := .int .i64 0) (c := .int .i64 0) ?_ | with_reducible refine drew_get_ ?_)
    case kw57_9 =>
      go_simp <;> (try go_wp2_with fail)
      refine hK.out _ _ ?_ (fun hHeld => ?_)
      · (first | (repeat' (first | with_reducible assumption | exact Nat.le_refl _ | with_reducible refine Below.setCell ?_ ?_ _ | with_reducible refine Below.drew ?_ | with_reducible refine ba _ _ ?_ | omega | (simp <;> omega))) | (first | with_reducible assumption | (with_reducible refine Below.drew ?_; with_reducible assumption) | (with_reducible refine ba _ _ ?_; with_reducible assumption) | (with_reducible refine Below.drew ?_; with_reducible refine ba _ _ ?_; with_reducible assumption) | exact Below.refl _ _ | exact (Below.refl _ _).drew | exact (Below.refl _ _).alloc (Nat.le_refl _) _ | (refine bc _ _ (by assumption) (by assumption))))
      clear hK K
      refine RegOk.put_ (m' := 639) (by kernel_rfl) ?_
      try simp only [Act.put, List.setIfInBounds_toArray, List.set_cons_zero, List.set_cons_succ]
      refine hR.come (rs := [7]) (by kernel_rfl) (by simp) ?_
      refine AllReadyH.cons (o := ?o61_7) ?h61_7 (fun K hK => ?kw61_7) AllReadyH.nil
      case h61_7 => simp only [List.getElem?_toArray, List.getElem?_cons_succ, List.getElem?_cons_zero]; rfl
      go_simp
      go_at_call 26; refine (maxRef _ _).mono ?_; rw [HM.out]; rintro e w6 ⟨rfl, rfl⟩
      refine hK.out _ _ ?_ (fun hHeld => ?_)
      · (first | (repeat' (first | with_reducible assumption | exact Nat.le_refl _ | with_reducible refine Below.setCell ?_ ?_ _ | with_reducible refine Below.drew ?_ | with_reducible refine ba _ _ ?_ | omega | (simp <;> omega))) | (first | with_reducible assumption | (with_reducible refine Below.drew ?_; with_reducible assumption) | (with_reducible refine ba _ _ ?_; with_reducible assumption) | (with_reducible refine Below.drew ?_; with_reducible refine ba _ _ ?_; with_reducible assumption) | exact Below.refl _ _ | exact (Below.refl _ _).drew | exact (Below.refl _ _).alloc (Nat.le_refl _) _ | (refine bc _ _ (by assumption) (by assumption))))
      clear hK K
      refine RegOk.put_ (m' := 767) (by kernel_rfl) ?_
      try simp only [Act.put, List.setIfInBounds_toArray, List.set_cons_zero, List.set_cons_succ]
      refine hR.take (i := 8) (oi := ?ow62_8) (v := ?vw62_8) (m' := 1023) ?hw62_8 (by kernel_rfl) (by kernel_rfl) (fun _ _ _ h => h) (Or.inl ⟨?sw62_8, ?yw62_8⟩) (by assumption) ?nw62_8
      case hw62_8 => simp only [List.getElem?_toArray, List.getElem?_cons_succ, List.getElem?_cons_zero]; rfl
      case sw62_8 => rfl
      case yw62_8 => (intro w hSw; (try dsimp only at hSw); go_simp <;> with_reducible rfl)
      try simp only [Act.put, List.setIfInBounds_toArray, List.set_cons_zero, List.set_cons_succ]
      refine hR.come (rs := [10]) (by kernel_rfl) (by simp) ?_
      refine AllReadyH.cons (o := ?o63_10) ?h63_10 (fun K hK => ?kw63_10) AllReadyH.nil
      case h63_10 => simp only [List.getElem?_toArray, List.getElem?_cons_succ, List.getElem?_cons_zero]; rfl
      go_simp <;> (try go_wp2_with fail)
      refine hK.out _ _ ?_ (fun hHeld => ?_)
      · (first | (repeat' (first | with_reducible assumption | exact Nat.le_refl _ | with_reducible refine Below.setCell ?_ ?_ _ | with_reducible refine Below.drew ?_ | with_reducible refine ba _ _ ?_ | omega | (simp <;> omega))) | (first | with_reducible assumption | (with_reducible refine Below.drew ?_; with_reducible assumption) | (with_reducible refine ba _ _ ?_; with_reducible assumption) | (with_reducible refine Below.drew ?_; with_reducible refine ba _ _ ?_; with_reducible assumption) | exact Below.refl _ _ | exact (Below.refl _ _).drew | exact (Below.refl _ _).alloc (Nat.le_refl _) _ | (refine bc _ _ (by assumption) (by assumption))))
      clear hK K
      refine RegOk.put_ (m' := 2047) (by kernel_rfl) ?_
      try simp only [Act.put, List.setIfInBounds_toArray, List.set_cons_zero, List.set_cons_succ]
      refine hR.all (by kernel_rfl) ?_ _
      refine NoPanic.normal ?_
      go_wp2_with fail
      go_meet
      case rel =>
        refine ⟨_, rfl, Lib.hid ?_, by assumption⟩
        repeat' (first | with_reducible assumption | (with_reducible refine heap_alloc_at ?_; (first | rfl | (simp [World.setCell]; done))) | with_reducible refine set3 (a := .int .i64 0) (b := .int .i64 0) (c := .int .i64 0) ?_ | with_reducible refine drew_get_ ?_)
  obtain ⟨go_, rfl, gOo, hb⟩ := hcut
  obtain ⟨w4, hwv⟩ : ∃ x, x = wc := ⟨_, rfl⟩
  subst hwv
  have bs4 := Lib.hid (bs.out.trans (hb.mono bs.out.size))
  have W4 := mvW W3 hb
  have gx4 := mvQ gx hb
  have gd4 := mvQ gdd hb
  have gr4 := mvQ gr3 hb
  have HO4 := Lib.hid (HO.out.call hb)
  clear hb zd br ba bc gx gdd gr3 HO bs W3
  obtain ⟨x0, x1, x2, x3⟩ := row4 gx4
  obtain ⟨y0, y1, y2⟩ := row3 gOo
  obtain ⟨u0, u1, u2⟩ := row3 gd4
  have fg := frz gx4.out
  by_cases hle : d.hi + 1 ≤ M
  case neg =>
    have hgt : M < d.hi + 1 := by omega
    go_wp2_with fail
    go_ret
    exact ⟨rfl, b2.out.trans (bs4.out.mono b2.out.size)⟩
  have hng : ¬ M < d.hi + 1 := by omega
  obtain ⟨k, rfl, hkb, hkl, -⟩ := HO4.out.block hfs0
  obtain ⟨hkg, hkd⟩ := hne.out k rfl
  obtain ⟨vs, hraw, hvl, hvf⟩ := HO4.out.toRaw
  have HRAW := Lib.hid hraw
  have HVL := Lib.hid hvl
  have HVF := Lib.hid hvf
  obtain ⟨A1, c1, hv0, hs0⟩ := hvf 0 (x.fs[0]'hfs0) (List.getElem?_eq_getElem hfs0)
  have v0 := hraw.rawCell hv0
  have fk := HO4.out.frozen 0
  have hi0 : (0 : Int) < (x.fs.length : Int) := by omega
  clear hraw hvl hvf hv0 hs0
  have HNE := Lib.hid (fun h => hkg (Eq.symm h) : g ≠ k)
  have HLE := Lib.hid (show d.hi + 1 ≤ maxC d.col by rw [HM.out]; exact hle)
  have HHD := Lib.hid (show othC d = ⟨d.col, d.hi + 1, M⟩ by unfold othC; rw [HM.out])
  go_upto_region 6 with fail
  go_cut [8] (fun p wx => p = .pointer (some ⟨g, 0, none⟩) ∧ Hid (wx.heap[g]? = some (.cells #[.int .i64 x.kind, .int .i64 x.col, .int .i64 x.k, .slice (some ⟨k, 0, none⟩) x.fs.length e] 24 (0, 0))) ∧ Hid (Sl cdE.slice (fun _ => True) wx (some ⟨k, 0, none⟩) e (othQ x d).fs) ∧ Hid (wx.heap[w.heap.size + 1 + 1]? = w4.heap[w.heap.size + 1 + 1]?) ∧ Below w2.heap.size w2 wx)
  case first =>
    have lgr := heap_lt gr4.out
    have lgx := heap_lt gx4.out
    have hrk : w.heap.size + 1 + 1 ≠ k := by omega
    have HRK := Lib.hid hrk
    clear hrk
    go_wp2_with fail
    go_meet
    case rel =>
      refine ⟨rfl, Lib.hid ((Below.heap_alloc _ _ _ (by simpa [World.setCell] using lgx)).trans ((Below.heap_setCell _ _ _ _ HNE.out).trans gx4.out)), Lib.hid ?_, Lib.hid ((Below.heap_alloc _ _ _ (by simpa [World.setCell] using lgr)).trans (Below.heap_setCell _ _ _ _ HRK.out)), (bs4.out.setCell hkb _).alloc (by have := bs4.out.size; simpa [World.setCell] using this) _⟩
      have hraw5 := (HRAW.out.stored (j := 0) (u := .slice (some ⟨w4.heap.size, 0, none⟩) 2 2) (ys := vs.set 0 (.slice (some ⟨w4.heap.size, 0, none⟩) 2 2)) (fun h => h) (by simp) (fun cs hel => by obtain rfl := raw_cells hel; exact raw_set0 rfl hel) rfl).alloc (.cells #[.int .i64 d.col, .int .i64 d.lo, .int .i64 d.hi, .int .i64 d.col, .int .i64 (d.hi + 1), .int .i64 M] 49)
      have hown5 := hraw5.ofRaw (E := cdE) (S := fun _ => True) (xs := (othQ x d).fs) (by simp [othQ, HVL.out]) (fun i y hy => by
        cases i with
        | zero =>
          have hy2 : y = [d, othC d] := by
            have h1 : (x.fs.set 0 [d, othC d])[0]? = some y := hy
            rw [List.getElem?_set_self hfs0] at h1
            injection h1 with h1
            exact h1.symm
          subst hy2
          refine ⟨some ⟨w4.heap.size, 0, none⟩, 2, by rw [List.getElem?_set_self (by rw [HVL.out]; exact hfs0)]; rfl, ?_⟩
          exact Sl.ofRow (cs := [.int .i64 d.col, .int .i64 d.lo, .int .i64 d.hi, .int .i64 d.col, .int .i64 (d.hi + 1), .int .i64 M]) (heap_alloc_at (by simp [World.setCell]))
            ⟨[.int .i64 d.col, .int .i64 d.lo, .int .i64 d.hi], _, rfl, cdE_shut, [.int .i64 d.col, .int .i64 (d.hi + 1), .int .i64 M], [], rfl, by rw [HHD.out]; exact cdE_shut (r := ⟨d.col, d.hi + 1, M⟩), rfl⟩ trivial (by unfold maxLen; simp)
        | succ i =>
          have h1 : (x.fs.set 0 [d, othC d])[i + 1]? = some y := hy
          rw [List.getElem?_set_ne (by omega)] at h1
          obtain ⟨A', c', h2, h3⟩ := HVF.out (i + 1) y h1
          exact ⟨A', c', by rw [List.getElem?_set_ne (by omega)]; exact h2, ((h3.keep ((Agree.refl _ _).set (fun h => h.2 k rfl rfl) _)).keep ((Agree.refl _ _).alloc _)).sub (fun _ _ _ => trivial)⟩)
      exact hown5.toSl (fun _ _ _ => trivial) (fun _ _ _ _ => trivial)
  obtain ⟨rfl, gx5, hs5, hr5, hb⟩ := hcut
  obtain ⟨w5, hwv⟩ : ∃ x, x = wc := ⟨_, rfl⟩
  subst hwv
  have W5 := mvW W2 hb
  have b5 := Lib.hid (b2.out.trans (hb.mono b2.out.size))
  have gr5 := Lib.hid (hr5.out.trans gr4.out)
  have HVQ := Lib.hid (othQ_valid HV.out HD.out HLE.out)
  have HCV := Lib.hid (show checkTF (othQ x d) 65536 = ((boundF (othQ x d) 65536).1, 0) by
    rw [check_val HVQ.out (show wideB (othQ x d) = false from HNW.out) (by omega) (by omega), othQ_ok HV.out HD.out HLE.out (by omega) (by omega)]; rfl)
  have hck := checkP (q := othQ x d) 65536 w5 W5.out hs5.out HCV.out
  rw [show (othQ x d).fs.length = x.fs.length from by simp [othQ]] at hck
  have HCK := Lib.hid (show Calls Tryd.prog 11 #[.agg #[.int .i64 x.kind, .int .i64 x.col, .int .i64 x.k, .slice (some ⟨k, 0, none⟩) x.fs.length e], .int .i64 65536] w5 (CheckRes w5 ((boundF (othQ x d) 65536).1, 0)) from hck)
  obtain ⟨L, hL⟩ : ∃ L : Nat, (L : Int) = sumsC x.kind := ⟨(sumsC x.kind).toNat, by have := sums_le HV.out.head.1.1 HV.out.head.1.2; omega⟩
  have HLN := Lib.hid (show (boundF (othQ x d) 65536).1.length = L by have h1 := bound_len (q := othQ x d) (n := 65536) HVQ.out.head.1.1 HVQ.out.head.1.2; have h2 : sumsC (othQ x d).kind = sumsC x.kind := rfl; omega)
  have HLS := Lib.hid hL
  have hneL : ((L : Int) != sumsC x.kind) = false := by rw [hL]; simp
  clear hck hL x0 x1 x2 x3 y0 y1 y2 u0 u1 u2 fg v0 fk hi0 hng hle gx4 gd4 gr4 gOo HO4 HRAW HVL HVF HHD hr5 W4 W2 bs4 hb b2 hkl hkb hkg hkd hne HNE hd1 hd3 hd4 hd5 hd6 hd0
  obtain ⟨x0, x1, x2, x3⟩ := row4 gx5
  go_upto_region 7 with fail
  go_cut [11, 12] (fun p e wx => ∃ g, p = .pointer (some ⟨g, 0, none⟩) ∧ e = .int .i64 0 ∧ Bx wx g (boundF (othQ x d) 65536).1 ∧ Below w5.heap.size w5 wx)
  case first =>
    go_wp2_with (go_at_call 11; refine HCK.out.mono ?_; rintro e wC ⟨B, d, rfl, hs, hbC⟩; have HC := Lib.hid hs; have bC := Lib.hid hbC; clear hs hbC)
    go_meet
    case rel => exact ⟨_, rfl, rfl, ⟨_, _, heap_alloc_at rfl, (HC.out.sub (fun _ _ _ => trivial)).keep ((Agree.refl _ _).alloc _)⟩, bC.out.alloc bC.out.size _⟩
  obtain ⟨g6, rfl, rfl, hbx, hb⟩ := hcut
  obtain ⟨w6, hwv⟩ : ∃ x, x = wc := ⟨_, rfl⟩
  subst hwv
  have b6 := Lib.hid (b5.out.trans (hb.mono b5.out.size))
  have gx6 := mvQ gx5 hb
  have gr6 := mvQ gr5 hb
  have F6 := Lib.hid (hs5.out.keep (Below.agree hb))
  obtain ⟨B7, d7, y7, s7⟩ := hbx
  rw [HLN.out] at y7
  have Y7 := Lib.hid y7
  have S7 := Lib.hid s7
  have hm7 := s7.max
  rw [HLN.out] at hm7
  have z7 : ∀ W, Below w6.heap.size w6 W → _ ∧ _ ∧ _ := fun W hW => one (mvQ Y7 hW)
  have zx : ∀ W, Below w6.heap.size w6 W → _ ∧ _ ∧ _ ∧ _ := fun W hW => row4 (mvQ gx6 hW)
  have zr : ∀ W, Below w6.heap.size w6 W → _ ∧ _ ∧ _ ∧ _ := fun W hW => row4 (mvQ gr6 hW)
  have br : Below w6.heap.size w6 w6 := Below.refl _ _
  have ba : ∀ W o, Below w6.heap.size w6 W → Below w6.heap.size w6 (W.alloc o) := fun W o h => h.alloc h.size o
  have bc : ∀ W W', Below w6.heap.size w6 W → Below W.heap.size W W' → Below w6.heap.size w6 W' := fun W W' h k => h.trans (k.mono h.size)
  have hl0 : (othQ x d).fs[0]? = some [d, othC d] := by unfold othQ; exact List.getElem?_set_self hfs0
  obtain ⟨b8, o8, B8, d8, e8, -, l8, v8, hs8⟩ := flt_at F6.out hl0
  injection e8 with e8
  injection e8 with e9 e10
  subst e9; subst e10
  have HS8 := Lib.hid hs8
  have z8 : ∀ W, Below w6.heap.size w6 W → W.cell? ⟨k, 0, none⟩ = some (.slice B8 2 d8) := fun W hW => (hW.cell (p := ⟨k, 0, none⟩) l8).trans (by simpa using v8)
  have hi0 : (0 : Int) < (x.fs.length : Int) := by omega
  have HV2 := Lib.hid (show ∀ c ∈ [d, othC d], ValidCd c from fun c hc => by
    simp only [List.mem_cons, List.not_mem_nil, or_false] at hc
    rcases hc with rfl | rfl
    · exact HD.out
    · exact oth_valid HD.out HLE.out)
  clear hb y7 s7 x0 x1 x2 x3 gx5 gr5 hs5 W5 b5 HCK hs8 v8 hl0
  (first | go_values | go_skip | go_guarded | go_step | go_upon | go_back)
  (first | go_values | go_skip | go_guarded | go_step | go_upon | go_back)
  go_cut [13] (fun _ wx => Below w6.heap.size w6 wx)
  case first =>
    go_upto_region 8 with fail
    refine wp_region_noPanic ?_
    refine wp_region_held_drew (S := fun X => Below w6.heap.size w6 X) (by kernel_rfl) ?_ (fun hHeld => ?_)
    · (first | with_reducible assumption | (with_reducible refine Below.drew ?_; with_reducible assumption) | (with_reducible refine ba _ _ ?_; with_reducible assumption) | (with_reducible refine Below.drew ?_; with_reducible refine ba _ _ ?_; with_reducible assumption) | exact Below.refl _ _ | exact (Below.refl _ _).drew | exact (Below.refl _ _).alloc (Nat.le_refl _) _ | (refine bc _ _ (by assumption) (by assumption)))
    refine RegOk.begin_ (n := 10) (T := qL5C) ⟨by kernel_rfl, by kernel_rfl, by kernel_rfl, by kernel_rfl⟩ fun hR => ?_
    refine hR.take (i := 0) (oi := ?ow64_0) (v := ?vw64_0) (m' := 1) ?hw64_0 (by kernel_rfl) (by kernel_rfl) (fun _ _ _ h => h) (Or.inl ⟨?sw64_0, ?yw64_0⟩) (by assumption) ?nw64_0
    case hw64_0 => simp only [List.getElem?_toArray, List.getElem?_cons_succ, List.getElem?_cons_zero]; rfl
    case sw64_0 => rfl
    case yw64_0 => (intro w hSw; (try dsimp only at hSw); go_simp <;> with_reducible rfl)
    try simp only [Act.put, List.setIfInBounds_toArray, List.set_cons_zero, List.set_cons_succ]
    refine hR.take (i := 1) (oi := ?ow65_1) (v := ?vw65_1) (m' := 3) ?hw65_1 (by kernel_rfl) (by kernel_rfl) (fun _ _ _ h => h) (Or.inl ⟨?sw65_1, ?yw65_1⟩) (by assumption) ?nw65_1
    case hw65_1 => simp only [List.getElem?_toArray, List.getElem?_cons_succ, List.getElem?_cons_zero]; rfl
    case sw65_1 => rfl
    case yw65_1 => (intro w hSw; (try dsimp only at hSw); go_simp <;> with_reducible rfl)
    try simp only [Act.put, List.setIfInBounds_toArray, List.set_cons_zero, List.set_cons_succ]
    refine hR.take (i := 2) (oi := ?ow66_2) (v := ?vw66_2) (m' := 7) ?hw66_2 (by kernel_rfl) (by kernel_rfl) (fun _ _ _ h => h) (Or.inl ⟨?sw66_2, ?yw66_2⟩) (by assumption) ?nw66_2
    case hw66_2 => simp only [List.getElem?_toArray, List.getElem?_cons_succ, List.getElem?_cons_zero]; rfl
    case sw66_2 => rfl
    case yw66_2 => (intro w hSw; (try dsimp only at hSw); go_simp <;> with_reducible rfl)
    try simp only [Act.put, List.setIfInBounds_toArray, List.set_cons_zero, List.set_cons_succ]
    refine hR.take (i := 3) (oi := ?ow67_3) (v := ?vw67_3) (m' := 15) ?hw67_3 (by kernel_rfl) (by kernel_rfl) (fun _ _ _ h => h) (Or.inl ⟨?sw67_3, ?yw67_3⟩) (by assumption) ?nw67_3
    case hw67_3 => simp only [List.getElem?_toArray, List.getElem?_cons_succ, List.getElem?_cons_zero]; rfl
    case sw67_3 => rfl
    case yw67_3 => (intro w hSw; (try dsimp only at hSw); go_simp <;> with_reducible rfl)
    try simp only [Act.put, List.setIfInBounds_toArray, List.set_cons_zero, List.set_cons_succ]
    refine hR.take (i := 4) (oi := ?ow68_4) (v := ?vw68_4) (m' := 31) ?hw68_4 (by kernel_rfl) (by kernel_rfl) (fun _ _ _ h => h) (Or.inl ⟨?sw68_4, ?yw68_4⟩) (by assumption) ?nw68_4
    case hw68_4 => simp only [List.getElem?_toArray, List.getElem?_cons_succ, List.getElem?_cons_zero]; rfl
    case sw68_4 => rfl
    case yw68_4 => (intro w hSw; (try dsimp only at hSw); go_simp <;> with_reducible rfl)
    try simp only [Act.put, List.setIfInBounds_toArray, List.set_cons_zero, List.set_cons_succ]
    refine hR.take (i := 5) (oi := ?ow69_5) (v := ?vw69_5) (m' := 63) ?hw69_5 (by kernel_rfl) (by kernel_rfl) (fun _ _ _ h => h) (Or.inl ⟨?sw69_5, ?yw69_5⟩) (by assumption) ?nw69_5
    case hw69_5 => simp only [List.getElem?_toArray, List.getElem?_cons_succ, List.getElem?_cons_zero]; rfl
    case sw69_5 => rfl
    case yw69_5 => (intro w hSw; (try dsimp only at hSw); go_simp <;> with_reducible rfl)
    try simp only [Act.put, List.setIfInBounds_toArray, List.set_cons_zero, List.set_cons_succ]
    refine hR.take (i := 6) (oi := ?ow70_6) (v := ?vw70_6) (m' := 127) ?hw70_6 (by kernel_rfl) (by kernel_rfl) (fun _ _ _ h => h) (Or.inl ⟨?sw70_6, ?yw70_6⟩) (by assumption) ?nw70_6
    case hw70_6 => simp only [List.getElem?_toArray, List.getElem?_cons_succ, List.getElem?_cons_zero]; rfl
    case sw70_6 => rfl
    case yw70_6 => (intro w hSw; (try dsimp only at hSw); go_simp <;> with_reducible rfl)
    try simp only [Act.put, List.setIfInBounds_toArray, List.set_cons_zero, List.set_cons_succ]
    refine hR.come (rs := [7]) (by kernel_rfl) (by simp) ?_
    refine AllReadyH.cons (o := ?o71_7) ?h71_7 (fun K hK => ?kw71_7) AllReadyH.nil
    case h71_7 => simp only [List.getElem?_toArray, List.getElem?_cons_succ, List.getElem?_cons_zero]; rfl
    go_simp
    go_at_call 15; refine (sumsP (q := x) _).mono ?_; rintro e wA ⟨rfl, hA⟩; have hk := bc _ _ (by (first | with_reducible assumption | (with_reducible refine Below.drew ?_; with_reducible assumption) | (with_reducible refine ba _ _ ?_; with_reducible assumption) | (with_reducible refine Below.drew ?_; with_reducible refine ba _ _ ?_; with_reducible assumption) | exact Below.refl _ _ | exact (Below.refl _ _).drew | exact (Below.refl _ _).alloc (Nat.le_refl _) _ | (refine bc _ _ (by assumption) (by assumption)))) hA; clear hA
    refine hK.out _ _ ?_ (fun hHeld => ?_)
    · (first | with_reducible assumption | (with_reducible refine Below.drew ?_; with_reducible assumption) | (with_reducible refine ba _ _ ?_; with_reducible assumption) | (with_reducible refine Below.drew ?_; with_reducible refine ba _ _ ?_; with_reducible assumption) | exact Below.refl _ _ | exact (Below.refl _ _).drew | exact (Below.refl _ _).alloc (Nat.le_refl _) _ | (refine bc _ _ (by assumption) (by assumption)))
    clear hK K
    refine RegOk.put_ (m' := 255) (by kernel_rfl) ?_
    try simp only [Act.put, List.setIfInBounds_toArray, List.set_cons_zero, List.set_cons_succ]
    refine hR.take (i := 8) (oi := ?ow72_8) (v := ?vw72_8) (m' := 511) ?hw72_8 (by kernel_rfl) (by kernel_rfl) (fun _ _ _ h => h) (Or.inl ⟨?sw72_8, ?yw72_8⟩) (by assumption) ?nw72_8
    case hw72_8 => simp only [List.getElem?_toArray, List.getElem?_cons_succ, List.getElem?_cons_zero]; rfl
    case sw72_8 => rfl
    case yw72_8 => (intro w hSw; (try dsimp only at hSw); go_simp <;> with_reducible rfl)
    try simp only [Act.put, List.setIfInBounds_toArray, List.set_cons_zero, List.set_cons_succ]
    refine hR.take (i := 9) (oi := ?ow73_9) (v := ?vw73_9) (m' := 1023) ?hw73_9 (by kernel_rfl) (by kernel_rfl) (fun _ _ _ h => h) (Or.inl ⟨?sw73_9, ?yw73_9⟩) (by assumption) ?nw73_9
    case hw73_9 => simp only [List.getElem?_toArray, List.getElem?_cons_succ, List.getElem?_cons_zero]; rfl
    case sw73_9 => rfl
    case yw73_9 => (intro w hSw; (try dsimp only at hSw); go_simp <;> with_reducible rfl)
    try simp only [Act.put, List.setIfInBounds_toArray, List.set_cons_zero, List.set_cons_succ]
    refine hR.all (by kernel_rfl) ?_ _
    refine NoPanic.normal ?_
    go_wp2_with fail
    go_meet
    assumption
  have hb7 := hcut
  (first | go_values | go_skip | go_guarded | go_step | go_upon | go_back)
  (first | go_values | go_skip | go_guarded | go_step | go_upon | go_back)
  go_cut [13] (fun _ wx => Below w6.heap.size w6 wx)
  case first =>
    go_wp2_with fail
    go_loopw [13] (fun i wr => ∃ v : Nat, v ≤ L ∧ v ≤ 16 ∧ i = .int .i64 v ∧ Hid (Below w6.heap.size w6 wr)) (fun i _ => L - (intOf i).toNat)
    case atStart => exact ⟨0, Nat.zero_le _, Nat.zero_le _, rfl, Lib.hid hb7⟩
    case round =>
      clear hb7
      obtain ⟨v, hv, hv16, rfl, hbr⟩ := hrel
      have hkr := hbr.out
      have hv0 : (0 : Int) ≤ (v : Int) := by omega
      by_cases h1 : v < L
      · have hv1 : (v : Int) < (L : Int) := by omega
        by_cases h2 : v < 16
        · have hv2 : (v : Int) < 16 := by omega
          obtain ⟨b9, o9, rfl, -, l9, v9⟩ := i64_at (S7.out.keep (Below.agree hkr)) (i := v) (r := 0) (by rw [bound_at HVQ.out.head.1.1 HVQ.out.head.1.2 (show (v : Int) < sumsC (othQ x d).kind by show (v : Int) < sumsC x.kind; rw [← HLS.out]; exact hv1), othQ_cap HV.out HD.out h2, Int.mul_zero])
          go_wp2_with fail
          go_roundw
          case rel => exact ⟨v + 1, by omega, by omega, by go_num, hbr⟩
          case measure => simp [intOf]; omega
        · have hv2 : ¬ (v : Int) < 16 := by omega
          go_wp2_with fail
          go_meet
          exact hkr
      · have hv1 : ¬ (v : Int) < (L : Int) := by omega
        go_wp2_with fail
        go_meet
        exact hkr
  have hb8 := hcut
  go_upto_region 15 with fail
  refine wp_region_noPanic ?_
  refine wp_region_held_drew (S := fun X => Below w6.heap.size w6 X) (by kernel_rfl) ?_ (fun hHeld => ?_)
  · (first | with_reducible assumption | (with_reducible refine Below.drew ?_; with_reducible assumption) | (with_reducible refine ba _ _ ?_; with_reducible assumption) | (with_reducible refine Below.drew ?_; with_reducible refine ba _ _ ?_; with_reducible assumption) | exact Below.refl _ _ | exact (Below.refl _ _).drew | exact (Below.refl _ _).alloc (Nat.le_refl _) _ | (refine bc _ _ (by assumption) (by assumption)))
  refine RegOk.begin_ (n := 12) (T := qL5D) ⟨by kernel_rfl, by kernel_rfl, by kernel_rfl, by kernel_rfl⟩ fun hR => ?_
  refine hR.take (i := 0) (oi := ?ow74_0) (v := ?vw74_0) (m' := 1) ?hw74_0 (by kernel_rfl) (by kernel_rfl) (fun _ _ _ h => h) (Or.inl ⟨?sw74_0, ?yw74_0⟩) (by assumption) ?nw74_0
  case hw74_0 => simp only [List.getElem?_toArray, List.getElem?_cons_succ, List.getElem?_cons_zero]; rfl
  case sw74_0 => rfl
  case yw74_0 => (intro w hSw; (try dsimp only at hSw); go_simp <;> with_reducible rfl)
  try simp only [Act.put, List.setIfInBounds_toArray, List.set_cons_zero, List.set_cons_succ]
  refine hR.take (i := 1) (oi := ?ow75_1) (v := ?vw75_1) (m' := 3) ?hw75_1 (by kernel_rfl) (by kernel_rfl) (fun _ _ _ h => h) (Or.inl ⟨?sw75_1, ?yw75_1⟩) (by assumption) ?nw75_1
  case hw75_1 => simp only [List.getElem?_toArray, List.getElem?_cons_succ, List.getElem?_cons_zero]; rfl
  case sw75_1 => rfl
  case yw75_1 => (intro w hSw; (try dsimp only at hSw); go_simp <;> with_reducible rfl)
  try simp only [Act.put, List.setIfInBounds_toArray, List.set_cons_zero, List.set_cons_succ]
  refine hR.take (i := 2) (oi := ?ow76_2) (v := ?vw76_2) (m' := 7) ?hw76_2 (by kernel_rfl) (by kernel_rfl) (fun _ _ _ h => h) (Or.inl ⟨?sw76_2, ?yw76_2⟩) (by assumption) ?nw76_2
  case hw76_2 => simp only [List.getElem?_toArray, List.getElem?_cons_succ, List.getElem?_cons_zero]; rfl
  case sw76_2 => rfl
  case yw76_2 => (intro w hSw; (try dsimp only at hSw); go_simp <;> with_reducible rfl)
  try simp only [Act.put, List.setIfInBounds_toArray, List.set_cons_zero, List.set_cons_succ]
  refine hR.take (i := 3) (oi := ?ow77_3) (v := ?vw77_3) (m' := 15) ?hw77_3 (by kernel_rfl) (by kernel_rfl) (fun _ _ _ h => h) (Or.inl ⟨?sw77_3, ?yw77_3⟩) (by assumption) ?nw77_3
  case hw77_3 => simp only [List.getElem?_toArray, List.getElem?_cons_succ, List.getElem?_cons_zero]; rfl
  case sw77_3 => rfl
  case yw77_3 => (intro w hSw; (try dsimp only at hSw); go_simp <;> with_reducible rfl)
  try simp only [Act.put, List.setIfInBounds_toArray, List.set_cons_zero, List.set_cons_succ]
  refine hR.take (i := 4) (oi := ?ow78_4) (v := ?vw78_4) (m' := 31) ?hw78_4 (by kernel_rfl) (by kernel_rfl) (fun _ _ _ h => h) (Or.inl ⟨?sw78_4, ?yw78_4⟩) (by assumption) ?nw78_4
  case hw78_4 => simp only [List.getElem?_toArray, List.getElem?_cons_succ, List.getElem?_cons_zero]; rfl
  case sw78_4 => rfl
  case yw78_4 => (intro w hSw; (try dsimp only at hSw); go_simp <;> with_reducible rfl)
  try simp only [Act.put, List.setIfInBounds_toArray, List.set_cons_zero, List.set_cons_succ]
  refine hR.come (rs := [5]) (by kernel_rfl) (by simp) ?_
  refine AllReadyH.cons (o := ?o79_5) ?h79_5 (fun K hK => ?kw79_5) AllReadyH.nil
  case h79_5 => simp only [List.getElem?_toArray, List.getElem?_cons_succ, List.getElem?_cons_zero]; rfl
  go_simp
  go_at_call 20; refine (madeRdP rd _).mono ?_; rintro e wA ⟨rd', hrd, rfl, hA⟩; have hk := bc _ _ (by (first | with_reducible assumption | (with_reducible refine Below.drew ?_; with_reducible assumption) | (with_reducible refine ba _ _ ?_; with_reducible assumption) | (with_reducible refine Below.drew ?_; with_reducible refine ba _ _ ?_; with_reducible assumption) | exact Below.refl _ _ | exact (Below.refl _ _).drew | exact (Below.refl _ _).alloc (Nat.le_refl _) _ | (refine bc _ _ (by assumption) (by assumption)))) hA; clear hA
  refine hK.out _ _ ?_ (fun hHeld => ?_)
  · (first | with_reducible assumption | (with_reducible refine Below.drew ?_; with_reducible assumption) | (with_reducible refine ba _ _ ?_; with_reducible assumption) | (with_reducible refine Below.drew ?_; with_reducible refine ba _ _ ?_; with_reducible assumption) | exact Below.refl _ _ | exact (Below.refl _ _).drew | exact (Below.refl _ _).alloc (Nat.le_refl _) _ | (refine bc _ _ (by assumption) (by assumption)))
  clear hK K
  refine RegOk.put_ (m' := 63) (by kernel_rfl) ?_
  try simp only [Act.put, List.setIfInBounds_toArray, List.set_cons_zero, List.set_cons_succ]
  refine hR.come (rs := [6]) (by kernel_rfl) (by simp) ?_
  refine AllReadyH.cons (o := ?o80_6) ?h80_6 (fun K hK => ?kw80_6) AllReadyH.nil
  case h80_6 => simp only [List.getElem?_toArray, List.getElem?_cons_succ, List.getElem?_cons_zero]; rfl
  go_simp
  go_at_call 27; refine (matchN (r := rd') rfl _ (HS8.out.keep (Below.agree (by (first | with_reducible assumption | (with_reducible refine Below.drew ?_; with_reducible assumption) | (with_reducible refine ba _ _ ?_; with_reducible assumption) | (with_reducible refine Below.drew ?_; with_reducible refine ba _ _ ?_; with_reducible assumption) | exact Below.refl _ _ | exact (Below.refl _ _).drew | exact (Below.refl _ _).alloc (Nat.le_refl _) _ | (refine bc _ _ (by assumption) (by assumption)))))) HV2.out).mono ?_; rw [oth_match]; rintro e wB ⟨rfl, hB⟩; have hk2 := bc _ _ (by (first | with_reducible assumption | (with_reducible refine Below.drew ?_; with_reducible assumption) | (with_reducible refine ba _ _ ?_; with_reducible assumption) | (with_reducible refine Below.drew ?_; with_reducible refine ba _ _ ?_; with_reducible assumption) | exact Below.refl _ _ | exact (Below.refl _ _).drew | exact (Below.refl _ _).alloc (Nat.le_refl _) _ | (refine bc _ _ (by assumption) (by assumption)))) hB; clear hB
  refine hK.out _ _ ?_ (fun hHeld => ?_)
  · (first | with_reducible assumption | (with_reducible refine Below.drew ?_; with_reducible assumption) | (with_reducible refine ba _ _ ?_; with_reducible assumption) | (with_reducible refine Below.drew ?_; with_reducible refine ba _ _ ?_; with_reducible assumption) | exact Below.refl _ _ | exact (Below.refl _ _).drew | exact (Below.refl _ _).alloc (Nat.le_refl _) _ | (refine bc _ _ (by assumption) (by assumption)))
  clear hK K
  refine RegOk.put_ (m' := 127) (by kernel_rfl) ?_
  try simp only [Act.put, List.setIfInBounds_toArray, List.set_cons_zero, List.set_cons_succ]
  refine hR.take (i := 7) (oi := ?ow81_7) (v := ?vw81_7) (m' := 255) ?hw81_7 (by kernel_rfl) (by kernel_rfl) (fun _ _ _ h => h) (Or.inl ⟨?sw81_7, ?yw81_7⟩) (by assumption) ?nw81_7
  case hw81_7 => simp only [List.getElem?_toArray, List.getElem?_cons_succ, List.getElem?_cons_zero]; rfl
  case sw81_7 => rfl
  case yw81_7 => (intro w hSw; (try dsimp only at hSw); go_simp <;> with_reducible rfl)
  try simp only [Act.put, List.setIfInBounds_toArray, List.set_cons_zero, List.set_cons_succ]
  refine hR.take (i := 8) (oi := ?ow82_8) (v := ?vw82_8) (m' := 511) ?hw82_8 (by kernel_rfl) (by kernel_rfl) (fun _ _ _ h => h) (Or.inl ⟨?sw82_8, ?yw82_8⟩) (by assumption) ?nw82_8
  case hw82_8 => simp only [List.getElem?_toArray, List.getElem?_cons_succ, List.getElem?_cons_zero]; rfl
  case sw82_8 => rfl
  case yw82_8 => (intro w hSw; (try dsimp only at hSw); go_simp <;> with_reducible rfl)
  try simp only [Act.put, List.setIfInBounds_toArray, List.set_cons_zero, List.set_cons_succ]
  refine hR.take (i := 9) (oi := ?ow83_9) (v := ?vw83_9) (m' := 1023) ?hw83_9 (by kernel_rfl) (by kernel_rfl) (fun _ _ _ h => h) (Or.inl ⟨?sw83_9, ?yw83_9⟩) (by assumption) ?nw83_9
  case hw83_9 => simp only [List.getElem?_toArray, List.getElem?_cons_succ, List.getElem?_cons_zero]; rfl
  case sw83_9 => rfl
  case yw83_9 => (intro w hSw; (try dsimp only at hSw); go_simp <;> with_reducible rfl)
  try simp only [Act.put, List.setIfInBounds_toArray, List.set_cons_zero, List.set_cons_succ]
  refine hR.take (i := 10) (oi := ?ow84_10) (v := ?vw84_10) (m' := 2047) ?hw84_10 (by kernel_rfl) (by kernel_rfl) (fun _ _ _ h => h) (Or.inl ⟨?sw84_10, ?yw84_10⟩) (by assumption) ?nw84_10
  case hw84_10 => simp only [List.getElem?_toArray, List.getElem?_cons_succ, List.getElem?_cons_zero]; rfl
  case sw84_10 => rfl
  case yw84_10 => (intro w hSw; (try dsimp only at hSw); go_simp <;> with_reducible rfl)
  try simp only [Act.put, List.setIfInBounds_toArray, List.set_cons_zero, List.set_cons_succ]
  refine hR.take (i := 11) (oi := ?ow85_11) (v := ?vw85_11) (m' := 4095) ?hw85_11 (by kernel_rfl) (by kernel_rfl) (fun _ _ _ h => h) (Or.inl ⟨?sw85_11, ?yw85_11⟩) (by assumption) ?nw85_11
  case hw85_11 => simp only [List.getElem?_toArray, List.getElem?_cons_succ, List.getElem?_cons_zero]; rfl
  case sw85_11 => rfl
  case yw85_11 => (intro w hSw; (try dsimp only at hSw); go_simp <;> with_reducible rfl)
  try simp only [Act.put, List.setIfInBounds_toArray, List.set_cons_zero, List.set_cons_succ]
  refine hR.all (by kernel_rfl) ?_ _
  refine NoPanic.normal ?_
  go_wp2_with fail
  go_ret
  exact ⟨rfl, b6.out.trans (Below.mono (by assumption) b6.out.size)⟩
end Go.Proofs.YtihcaoipemcddaaDoor
