/-
  Texts of this claim, merged: EvL, EvJ. Conditions: as each theorem says.
-/
import Derived.Lib.Mul64
import Derived.Laws.Bits64b
import Derived.Shelf.Bits.Mul64
import Derived.Test.YtmkpaolbejlodaaDoorB1
import Derived.Test.YtmkpaolbejlodaaDoorB2
import Derived.Test.YtmkpaolbejlodaaDoorB7
import Derived.Test.YtmkpaolbejlodaaDoorB3
import Derived.Test.YtmkpaolbejlodaaDoorB4
import Derived.Test.YtmkpaolbejlodaaDoorB5
import Derived.Test.YtmkpaolbejlodaaDoorB6
import Derived.Test.YtmkpaolbejlodaaDoorB8
import Derived.Test.YtmkpaolbejlodaaDoorB9
import Derived.Test.YtmkpaolbejlodaaDoorB10
import Derived.Test.YtmkpaolbejlodaaDoorB11
import Derived.Test.YtmkpaolbejlodaaDoorB12
import Derived.Test.YtmkpaolbejlodaaDoorB13
import Derived.Test.YtmkpaolbejlodaaDoorB14
import Derived.Test.YtmkpaolbejlodaaDoorB15
import Derived.Test.YtmkpaolbejlodaaDoorB16
import Derived.Test.YtmkpaolbejlodaaDoorB17
set_option linter.unusedSimpArgs false
set_option linter.unusedVariables false
namespace Go.Proofs.YtmkpaolbejlodaaDoor
open Go.RowKit

theorem total_app (q : Qy) (l m : List Rd) (v : Nat) : totalF q (l ++ m) v = totalF q l v + totalF q m v := by simp [totalF]
theorem live_app {l m : List Rd} {g h : List Bool} (hl : g.length = l.length) : liveF ⟨l ++ m, g ++ h⟩ = liveF ⟨l, g⟩ ++ liveF ⟨m, h⟩ := by
  unfold liveF
  dsimp only
  rw [List.zip_append hl.symm, List.filter_append, List.map_append]
theorem live_cons_t (r : Rd) (l : List Rd) (g : List Bool) : liveF ⟨r :: l, true :: g⟩ = liveF ⟨l, g⟩ := by simp [liveF]
theorem live_cons_f (r : Rd) (l : List Rd) (g : List Bool) : liveF ⟨r :: l, false :: g⟩ = r :: liveF ⟨l, g⟩ := by simp [liveF]
theorem total_cons (q : Qy) (r : Rd) (l : List Rd) (v : Nat) : totalF q (r :: l) v = termF q v r + totalF q l v := by simp [totalF]
/-- A retracted reading takes its own sums away. -/
theorem total_back (q : Qy) (v : Nat) : ∀ (l : List Rd) (g : List Bool) (k : Nat) (r : Rd), g[k]? = some false → l[k]? = some r →
    totalF q (liveF ⟨l, g⟩) v = totalF q (liveF ⟨l, g.set k true⟩) v + totalF q [r] v
  | [], _, _, _, _, h => by simp at h
  | _ :: _, [], _, _, h, _ => by simp at h
  | x :: l, b :: g, 0, r, h1, h2 => by
    simp at h1 h2
    subst h1; subst h2
    rw [List.set_cons_zero, live_cons_t, live_cons_f, total_cons, total_cons, totalF_nil]
    omega
  | x :: l, b :: g, k + 1, r, h1, h2 => by
    have ih := total_back q v l g k r (by simpa using h1) (by simpa using h2)
    rw [List.set_cons_succ]
    cases b with
    | true => rw [live_cons_t, live_cons_t]; exact ih
    | false => rw [live_cons_f, live_cons_f, total_cons, total_cons, ih]; omega

/-! Conditions. -/
/-! Sums over ranges. -/
/-! Moments. -/
/-! Pairs. -/
/-! Order. -/
end Go.Proofs.YtmkpaolbejlodaaDoor
namespace Go.Proofs.YtmkpaolbejlodaaDoor
open Go.RowKit

theorem Sl.belowE {α : Type} {E : Enc α} {S : Nat → Prop} {w w' : World} {A : Option Addr} {c N : Nat} {xs : List α} (h : Sl E S w A c xs) (hb : Below N w w') (hS : ∀ b, S b → b < N) : Sl E S w' A c xs :=
  h.keep ((Agree.refl S w).below hb (fun b hb _ => hS b hb))
theorem mvI {α : Type} {E : Enc α} {S : Nat → Prop} {w w' : World} {A : Option Addr} {c : Nat} {l : List α} (h : Hid (Sl E S w A c l)) (hb : Below w.heap.size w w') : Hid (Sl E S w' A c l) := Lib.hid (h.out.keep (Below.agree hb))
theorem twoF {W : World} {g : Nat} {u v : Value} {t : TypeId} (h : Hid (W.heap[g]? = some (.cells #[u, v] t (0, 0)))) :
    W.cell? ⟨g, 0, none⟩ = some u ∧ W.cell? ⟨g, 1, none⟩ = some v ∧ W.frozen? ⟨g, 0, none⟩ = false ∧ W.frozen? ⟨g, 1, none⟩ = false ∧ g < W.heap.size :=
  ⟨cell_of_row _ _ 0 _ _ _ h.out, cell_of_row _ _ 1 _ _ _ h.out, by simp [World.frozen?, h.out], by simp [World.frozen?, h.out], heap_lt h.out⟩
/-- Two rows of the call's own, apart from each other. -/
structure JJ (w1 : World) (b1 b2 : Nat) (v1 v2 : Value) (xs : List Rd) (ys : List Bool) (wx : World) : Prop where
  o1 : Own rdE (fun _ => False) wx b1 47 v1 xs
  o2 : Own .bool (fun _ => False) wx b2 4 v2 ys
  l1 : w1.heap.size ≤ b1
  l2 : w1.heap.size ≤ b2
  ne : ∀ k, v1.ownBlock = some k → v2.ownBlock ≠ some k
  bel : Below w1.heap.size w1 wx
  b1 : b1 ≤ wx.heap.size
  b2 : b2 ≤ wx.heap.size
theorem JJ.drew {w1 wx : World} {b1 b2 : Nat} {v1 v2 : Value} {xs : List Rd} {ys : List Bool} (h : JJ w1 b1 b2 v1 v2 xs ys wx) : JJ w1 b1 b2 v1 v2 xs ys wx.drew :=
  ⟨h.o1.drew, h.o2.drew, h.l1, h.l2, h.ne, h.bel.drew, h.b1, h.b2⟩
theorem JJ.app1 {w1 wx w' : World} {b1 b2 : Nat} {v1 v2 v' : Value} {xs zs : List Rd} {ys : List Bool} (h : JJ w1 b1 b2 v1 v2 xs ys wx) {S : Nat → Prop} (ho : Own rdE S w' b1 47 v' zs) (hg : wx.grownBy w' v1.ownBlock)
    (hor : ∀ k, v'.ownBlock = some k → v1.ownBlock = some k ∨ wx.heap.size = k) : JJ w1 b1 b2 v' v2 zs ys w' := by
  refine ⟨ho.flat rdE_flat, h.o2.grownNe hg (fun k hk e => h.ne k e hk), h.l1, h.l2, fun k hk e => ?_, h.bel.grown hg h.bel.size (fun k hk => Nat.le_trans h.l1 (h.o1.lt k hk).1), Nat.le_trans h.b1 hg.size, Nat.le_trans h.b2 hg.size⟩
  rcases hor k hk with h1 | h1
  · exact h.ne k h1 e
  · have := (h.o2.lt k e).2; omega
theorem JJ.app2 {w1 wx w' : World} {b1 b2 : Nat} {v1 v2 v' : Value} {xs : List Rd} {ys zs : List Bool} (h : JJ w1 b1 b2 v1 v2 xs ys wx) {S : Nat → Prop} (ho : Own .bool S w' b2 4 v' zs) (hg : wx.grownBy w' v2.ownBlock)
    (hor : ∀ k, v'.ownBlock = some k → v2.ownBlock = some k ∨ wx.heap.size = k) : JJ w1 b1 b2 v1 v' xs zs w' := by
  refine ⟨h.o1.grownNe hg (fun k hk e => h.ne k hk e), ho.flat bool_flat, h.l1, h.l2, fun k hk e => ?_, h.bel.grown hg h.bel.size (fun k hk => Nat.le_trans h.l2 (h.o2.lt k hk).1), Nat.le_trans h.b1 hg.size, Nat.le_trans h.b2 hg.size⟩
  rcases hor k e with h1 | h1
  · exact h.ne k hk h1
  · have := (h.o1.lt k hk).2; omega
def evJ : List FRow := [(0, ([], (16, [5]))), (1, ([], (17, [3]))), (2, ([1], (18, [16]))), (3, ([0, 2], (19, [15, 17]))), (4, ([], (20, [6]))), (5, ([], (21, [3]))), (6, ([5], (22, [20]))), (7, ([4, 6, 3], (23, [19, 21]))), (8, ([3, 7], (24, [18, 22]))), (9, ([8, 7, 0, 1, 2, 3, 4, 5, 6, 7, 8], (0, [4, 23])))]
set_option maxRecDepth 100000 in
set_option maxHeartbeats 4000000 in
theorem joinedP {s t : Str} {A B C D : Option Addr} {c d e f : Nat} {S T U V : Nat → Prop} (w : World) (h1 : Sl rdE S w A c s.l) (h2 : Sl .bool T w B d s.g) (h3 : Sl rdE U w C e t.l) (h4 : Sl .bool V w D f t.g) (hs : s.l.length ≤ 1000) (hs' : s.g.length ≤ 1000) (ht : t.l.length ≤ 1000) (ht' : t.g.length ≤ 1000) :
    Calls Tryd.prog 20 #[.agg #[.slice A s.l.length c, .slice B s.g.length d], .agg #[.slice C t.l.length e, .slice D t.g.length f]] w
      fun r w' => ∃ A' c' B' d', r = .returned (.agg #[.slice A' (s.l ++ t.l).length c', .slice B' (s.g ++ t.g).length d']) ∧ Sl rdE (fun b => w.heap.size ≤ b) w' A' c' (s.l ++ t.l) ∧ Sl .bool (fun b => w.heap.size ≤ b) w' B' d' (s.g ++ t.g) ∧ Below w.heap.size w w' := by
  obtain ⟨nl, hnl⟩ : ∃ n, (s.l ++ t.l).length = n := ⟨_, rfl⟩
  obtain ⟨ng, hng⟩ : ∃ n, (s.g ++ t.g).length = n := ⟨_, rfl⟩
  rw [hnl, hng]
  have HNL := Lib.hid hnl
  have HNG := Lib.hid hng
  have H1 := Lib.hid (h1.sub (T := fun b => b < w.heap.size) fun _ _ h => h)
  have H2 := Lib.hid (h2.sub (T := fun b => b < w.heap.size) fun _ _ h => h)
  have H3 := Lib.hid (h3.sub (T := fun b => b < w.heap.size) fun _ _ h => h)
  have H4 := Lib.hid (h4.sub (T := fun b => b < w.heap.size) fun _ _ h => h)
  have m1 := h1.max
  have m2 := h2.max
  have m3 := h3.max
  have m4 := h4.max
  clear h1 h2 h3 h4 hnl hng
  go_enter Tryd.func20, Tryd.ntmps20
  go_upto_region 1 with fail
  refine wp_world (F := fun wx => wx.heap.size = w.heap.size + 1 + 1 + 1 ∧ Below w.heap.size w wx ∧ Hid (wx.heap[w.heap.size]? = some (.cells #[.slice A s.l.length c, .slice B s.g.length d] 31 (0, 0))) ∧ Hid (wx.heap[w.heap.size + 1]? = some (.cells #[.slice C t.l.length e, .slice D t.g.length f] 31 (0, 0))) ∧ Hid (wx.heap[w.heap.size + 1 + 1]? = some (.cells #[.slice none 0 0, .slice none 0 0] 31 (0, 0)))) ⟨by simp, (by repeat' (first | with_reducible exact Below.refl _ _ | with_reducible assumption | with_reducible refine Below.setCell ?_ ?_ _ | with_reducible refine Below.drew ?_ | with_reducible refine below_drewN ?_ _ | with_reducible refine Below.alloc ?_ ?_ _ | (rintro _ ⟨⟩; simp <;> omega) | omega | (simp <;> omega))), Lib.hid ((Below.heap_alloc _ _ _ (by simp; omega)).trans ((Below.heap_alloc _ _ _ (by simp)).trans (heap_alloc_at rfl))), Lib.hid ((Below.heap_alloc _ _ _ (by simp)).trans (heap_alloc_at (by simp))), Lib.hid (heap_alloc_at (by simp))⟩ ?_
  rintro w1 ⟨hz1, bb, gs, gt, gr⟩
  have Z1 := Lib.hid hz1
  clear hz1
  have B1 := Lib.hid bb
  have K1 := Lib.hid (H1.out.keep (Below.agree bb))
  have K2 := Lib.hid (H2.out.keep (Below.agree bb))
  have K3 := Lib.hid (H3.out.keep (Below.agree bb))
  have K4 := Lib.hid (H4.out.keep (Below.agree bb))
  clear bb H1 H2 H3 H4
  obtain ⟨s0, s1⟩ := two2 gs
  have lgs := heap_lt gs.out
  have lgt := heap_lt gt.out
  have lgr := heap_lt gr.out
  go_cut [5] (fun v wx => ∃ A1 c1, v = .slice A1 s.l.length c1 ∧ Own rdE (fun _ => False) wx w1.heap.size 47 (.slice A1 s.l.length c1) s.l ∧ Below w1.heap.size w1 wx)
  case first =>
    go_wp2_with (at_builtin; go_must ((refine wpList_append_E (E := rdE) (S := fun b => b < w1.heap.size) rfl (.tmp 7) (.tmp 9) rfl rdsT (base := w1.heap.size) (v := .slice (some ⟨w1.heap.size, 0, none⟩) 0 0) (xs := []) (ys := s.l) (by rfl) (by rfl) rfl (nz := s.l.length) (by simp) (Own.litAt _ _ _ _ rfl (Nat.le_refl _)) ((K1.out.sub (T := fun b => b < w1.heap.size) (fun b _ h => h)).alloc_ _) (by unfold maxLen; simp; omega) (by simp; omega) (by simp) (fun g' hg' (hlt : g' < w1.heap.size) => by have h1 : some w1.heap.size = some g' := hg'; injection h1 with h1; omega) ?_); intro A7 c7 w7 hown7 hg7 hor7; have ho7 := Lib.hid hown7; have hG7 := Lib.hid hg7; clear hown7 hg7 hor7))
    go_meet
    case rel => exact ⟨_, _, rfl, ho7.out.flat rdE_flat, ((Below.refl w1.heap.size w1).alloc (Nat.le_refl _) _).grown hG7.out (by simp) (fun k hk => by have h2 : some w1.heap.size = some k := hk; injection h2 with h2; omega)⟩
  obtain ⟨A1, c1, rfl, ho, hb⟩ := hcut
  obtain ⟨w2, hwv⟩ : ∃ x, x = wc := ⟨_, rfl⟩
  subst hwv
  have O1 := Lib.hid ho
  have B2 := Lib.hid hb
  have gs2 := mvQ gs hb
  have k2 := Lib.hid (K2.out.belowE hb fun b hb' => by have := Z1.out; omega)
  clear ho hb s0 s1
  obtain ⟨s0, s1⟩ := two2 gs2
  have lgs2 := heap_lt gs2.out
  go_upto_region 2 with fail
  go_cut [6] (fun v wx => ∃ A2 c2, v = .slice A2 s.g.length c2 ∧ JJ w1 w1.heap.size w2.heap.size (.slice A1 s.l.length c1) (.slice A2 s.g.length c2) s.l s.g wx)
  case first =>
    go_wp2_with (at_builtin; go_must ((refine wpList_append_E (E := .bool) (S := fun b => b < w2.heap.size) rfl (.tmp 11) (.tmp 13) rfl boolsT (base := w2.heap.size) (v := .slice (some ⟨w2.heap.size, 0, none⟩) 0 0) (xs := []) (ys := s.g) (by rfl) (by rfl) rfl (nz := s.g.length) (by simp) (Own.litAt _ _ _ _ rfl (Nat.le_refl _)) ((k2.out.sub (T := fun b => b < w2.heap.size) (fun b _ h => h)).alloc_ _) (by unfold maxLen; simp; omega) (by simp; omega) (by simp) (fun g' hg' (hlt : g' < w2.heap.size) => by have h1 : some w2.heap.size = some g' := hg'; injection h1 with h1; omega) ?_); intro A7 c7 w7 hown7 hg7 hor7; have ho7 := Lib.hid hown7; have hG7 := Lib.hid hg7; clear hown7 hg7 hor7))
    go_meet
    case rel =>
      refine ⟨_, _, rfl, (O1.out.alloc _).grownNe hG7.out (fun k hk e => ?_), ho7.out.flat bool_flat, Nat.le_refl _, B2.out.size, fun k hk e => ?_, ?_, Nat.le_trans B2.out.size (by have := hG7.out.size; simp at this; omega), by have := hG7.out.size; simp at this; omega⟩
      · have h1 := (O1.out.lt k hk).2
        have h2 : some w2.heap.size = some k := e
        injection h2 with h2; omega
      · have h1 := (O1.out.lt k hk).2
        have h2 := (ho7.out.lt k e).1
        omega
      · have hz := B2.out.size
        exact (B2.out.alloc B2.out.size _).grown hG7.out (by simp; omega) (fun k hk => by have h2 : some w2.heap.size = some k := hk; injection h2 with h2; omega)
  obtain ⟨A2, c2, rfl, hj⟩ := hcut
  obtain ⟨w3, hwv⟩ : ∃ x, x = wc := ⟨_, rfl⟩
  subst hwv
  have J := hj.drew
  have J3 := Lib.hid hj
  have zt : ∀ W, Below w1.heap.size w1 W → _ ∧ _ := fun W hW => two2 (mvQ gt hW)
  have zr : ∀ W, Below w1.heap.size w1 W → Hid (W.heap[w.heap.size + 1 + 1]? = some (.cells #[.slice none 0 0, .slice none 0 0] 31 (0, 0))) := fun W hW => mvQ gr hW
  clear hj gs2 s0 s1 O1 B2 gs
  (first | go_values | go_skip | go_guarded | go_step | go_upon | go_back)
  (first | go_values | go_skip | go_guarded | go_step | go_upon | go_back)
  have br : Below w1.heap.size w1 w1 := Below.refl _ _
  have ba : ∀ W o, Below w1.heap.size w1 W → Below w1.heap.size w1 (W.alloc o) := fun W o h => h.alloc h.size o
  have bc : ∀ W W', Below w1.heap.size w1 W → Below W.heap.size W W' → Below w1.heap.size w1 W' := fun W W' h k => h.trans (k.mono h.size)
  have hj3 := J.bel
  have hS0 : ∀ W, Below w1.heap.size w1 W → Below w.heap.size w W ∧ W.cell? ⟨w.heap.size + 1, 0, none⟩ = some (.slice C t.l.length e) ∧ W.cell? ⟨w.heap.size + 1, 1, none⟩ = some (.slice D t.g.length f) := fun W hW => ⟨B1.out.trans (hW.mono B1.out.size), (zt W hW).1, (zt W hW).2⟩
  have hS1 : ∀ W u v, Below w1.heap.size w1 W → Below w.heap.size w ((W.setCell ⟨w.heap.size + 1 + 1, 0, none⟩ u).setCell ⟨w.heap.size + 1 + 1, 1, none⟩ v) ∧ ((W.setCell ⟨w.heap.size + 1 + 1, 0, none⟩ u).setCell ⟨w.heap.size + 1 + 1, 1, none⟩ v).cell? ⟨w.heap.size + 1, 0, none⟩ = some (.slice C t.l.length e) ∧ ((W.setCell ⟨w.heap.size + 1 + 1, 0, none⟩ u).setCell ⟨w.heap.size + 1 + 1, 1, none⟩ v).cell? ⟨w.heap.size + 1, 1, none⟩ = some (.slice D t.g.length f) := fun W u v hW => by
    obtain ⟨c0, c1⟩ := two2 (W := (W.setCell ⟨w.heap.size + 1 + 1, 0, none⟩ u).setCell ⟨w.heap.size + 1 + 1, 1, none⟩ v) (Lib.hid (((Below.heap_setCell _ _ _ _ (by simp)).trans (Below.heap_setCell _ _ _ _ (by simp))).trans (mvQ gt hW).out))
    exact ⟨((B1.out.trans (hW.mono B1.out.size)).setCell (by dsimp only; omega) _).setCell (by dsimp only; omega) _, c0, c1⟩
  refine wp_region_noPanic ?_
  refine wp_region_held_drew (S := fun X => Below w.heap.size w X ∧ X.cell? ⟨w.heap.size + 1, 0, none⟩ = some (.slice C t.l.length e) ∧ X.cell? ⟨w.heap.size + 1, 1, none⟩ = some (.slice D t.g.length f)) (by kernel_rfl) ?_ (fun hHeld => ?_)
  · (first | exact hS0 _ J.bel | exact hS1 _ _ _ J.bel | (first | with_reducible assumption | (with_reducible refine Below.drew ?_; with_reducible assumption) | (with_reducible refine ba _ _ ?_; with_reducible assumption) | (with_reducible refine Below.drew ?_; with_reducible refine ba _ _ ?_; with_reducible assumption) | exact Below.refl _ _ | exact (Below.refl _ _).drew | exact (Below.refl _ _).alloc (Nat.le_refl _) _ | (refine bc _ _ (by assumption) (by assumption))))
  refine RegOk.begin_ (n := 10) (T := evJ) ⟨by kernel_rfl, by kernel_rfl, by kernel_rfl, by kernel_rfl⟩ fun hR => ?_
  refine hR.take (i := 0) (oi := ?ow766_0) (v := ?vw766_0) (m' := 1) ?hw766_0 (by kernel_rfl) (by kernel_rfl) (fun _ _ _ h => h) (Or.inl ⟨?sw766_0, ?yw766_0⟩) (by assumption) ?nw766_0
  case hw766_0 => simp only [List.getElem?_toArray, List.getElem?_cons_succ, List.getElem?_cons_zero]; rfl
  case sw766_0 => rfl
  case yw766_0 => (intro w hSw; (try dsimp only at hSw); go_simp <;> with_reducible rfl)
  try simp only [Act.put, List.setIfInBounds_toArray, List.set_cons_zero, List.set_cons_succ]
  refine hR.take (i := 1) (oi := ?ow767_1) (v := ?vw767_1) (m' := 3) ?hw767_1 (by kernel_rfl) (by kernel_rfl) (fun _ _ _ h => h) (Or.inl ⟨?sw767_1, ?yw767_1⟩) (by assumption) ?nw767_1
  case hw767_1 => simp only [List.getElem?_toArray, List.getElem?_cons_succ, List.getElem?_cons_zero]; rfl
  case sw767_1 => rfl
  case yw767_1 => (intro w hSw; (try dsimp only at hSw); go_simp <;> with_reducible rfl)
  try simp only [Act.put, List.setIfInBounds_toArray, List.set_cons_zero, List.set_cons_succ]
  refine hR.take (i := 2) (oi := ?ow768_2) (v := ?vw768_2) (m' := 7) ?hw768_2 (by kernel_rfl) (by kernel_rfl) (fun _ _ _ h => h) (Or.inl ⟨?sw768_2, ?yw768_2⟩) (by assumption) ?nw768_2
  case hw768_2 => simp only [List.getElem?_toArray, List.getElem?_cons_succ, List.getElem?_cons_zero]; rfl
  case sw768_2 => rfl
  case yw768_2 => (intro w hSw; (try dsimp only at hSw); go_simp <;> with_reducible rfl)
  try simp only [Act.put, List.setIfInBounds_toArray, List.set_cons_zero, List.set_cons_succ]
  refine hR.take (i := 4) (oi := ?ow769_4) (v := ?vw769_4) (m' := 23) ?hw769_4 (by kernel_rfl) (by kernel_rfl) (fun _ _ _ h => h) (Or.inl ⟨?sw769_4, ?yw769_4⟩) (by assumption) ?nw769_4
  case hw769_4 => simp only [List.getElem?_toArray, List.getElem?_cons_succ, List.getElem?_cons_zero]; rfl
  case sw769_4 => rfl
  case yw769_4 => (intro w hSw; (try dsimp only at hSw); go_simp <;> with_reducible rfl)
  try simp only [Act.put, List.setIfInBounds_toArray, List.set_cons_zero, List.set_cons_succ]
  refine hR.take (i := 5) (oi := ?ow770_5) (v := ?vw770_5) (m' := 55) ?hw770_5 (by kernel_rfl) (by kernel_rfl) (fun _ _ _ h => h) (Or.inl ⟨?sw770_5, ?yw770_5⟩) (by assumption) ?nw770_5
  case hw770_5 => simp only [List.getElem?_toArray, List.getElem?_cons_succ, List.getElem?_cons_zero]; rfl
  case sw770_5 => rfl
  case yw770_5 => (intro w hSw; (try dsimp only at hSw); go_simp <;> with_reducible rfl)
  try simp only [Act.put, List.setIfInBounds_toArray, List.set_cons_zero, List.set_cons_succ]
  refine hR.take (i := 6) (oi := ?ow771_6) (v := ?vw771_6) (m' := 119) ?hw771_6 (by kernel_rfl) (by kernel_rfl) (fun _ _ _ h => h) (Or.inl ⟨?sw771_6, ?yw771_6⟩) (by assumption) ?nw771_6
  case hw771_6 => simp only [List.getElem?_toArray, List.getElem?_cons_succ, List.getElem?_cons_zero]; rfl
  case sw771_6 => rfl
  case yw771_6 => (intro w hSw; (try dsimp only at hSw); go_simp <;> with_reducible rfl)
  try simp only [Act.put, List.setIfInBounds_toArray, List.set_cons_zero, List.set_cons_succ]
  refine hR.come (rs := [3]) (by kernel_rfl) (by simp) ?_
  refine AllReadyH.cons (o := ?o772_3) ?h772_3 (fun K hK => ?kw772_3) AllReadyH.nil
  case h772_3 => simp only [List.getElem?_toArray, List.getElem?_cons_succ, List.getElem?_cons_zero]; rfl
  refine step_append_E (E := rdE) (S := fun b => b < w1.heap.size) rfl (.tmp 15) (.tmp 17) rfl rdsT (base := w1.heap.size) (v := .slice A1 s.l.length c1) (xs := s.l) (ys := t.l) (by rfl) (by rfl) rfl (nz := nl) HNL.out (J.o1.flat rdE_flat) ((K3.out.belowE J.bel (fun b h => by omega)).sub (fun b h _ => by omega)) (by unfold maxLen; omega) (by omega) J.b1 (fun g hg h => by have := (J.o1.lt g hg).1; omega) ?_; intro A7 c7 w7 hown7 hg7 hor7; have J := J.app1 hown7 hg7 hor7; clear hown7 hg7 hor7; have hb7 := J.bel; obtain ⟨r70, r71, r72, r73, r74⟩ := twoF (zr _ hb7)
  refine hK.out _ _ ?_ (fun hHeld => ?_)
  · (first | exact hS0 _ J.bel | exact hS1 _ _ _ J.bel | (first | with_reducible assumption | (with_reducible refine Below.drew ?_; with_reducible assumption) | (with_reducible refine ba _ _ ?_; with_reducible assumption) | (with_reducible refine Below.drew ?_; with_reducible refine ba _ _ ?_; with_reducible assumption) | exact Below.refl _ _ | exact (Below.refl _ _).drew | exact (Below.refl _ _).alloc (Nat.le_refl _) _ | (refine bc _ _ (by assumption) (by assumption))))
  clear hK K
  refine RegOk.put_ (m' := 127) (by kernel_rfl) ?_
  try simp only [Act.put, List.setIfInBounds_toArray, List.set_cons_zero, List.set_cons_succ]
  refine hR.come (rs := [7]) (by kernel_rfl) (by simp) ?_
  refine AllReadyH.cons (o := ?o773_7) ?h773_7 (fun K hK => ?kw773_7) AllReadyH.nil
  case h773_7 => simp only [List.getElem?_toArray, List.getElem?_cons_succ, List.getElem?_cons_zero]; rfl
  refine step_append_E (E := .bool) (S := fun b => b < w1.heap.size) rfl (.tmp 19) (.tmp 21) rfl boolsT (base := w2.heap.size) (v := .slice A2 s.g.length c2) (xs := s.g) (ys := t.g) (by rfl) (by rfl) rfl (nz := ng) HNG.out (J.o2.flat bool_flat) ((K4.out.belowE J.bel (fun b h => by omega)).sub (fun b h _ => by omega)) (by unfold maxLen; omega) (by omega) J.b2 (fun g hg h => by have := (J.o2.lt g hg).1; have := J.l2; omega) ?_; intro A8 c8 w8 hown8 hg8 hor8; have J := J.app2 hown8 hg8 hor8; clear hown8 hg8 hor8; have hb8 := J.bel; obtain ⟨r80, r81, r82, r83, r84⟩ := twoF (zr _ hb8)
  refine hK.out _ _ ?_ (fun hHeld => ?_)
  · (first | exact hS0 _ J.bel | exact hS1 _ _ _ J.bel | (first | with_reducible assumption | (with_reducible refine Below.drew ?_; with_reducible assumption) | (with_reducible refine ba _ _ ?_; with_reducible assumption) | (with_reducible refine Below.drew ?_; with_reducible refine ba _ _ ?_; with_reducible assumption) | exact Below.refl _ _ | exact (Below.refl _ _).drew | exact (Below.refl _ _).alloc (Nat.le_refl _) _ | (refine bc _ _ (by assumption) (by assumption))))
  clear hK K
  refine RegOk.put_ (m' := 255) (by kernel_rfl) ?_
  try simp only [Act.put, List.setIfInBounds_toArray, List.set_cons_zero, List.set_cons_succ]
  refine hR.take (i := 8) (oi := ?ow774_8) (v := ?vw774_8) (m' := 511) ?hw774_8 (by kernel_rfl) (by kernel_rfl) (fun _ _ _ h => h) (Or.inl ⟨?sw774_8, ?yw774_8⟩) (by assumption) ?nw774_8
  case hw774_8 => simp only [List.getElem?_toArray, List.getElem?_cons_succ, List.getElem?_cons_zero]; rfl
  case sw774_8 => rfl
  case yw774_8 => (intro w hSw; (try dsimp only at hSw); go_simp <;> with_reducible rfl)
  try simp only [Act.put, List.setIfInBounds_toArray, List.set_cons_zero, List.set_cons_succ]
  refine hR.come (rs := [9]) (by kernel_rfl) (by simp) ?_
  refine AllReadyH.cons (o := ?o775_9) ?h775_9 (fun K hK => ?kw775_9) AllReadyH.nil
  case h775_9 => simp only [List.getElem?_toArray, List.getElem?_cons_succ, List.getElem?_cons_zero]; rfl
  go_simp <;> (try go_wp2_with fail)
  refine hK.out _ _ ?_ (fun hHeld => ?_)
  · (first | exact hS0 _ J.bel | exact hS1 _ _ _ J.bel | (first | with_reducible assumption | (with_reducible refine Below.drew ?_; with_reducible assumption) | (with_reducible refine ba _ _ ?_; with_reducible assumption) | (with_reducible refine Below.drew ?_; with_reducible refine ba _ _ ?_; with_reducible assumption) | exact Below.refl _ _ | exact (Below.refl _ _).drew | exact (Below.refl _ _).alloc (Nat.le_refl _) _ | (refine bc _ _ (by assumption) (by assumption))))
  clear hK K
  refine RegOk.put_ (m' := 1023) (by kernel_rfl) ?_
  try simp only [Act.put, List.setIfInBounds_toArray, List.set_cons_zero, List.set_cons_succ]
  refine hR.all (by kernel_rfl) ?_ _
  refine NoPanic.normal ?_
  go_wp2_with fail
  have hbl := hS1 _ (.slice A7 nl c7) (.slice A8 ng c8) J.bel
  have hzz := Z1.out
  refine bodyPost_ret (v := .agg #[.slice A7 nl c7, .slice A8 ng c8]) (by simp [results, Tryd.results20, go_sem, *]) rfl ⟨A7, c7, A8, c8, rfl, ?_, ?_, hbl.1⟩
  · exact ((J.o1.set (p := ⟨w.heap.size + 1 + 1, 0, none⟩) (fun e => by have h1 := (J.o1.lt _ e).1; have := J.l1; dsimp only at h1; omega) (fun h => h) _).set (p := ⟨w.heap.size + 1 + 1, 1, none⟩) (fun e => by have h1 := (J.o1.lt _ e).1; have := J.l1; dsimp only at h1; omega) (fun h => h) _).flatSl rdE_flat (fun b hb => by have := J.l1; omega)
  · exact ((J.o2.set (p := ⟨w.heap.size + 1 + 1, 0, none⟩) (fun e => by have h1 := (J.o2.lt _ e).1; have := J.l2; dsimp only at h1; omega) (fun h => h) _).set (p := ⟨w.heap.size + 1 + 1, 1, none⟩) (fun e => by have h1 := (J.o2.lt _ e).1; have := J.l2; dsimp only at h1; omega) (fun h => h) _).flatSl bool_flat (fun b hb => by have := J.l2; omega)
end Go.Proofs.YtmkpaolbejlodaaDoor
