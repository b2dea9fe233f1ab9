/-
  reading.Live: the readings that are not retracted, in a slice of the call's own.
-/
import Derived.Test.YtlolppjnpmdpgaaLive1
namespace Go.Proofs.Ytlolppjnpmdpgaa
open Go.RowKit Go.Shelf

attribute [local go_sem] Oper.semAt_some

theorem own_abides {α : Type} {E : Enc α} {W W' : World} {base : Nat} {e : TypeId} {v : Value} {xs : List α} {row : Option Nat} (h : Own E (fun _ => False) W base e v xs) (hg : W.grownBy W' row) (hr : ∀ r, row = some r → ∃ o : Obj, W.heap[r]? = some o ∧ o.isCells = false) : Own E (fun _ => False) W' base e v xs := by
  obtain ⟨cs, hown, hel⟩ := h
  refine Own.grown ⟨cs, hown, hel⟩ hg ?_ (fun _ _ h => h)
  rcases hown.2 with ⟨rfl, _⟩ | ⟨g, cap, cur, rfl, hb, hgg, _⟩
  · exact .inl rfl
  · refine .inr fun e' => ?_
    obtain ⟨o, ho, hc⟩ := hr g e'.symm
    rw [hgg] at ho; cases ho; cases hc
theorem cells_abide {W W' : World} {g : Nat} {cs : Array Value} {t : TypeId} {row : Option Nat} (h : W.heap[g]? = some (.cells cs t (0, 0))) (hg : W.grownBy W' row) (hr : ∀ r, row = some r → ∃ o : Obj, W.heap[r]? = some o ∧ o.isCells = false) : W'.heap[g]? = some (.cells cs t (0, 0)) := by
  refine (hg.block g (heap_lt h) fun e' => ?_).trans h
  obtain ⟨o, ho, hc⟩ := hr g e'.symm
  rw [h] at ho; cases ho; cases hc

/-- Between two rounds: 'out' lies in box g and owns what has come. -/
def LiveI (w : World) (g N0 : Nat) (pre : List Rd) (W : World) : Prop :=
  ∃ A c, W.heap[g]? = some (.cells #[.slice A pre.length c] 27 (0, 0)) ∧ Own rdE (fun _ => False) W N0 24 (.slice A pre.length c) pre ∧ Below w.heap.size w W ∧ N0 ≤ W.heap.size

set_option maxRecDepth 100000 in
set_option maxHeartbeats 4000000 in
theorem liveP_in (F : Fence) (n : Nat) (h3 : F.fn 31) (h4 : F.fn 57) (h5 : F.fn 70) (hro : F.round = none) (hn : 3 ≤ n) {s : Str} {A B : Option Addr} {c d : Nat} {S : Nat → Prop} (w : World) (h : Sl rdE S w A c s.l) (k : Sl .bool S w B d s.g) (hg : s.g.length = s.l.length) (hm : s.l.length ≤ 1000) :
    CallsIn F n Try.prog 31 #[.agg #[.slice A s.l.length c, .slice B s.g.length d]] w (RdsRes S w (liveF s)) := by
  have h1 : 1 ≤ n := by omega
  obtain ⟨i0, hi, hz0, hz1, hz2⟩ := info_parts (show (Try.prog.info? 24).map (fun i => (i.zero, i.size, i.bytes)) = some (some (.agg #[.int .i64 0, .int .i64 0, .int .i64 0, .int .i64 0]), 4, 32) by kernel_rfl)
  have H := Lib.hid (h.old.sub (T := fun b => b < w.heap.size + 3 ∧ b ≠ w.heap.size + 1) fun b hb _ => ⟨by omega, by omega⟩)
  have K := Lib.hid (k.old.sub (T := fun b => b < w.heap.size + 3 ∧ b ≠ w.heap.size + 1) fun b hb _ => ⟨by omega, by omega⟩)
  have Hg := Lib.hid hg
  clear h k hg
  refine callsIn_of_wp_marks Try.func31 rfl h3 ?_ hro
  simp only [Try.ntmps31, List.size_toArray, List.length_cons, List.length_nil, Nat.reduceAdd, Nat.reduceSub, Array.replicate_succ, Array.replicate_zero, List.push_toArray, List.append_toArray, List.nil_append, List.cons_append]
  gi_wp2_with (gi_at_call 57; refine (live_in F (n - 1) h4 hro _ _ _).mono ?_; rintro e w' ⟨rfl, rfl⟩)
  have hB0 : Below w.heap.size w (((w.alloc (.cells #[.slice A s.l.length c, .slice B s.g.length d] 30)).alloc (.cells #[.slice none 0 0] 27)).alloc (.cells #[.slice A s.l.length c, .slice B s.g.length d] 30)) := (((Below.refl _ w).alloc (Nat.le_refl _) _).alloc (by simp) _).alloc (by simp; omega) _
  have hsz : (((w.alloc (.cells #[.slice A s.l.length c, .slice B s.g.length d] 30)).alloc (.cells #[.slice none 0 0] 27)).alloc (.cells #[.slice A s.l.length c, .slice B s.g.length d] 30)).heap.size = w.heap.size + 3 := by simp
  have hbs : (((w.alloc (.cells #[.slice A s.l.length c, .slice B s.g.length d] 30)).alloc (.cells #[.slice none 0 0] 27)).alloc (.cells #[.slice A s.l.length c, .slice B s.g.length d] 30)).heap[w.heap.size + 1 + 1]? = some (.cells #[.slice A s.l.length c, .slice B s.g.length d] 30 (0, 0)) := heap_alloc_at (by simp)
  have hbo : (((w.alloc (.cells #[.slice A s.l.length c, .slice B s.g.length d] 30)).alloc (.cells #[.slice none 0 0] 27)).alloc (.cells #[.slice A s.l.length c, .slice B s.g.length d] 30)).heap[w.heap.size + 1]? = some (.cells #[.slice none 0 0] 27 (0, 0)) := (Below.heap_alloc _ _ _ (by simp)).trans (heap_alloc_at (by simp))
  have hsl := H.out.keep (Agree.alloc (Agree.alloc (Agree.alloc (Agree.refl _ w) (.cells #[.slice A s.l.length c, .slice B s.g.length d] 30)) (.cells #[.slice none 0 0] 27)) (.cells #[.slice A s.l.length c, .slice B s.g.length d] 30))
  have hsk := K.out.keep (Agree.alloc (Agree.alloc (Agree.alloc (Agree.refl _ w) (.cells #[.slice A s.l.length c, .slice B s.g.length d] 30)) (.cells #[.slice none 0 0] 27)) (.cells #[.slice A s.l.length c, .slice B s.g.length d] 30))
  obtain ⟨W0, hW0⟩ : ∃ W0, (((w.alloc (.cells #[.slice A s.l.length c, .slice B s.g.length d] 30)).alloc (.cells #[.slice none 0 0] 27)).alloc (.cells #[.slice A s.l.length c, .slice B s.g.length d] 30)) = W0 := ⟨_, rfl⟩
  rw [hW0] at hB0 hsz hbs hbo hsl hsk ⊢
  clear hW0
  refine wpIn_rangeFunc_ownH hro h1 (gf := 70) (lb := #[.pointer (some ⟨w.heap.size + 1 + 1, 0, none⟩)]) rfl h5 (enters_of Try.func70 (by kernel_rfl) rfl)
    (live_stops F (n - 1) h5 hro (by omega) (w.heap.size + 1 + 1) (fun b => b < w.heap.size + 3 ∧ b ≠ w.heap.size + 1) (s := s) W0 ⟨by omega, by omega⟩ (by omega) (cell_of_row _ _ 0 _ _ _ hbs) (cell_of_row _ _ 1 _ _ _ hbs) hsl hsk Hg.out hm)
    (fun h1 h2 => Agree.trans h1 h2) (fun W l o o' hl ho _ _ => ⟨by simp, fun b hb _ => World.putObj_heap_other (by omega)⟩) (Below.refl _ _) (fun _ => rfl)
    (LiveI w (w.heap.size + 1) (w.heap.size + 3))
    (fun _ _ _ => False)
    (fun pre X Y row hs hg hr => by
      obtain ⟨A1, c1, q1, q2, q3, q4⟩ := hs
      exact ⟨A1, c1, cells_abide q1 hg (fun r e => (hr r e).2), own_abides q2 hg (fun r e => (hr r e).2), q3.grown hg (by omega) (fun k e => by have := (hr k e).1; omega), Nat.le_trans q4 hg.size⟩)
    (fun _ _ _ _ _ hs _ _ => hs)
    ⟨none, 0, hbo, Own.nil_ _ _ _ _ _, hB0, by omega⟩
    (fun x a' W => ∃ Bx, w.heap.size + 3 ≤ Bx ∧ W.heap[Bx]? = some (.cells #[.int .i64 x.who, .int .i64 x.whn, .int .i64 x.knd, .int .i64 x.val] 24 (0, 0)) ∧ a' = { tmps := #[.agg #[.slice A s.l.length c, .slice B s.g.length d], .pointer (some ⟨w.heap.size, 0, none⟩), .slice none 0 0, .pointer (some ⟨w.heap.size + 1, 0, none⟩), .pointer (some ⟨Bx, 0, none⟩), .agg #[.slice A s.l.length c, .slice B s.g.length d], .func (.func 70) #[] #[.pointer (some ⟨w.heap.size + 1 + 1, 0, none⟩)], .agg #[.int .i64 x.who, .int .i64 x.whn, .int .i64 x.knd, .int .i64 x.val], undef, undef, undef, undef, undef], defers := [] })
    (fun x a' _ X Y row hs hg hr => by obtain ⟨Bx, h1, h2, h3⟩ := hs; exact ⟨Bx, h1, cells_abide h2 hg (fun r e => (hr r e).2), h3⟩)
    ?assign ?body ?done ?stop
  case assign =>
    rintro l pre x W K ⟨A1, c1, q1, q2, q3, q4⟩ hK
    gi_wp2
    exact hK _ _ ((KeepsOthers.alloc _ _).from _) ((Agree.refl _ W).alloc _) ⟨A1, c1, (Below.heap_alloc _ _ _ (heap_lt q1)).trans q1, q2.alloc _, q3.alloc q3.size _, by simp; omega⟩ ⟨W.heap.size, q4, heap_alloc_at rfl, rfl⟩
  case body =>
    rintro l pre x a' W hl ⟨r, hr⟩ ⟨A1, c1, q1, q2, q3, q4⟩ ⟨Bx, hBx, bX, rfl⟩ hlt
    obtain ⟨cs, hown, hel⟩ := q2
    have hc := cell_of_row _ _ 0 _ _ _ q1
    have x0 := cell_of_row _ _ 0 _ _ _ bX
    have x1 := cell_of_row _ _ 1 _ _ _ bX
    have x2 := cell_of_row _ _ 2 _ _ _ bX
    have x3 := cell_of_row _ _ 3 _ _ _ bX
    simp only [List.getElem?_toArray, List.getElem?_cons_zero, List.getElem?_cons_succ] at hc x0 x1 x2 x3
    have lo : ∀ g, (Value.slice A1 pre.length c1).ownBlock = some g → w.heap.size + 3 ≤ g ∧ g < W.heap.size := hown.lt
    have hl8 : pre.length < 1000 := by omega
    gi_wp2_with (gi_at_builtin; go_must ((refine wpListIn_append_own _ rfl _ _ 27 rfl (w.heap.size + 3) 24 i0 (.agg #[.int .i64 0, .int .i64 0, .int .i64 0, .int .i64 0]) 4 32 Try.underlying27 hi hz0 hz1 hz2 rfl (by decide) _ _ _ rfl (hown.alloc _) ⟨W.heap.size, 0, none⟩ 1 1 [.int .i64 x.who, .int .i64 x.whn, .int .i64 x.knd, .int .i64 x.val] rfl rfl (fun j u hu => by rw [Addr.add_lit, cell_of_row _ _ _ _ _ _ (heap_alloc_new W _)]; simpa using hu) (by simp [Value.oneCell']) (by unfold maxLen; omega) (by omega) (by simp; omega) ?_); intro v' w1 hown' hgrow _; obtain ⟨g', cap', rfl⟩ := ownsRow_succ hown'; have hne1 : some (w.heap.size + 1) ≠ (Value.slice A1 pre.length c1).ownBlock := (fun e => absurd (lo _ e.symm).1 (by omega)); have q5 : w1.heap[w.heap.size + 1]? = some (.cells #[.slice A1 pre.length c1] 27 (0, 0)) := (hgrow.block _ (by simp; omega) hne1).trans ((Below.heap_alloc _ _ _ (heap_lt q1)).trans q1); have hc1 := cell_of_row _ _ 0 _ _ _ q5; simp only [List.getElem?_toArray, List.getElem?_cons_zero] at hc1; have hf1 : w1.frozen? ⟨w.heap.size + 1, 0, none⟩ = false := (by simp [World.frozen?, q5])))
    have hz1' := hgrow.size
    simp at hz1'
    refine ⟨?_, ?_, some ⟨g', 0, none⟩, cap', ?_, ?_, ?_, ?_⟩
    · refine (((KeepsOthers.alloc W _).trans (KeepsOthers.of_grownBy hgrow fun j o ej hj => ?_)).trans (KeepsOthers.setCell _ _ _)).from _
      rcases (hown.alloc _).2 with ⟨e, _⟩ | ⟨g, cap, cur, e, _, hgb, _⟩
      · rw [e] at ej; cases ej
      · rw [e] at ej; cases ej; rw [hgb] at hj; cases hj; rfl
    · exact ((((Agree.refl _ W).alloc _).grown hgrow (fun g hg h => by have := (lo g hg).1; omega)).set (by show ¬ (w.heap.size + 1 < w.heap.size + 3 ∧ w.heap.size + 1 ≠ w.heap.size + 1); omega) _)
    · simpa using heap_set (i := 0) (u := .slice (some ⟨g', 0, none⟩) (pre.length + 1) cap') q5
    · have ho : Own rdE (fun _ => False) w1 (w.heap.size + 3) 24 (.slice (some ⟨g', 0, none⟩) (pre ++ [x]).length cap') (pre ++ [x]) := ⟨_, by rw [List.length_append]; exact hown', (hel.flat rdE_flat).snoc rdE_shut⟩
      exact ho.set (fun e => by have := (ho.lt _ e).1; simp at this) (fun h => h) _
    · exact ((q3.alloc q3.size _).grown hgrow (by simp; omega) (fun g hg => by have := (lo g hg).1; omega)).setCell (by simp) _
    · simp [World.setCell]; omega
  case done =>
    rintro D ys W hD rfl ⟨A1, c1, q1, q2, q3, q4⟩ hK
    have hc := cell_of_row _ _ 0 _ _ _ q1
    simp only [List.getElem?_toArray, List.getElem?_cons_zero] at hc
    gi_wp2
    refine ⟨by simp, .inl ⟨_, _, rfl, run_takeDeferred hK, ?_⟩⟩
    refine ⟨_, results_tmp rfl _ _ _, A1, c1, rfl, ?_, q3.trans (belowK_b (w := w) (Nat.le_refl _) W D _ _ (by omega) hK rfl rfl)⟩
    exact (own_abides q2 (grownBy_putObj' W D _) (fun r e => by cases e; exact ⟨_, hK, rfl⟩)).flatSl rdE_flat (fun b hb => .inr (by omega))
  case stop =>
    rintro D c pre W _ _ h _
    exact h.elim

theorem liveP {s : Str} {A B : Option Addr} {c d : Nat} {S : Nat → Prop} (w : World) (h : Sl rdE S w A c s.l) (k : Sl .bool S w B d s.g) (hg : s.g.length = s.l.length) (hm : s.l.length ≤ 1000) :
    Calls Try.prog 31 #[.agg #[.slice A s.l.length c, .slice B s.g.length d]] w (RdsRes S w (liveF s)) :=
  calls_of_every_depth (L := [31, 57, 70]) (n := 3) fun D =>
    liveP_in (Fence.list [31, 57, 70] (some D)) 3 (by simp [Fence.list]) (by simp [Fence.list]) (by simp [Fence.list]) rfl (Nat.le_refl _) w h k hg hm
end Go.Proofs.Ytlolppjnpmdpgaa
