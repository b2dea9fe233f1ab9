/-
  Texts of this claim, merged: Live2, Rd7, Rd8, Rd9, Rd10. Conditions: as each theorem says.
-/
import Derived.Test.YtpdblgchfkcgpaaV1
import Derived.Test.YtpdblgchfkcgpaaV2
import Derived.Test.YtpdblgchfkcgpaaV3
set_option linter.unusedSimpArgs false
set_option linter.unusedVariables false
namespace Go.Proofs.Ytpdblgchfkcgpaa
open Go.RowKit Go.Shelf

attribute [local go_sem] Oper.semAt_some

theorem own_abides {α : Type} {E : Enc α} {W W' : World} {base : Nat} {e : TypeId} {v : Value} {xs : List α} {row : Option Nat} (h : Own E (fun _ => False) W base e v xs) (hg : W.grownBy W' row) (hr : ∀ r, row = some r → ∃ o : Obj, W.heap[r]? = some o ∧ o.isCells = false) : Own E (fun _ => False) W' base e v xs := by
  obtain ⟨cs, hown, hel⟩ := h
  refine Own.grown ⟨cs, hown, hel⟩ hg ?_ (fun _ _ h => h)
  rcases hown.2 with ⟨rfl, _⟩ | ⟨g, cap, cur, rfl, hb, hgg, _⟩
  · exact .inl rfl
  · refine .inr fun e' => ?_
    obtain ⟨o, ho, hc⟩ := hr g e'.symm
    rw [hgg] at ho; cases ho; cases hc
theorem cells_abide {W W' : World} {g : Nat} {cs : Array Value} {t : TypeId} {row : Option Nat} (h : W.heap[g]? = some (.cells cs t (0, 0))) (hg : W.grownBy W' row) (hr : ∀ r, row = some r → ∃ o : Obj, W.heap[r]? = some o ∧ o.isCells = false) : W'.heap[g]? = some (.cells cs t (0, 0)) := by
  refine (hg.block g (heap_lt h) fun e' => ?_).trans h
  obtain ⟨o, ho, hc⟩ := hr g e'.symm
  rw [h] at ho; cases ho; cases hc

/-- Between two rounds: 'out' lies in box g and owns what has come. -/
def LiveI (w : World) (g N0 : Nat) (pre : List Rd) (W : World) : Prop :=
  ∃ A c, W.heap[g]? = some (.cells #[.slice A pre.length c] 25 (0, 0)) ∧ Own rdE (fun _ => False) W N0 47 (.slice A pre.length c) pre ∧ Below w.heap.size w W ∧ N0 ≤ W.heap.size

set_option maxRecDepth 100000 in
set_option maxHeartbeats 4000000 in
theorem liveP_in (F : Fence) (n : Nat) (h3 : F.fn 18) (h4 : F.fn 44) (h5 : F.fn 60) (hro : F.round = none) (hn : 3 ≤ n) {s : Str} {A B : Option Addr} {c d : Nat} {S : Nat → Prop} (w : World) (h : Sl rdE S w A c s.l) (k : Sl .bool S w B d s.g) (hg : s.g.length = s.l.length) (hm : s.l.length ≤ 1000) :
    CallsIn F n Try.prog 18 #[.agg #[.slice A s.l.length c, .slice B s.g.length d]] w (RdsRes S w (liveF s)) := by
  have h1 : 1 ≤ n := by omega
  obtain ⟨i0, hi, hz0, hz1, hz2⟩ := info_parts (show (Try.prog.info? 47).map (fun i => (i.zero, i.size, i.bytes)) = some (some (.agg #[.int .i64 0, .int .i64 0, .int .i64 0, .int .i64 0]), 4, 32) by kernel_rfl)
  have H := Lib.hid (h.old.sub (T := fun b => b < w.heap.size + 3 ∧ b ≠ w.heap.size + 1) fun b hb _ => ⟨by omega, by omega⟩)
  have K := Lib.hid (k.old.sub (T := fun b => b < w.heap.size + 3 ∧ b ≠ w.heap.size + 1) fun b hb _ => ⟨by omega, by omega⟩)
  have Hg := Lib.hid hg
  clear h k hg
  refine callsIn_of_wp_marks Try.func18 rfl h3 ?_ hro
  simp only [Try.ntmps18, List.size_toArray, List.length_cons, List.length_nil, Nat.reduceAdd, Nat.reduceSub, Array.replicate_succ, Array.replicate_zero, List.push_toArray, List.append_toArray, List.nil_append, List.cons_append]
  gi_wp2_with (gi_at_call 44; refine (live_in F (n - 1) h4 hro _ _ _).mono ?_; rintro e w' ⟨rfl, rfl⟩)
  have hB0 : Below w.heap.size w (((w.alloc (.cells #[.slice A s.l.length c, .slice B s.g.length d] 28)).alloc (.cells #[.slice none 0 0] 25)).alloc (.cells #[.slice A s.l.length c, .slice B s.g.length d] 28)) := (((Below.refl _ w).alloc (Nat.le_refl _) _).alloc (by simp) _).alloc (by simp; omega) _
  have hsz : (((w.alloc (.cells #[.slice A s.l.length c, .slice B s.g.length d] 28)).alloc (.cells #[.slice none 0 0] 25)).alloc (.cells #[.slice A s.l.length c, .slice B s.g.length d] 28)).heap.size = w.heap.size + 3 := by simp
  have hbs : (((w.alloc (.cells #[.slice A s.l.length c, .slice B s.g.length d] 28)).alloc (.cells #[.slice none 0 0] 25)).alloc (.cells #[.slice A s.l.length c, .slice B s.g.length d] 28)).heap[w.heap.size + 1 + 1]? = some (.cells #[.slice A s.l.length c, .slice B s.g.length d] 28 (0, 0)) := heap_alloc_at (by simp)
  have hbo : (((w.alloc (.cells #[.slice A s.l.length c, .slice B s.g.length d] 28)).alloc (.cells #[.slice none 0 0] 25)).alloc (.cells #[.slice A s.l.length c, .slice B s.g.length d] 28)).heap[w.heap.size + 1]? = some (.cells #[.slice none 0 0] 25 (0, 0)) := (Below.heap_alloc _ _ _ (by simp)).trans (heap_alloc_at (by simp))
  have hsl := H.out.keep (Agree.alloc (Agree.alloc (Agree.alloc (Agree.refl _ w) (.cells #[.slice A s.l.length c, .slice B s.g.length d] 28)) (.cells #[.slice none 0 0] 25)) (.cells #[.slice A s.l.length c, .slice B s.g.length d] 28))
  have hsk := K.out.keep (Agree.alloc (Agree.alloc (Agree.alloc (Agree.refl _ w) (.cells #[.slice A s.l.length c, .slice B s.g.length d] 28)) (.cells #[.slice none 0 0] 25)) (.cells #[.slice A s.l.length c, .slice B s.g.length d] 28))
  obtain ⟨W0, hW0⟩ : ∃ W0, (((w.alloc (.cells #[.slice A s.l.length c, .slice B s.g.length d] 28)).alloc (.cells #[.slice none 0 0] 25)).alloc (.cells #[.slice A s.l.length c, .slice B s.g.length d] 28)) = W0 := ⟨_, rfl⟩
  rw [hW0] at hB0 hsz hbs hbo hsl hsk ⊢
  clear hW0
  refine wpIn_rangeFunc_ownH hro h1 (gf := 60) (lb := #[.pointer (some ⟨w.heap.size + 1 + 1, 0, none⟩)]) rfl h5 (enters_of Try.func60 (by kernel_rfl) rfl)
    (live_stops F (n - 1) h5 hro (by omega) (w.heap.size + 1 + 1) (fun b => b < w.heap.size + 3 ∧ b ≠ w.heap.size + 1) (s := s) W0 ⟨by omega, by omega⟩ (by omega) (cell_of_row _ _ 0 _ _ _ hbs) (cell_of_row _ _ 1 _ _ _ hbs) hsl hsk Hg.out hm)
    (fun h1 h2 => Agree.trans h1 h2) (fun W l o o' hl ho _ _ => ⟨by simp, fun b hb _ => World.putObj_heap_other (by omega)⟩) (Below.refl _ _) (fun _ => rfl)
    (LiveI w (w.heap.size + 1) (w.heap.size + 3))
    (fun _ _ _ => False)
    (fun pre X Y row hs hg hr => by
      obtain ⟨A1, c1, q1, q2, q3, q4⟩ := hs
      exact ⟨A1, c1, cells_abide q1 hg (fun r e => (hr r e).2), own_abides q2 hg (fun r e => (hr r e).2), q3.grown hg (by omega) (fun k e => by have := (hr k e).1; omega), Nat.le_trans q4 hg.size⟩)
    (fun _ _ _ _ _ hs _ _ => hs)
    ⟨none, 0, hbo, Own.nil_ _ _ _ _ _, hB0, by omega⟩
    (fun x a' W => ∃ Bx, w.heap.size + 3 ≤ Bx ∧ W.heap[Bx]? = some (.cells #[.int .i64 x.who, .int .i64 x.whn, .int .i64 x.knd, .int .i64 x.val] 47 (0, 0)) ∧ a' = { tmps := #[.agg #[.slice A s.l.length c, .slice B s.g.length d], .pointer (some ⟨w.heap.size, 0, none⟩), .slice none 0 0, .pointer (some ⟨w.heap.size + 1, 0, none⟩), .pointer (some ⟨Bx, 0, none⟩), .agg #[.slice A s.l.length c, .slice B s.g.length d], .func (.func 60) #[] #[.pointer (some ⟨w.heap.size + 1 + 1, 0, none⟩)], .agg #[.int .i64 x.who, .int .i64 x.whn, .int .i64 x.knd, .int .i64 x.val], undef, undef, undef, undef, undef], defers := [] })
    (fun x a' _ X Y row hs hg hr => by obtain ⟨Bx, h1, h2, h3⟩ := hs; exact ⟨Bx, h1, cells_abide h2 hg (fun r e => (hr r e).2), h3⟩)
    ?assign ?body ?done ?stop
  case assign =>
    rintro l pre x W K ⟨A1, c1, q1, q2, q3, q4⟩ hK
    gi_wp2
    exact hK _ _ ((KeepsOthers.alloc _ _).from _) ((Agree.refl _ W).alloc _) ⟨A1, c1, (Below.heap_alloc _ _ _ (heap_lt q1)).trans q1, q2.alloc _, q3.alloc q3.size _, by simp; omega⟩ ⟨W.heap.size, q4, heap_alloc_at rfl, rfl⟩
  case body =>
    rintro l pre x a' W hl ⟨r, hr⟩ ⟨A1, c1, q1, q2, q3, q4⟩ ⟨Bx, hBx, bX, rfl⟩ hlt
    obtain ⟨cs, hown, hel⟩ := q2
    have hc := cell_of_row _ _ 0 _ _ _ q1
    have x0 := cell_of_row _ _ 0 _ _ _ bX
    have x1 := cell_of_row _ _ 1 _ _ _ bX
    have x2 := cell_of_row _ _ 2 _ _ _ bX
    have x3 := cell_of_row _ _ 3 _ _ _ bX
    simp only [List.getElem?_toArray, List.getElem?_cons_zero, List.getElem?_cons_succ] at hc x0 x1 x2 x3
    have lo : ∀ g, (Value.slice A1 pre.length c1).ownBlock = some g → w.heap.size + 3 ≤ g ∧ g < W.heap.size := hown.lt
    have hl8 : pre.length < 1000 := by omega
    gi_wp2_with (gi_at_builtin; go_must ((refine wpListIn_append_own _ rfl _ _ 25 rfl (w.heap.size + 3) 47 i0 (.agg #[.int .i64 0, .int .i64 0, .int .i64 0, .int .i64 0]) 4 32 Try.underlying25 hi hz0 hz1 hz2 rfl (by decide) _ _ _ rfl (hown.alloc _) ⟨W.heap.size, 0, none⟩ 1 1 [.int .i64 x.who, .int .i64 x.whn, .int .i64 x.knd, .int .i64 x.val] rfl rfl (fun j u hu => by rw [Addr.add_lit, cell_of_row _ _ _ _ _ _ (heap_alloc_new W _)]; simpa using hu) (by simp [Value.oneCell']) (by unfold maxLen; omega) (by omega) (by simp; omega) ?_); intro v' w1 hown' hgrow _; obtain ⟨g', cap', rfl⟩ := ownsRow_succ hown'; have hne1 : some (w.heap.size + 1) ≠ (Value.slice A1 pre.length c1).ownBlock := (fun e => absurd (lo _ e.symm).1 (by omega)); have q5 : w1.heap[w.heap.size + 1]? = some (.cells #[.slice A1 pre.length c1] 25 (0, 0)) := (hgrow.block _ (by simp; omega) hne1).trans ((Below.heap_alloc _ _ _ (heap_lt q1)).trans q1); have hc1 := cell_of_row _ _ 0 _ _ _ q5; simp only [List.getElem?_toArray, List.getElem?_cons_zero] at hc1; have hf1 : w1.frozen? ⟨w.heap.size + 1, 0, none⟩ = false := (by simp [World.frozen?, q5])))
    have hz1' := hgrow.size
    simp at hz1'
    refine ⟨?_, ?_, some ⟨g', 0, none⟩, cap', ?_, ?_, ?_, ?_⟩
    · refine (((KeepsOthers.alloc W _).trans (KeepsOthers.of_grownBy hgrow fun j o ej hj => ?_)).trans (KeepsOthers.setCell _ _ _)).from _
      rcases (hown.alloc _).2 with ⟨e, _⟩ | ⟨g, cap, cur, e, _, hgb, _⟩
      · rw [e] at ej; cases ej
      · rw [e] at ej; cases ej; rw [hgb] at hj; cases hj; rfl
    · exact ((((Agree.refl _ W).alloc _).grown hgrow (fun g hg h => by have := (lo g hg).1; omega)).set (by show ¬ (w.heap.size + 1 < w.heap.size + 3 ∧ w.heap.size + 1 ≠ w.heap.size + 1); omega) _)
    · simpa using heap_set (i := 0) (u := .slice (some ⟨g', 0, none⟩) (pre.length + 1) cap') q5
    · have ho : Own rdE (fun _ => False) w1 (w.heap.size + 3) 47 (.slice (some ⟨g', 0, none⟩) (pre ++ [x]).length cap') (pre ++ [x]) := ⟨_, by rw [List.length_append]; exact hown', (hel.flat rdE_flat).snoc rdE_shut⟩
      exact ho.set (fun e => by have := (ho.lt _ e).1; simp at this) (fun h => h) _
    · exact ((q3.alloc q3.size _).grown hgrow (by simp; omega) (fun g hg => by have := (lo g hg).1; omega)).setCell (by simp) _
    · simp [World.setCell]; omega
  case done =>
    rintro D ys W hD rfl ⟨A1, c1, q1, q2, q3, q4⟩ hK
    have hc := cell_of_row _ _ 0 _ _ _ q1
    simp only [List.getElem?_toArray, List.getElem?_cons_zero] at hc
    gi_wp2
    refine ⟨by simp, .inl ⟨_, _, rfl, run_takeDeferred hK, ?_⟩⟩
    refine ⟨_, results_tmp rfl _ _ _, A1, c1, rfl, ?_, q3.trans (belowK_b (w := w) (Nat.le_refl _) W D _ _ (by omega) hK rfl rfl)⟩
    exact (own_abides q2 (grownBy_putObj' W D _) (fun r e => by cases e; exact ⟨_, hK, rfl⟩)).flatSl rdE_flat (fun b hb => .inr (by omega))
  case stop =>
    rintro D c pre W _ _ h _
    exact h.elim

theorem liveP {s : Str} {A B : Option Addr} {c d : Nat} {S : Nat → Prop} (w : World) (h : Sl rdE S w A c s.l) (k : Sl .bool S w B d s.g) (hg : s.g.length = s.l.length) (hm : s.l.length ≤ 1000) :
    Calls Try.prog 18 #[.agg #[.slice A s.l.length c, .slice B s.g.length d]] w (RdsRes S w (liveF s)) :=
  calls_of_every_depth (L := [18, 44, 60]) (n := 3) fun D =>
    liveP_in (Fence.list [18, 44, 60] (some D)) 3 (by simp [Fence.list]) (by simp [Fence.list]) (by simp [Fence.list]) rfl (Nat.le_refl _) w h k hg hm
end Go.Proofs.Ytpdblgchfkcgpaa
namespace Go.Proofs.Ytpdblgchfkcgpaa
open Go.RowKit

set_option maxHeartbeats 2000000 in
theorem sameCols_eq {l : List (List Int)} {A A' : Option Addr} {c c' : Nat} {S T : Nat → Prop} (w : World) (h : Sl Enc.u64.slice S w A c l) (h' : Sl Enc.u64.slice T w A' c' l) :
    Calls Try.prog 20 #[.slice A l.length c, .slice A' l.length c'] w fun e w' => e = .returned (.bool true) ∧ Below w.heap.size w w' := by
  have hm := h.max
  have H := Lib.hid h
  have H' := Lib.hid h'
  clear h h'
  go_enter Try.func20, Try.ntmps20
  go_wp2_with fail
  go_loopw [5] (fun i wr => ∃ j : Nat, j ≤ l.length ∧ i = .int .i64 j ∧ Below w.heap.size w wr) (fun i _ => l.length - (intOf i).toNat)
  case atStart => exact ⟨0, Nat.zero_le _, rfl, Below.refl _ _⟩
  case round =>
    obtain ⟨j, hj, rfl, hb⟩ := hrel
    have B1 := Lib.hid hb
    clear hb
    by_cases hlt : j < l.length
    · obtain ⟨r, hr⟩ : ∃ r, l[j]? = some r := ⟨_, List.getElem?_eq_getElem hlt⟩
      obtain ⟨b2, o2, B2, d2, rfl, -, hb2, x0, h2⟩ := col_at (H.out.keep (Below.agree B1.out)) hr
      obtain ⟨b3, o3, B3, d3, rfl, -, hb3, y0, h3⟩ := col_at (H'.out.keep (Below.agree B1.out)) hr
      have hm2 := h2.max
      have H2 := Lib.hid h2
      have H3 := Lib.hid h3
      have Hr := Lib.hid hr
      have hj0 : (0 : Int) ≤ (j : Int) := by omega
      have hj1 : (j : Int) < (l.length : Int) := by omega
      clear hr h2 h3
      go_wp2_with fail
      go_quiet (fail)
      go_wp2_with fail
      obtain ⟨wo, hwo⟩ : ∃ wo : World, wo = wr := ⟨_, rfl⟩
      subst hwo
      go_loopw [6] (fun i wr => ∃ k : Nat, k ≤ r.length ∧ i = .int .i64 k ∧ Below wo.heap.size wo wr) (fun i _ => r.length - (intOf i).toNat)
      case atStart => exact ⟨0, Nat.zero_le _, rfl, below_drewN (Below.refl _ _) _⟩
      case round =>
        obtain ⟨k, hk, rfl, hb⟩ := hrel
        have hw2 : b2 < wr.heap.size := Nat.lt_of_lt_of_le hb2 hb.size
        have hw3 : b3 < wr.heap.size := Nat.lt_of_lt_of_le hb3 hb.size
        have x1 : wr.cell? ⟨b2, o2 + j, none⟩ = some (.slice B2 r.length d2) := (hb.cell (p := ⟨b2, o2 + j, none⟩) hb2).trans x0
        have y1 : wr.cell? ⟨b3, o3 + j, none⟩ = some (.slice B3 r.length d3) := (hb.cell (p := ⟨b3, o3 + j, none⟩) hb3).trans y0
        have B2' := Lib.hid hb
        clear hb
        by_cases hlk : k < r.length
        · obtain ⟨x, hx⟩ : ∃ x, r[k]? = some x := ⟨_, List.getElem?_eq_getElem hlk⟩
          obtain ⟨b4, o4, rfl, -, hb4, x2⟩ := u64_at (H2.out.keep (Below.agree B2'.out)) hx
          obtain ⟨b5, o5, rfl, -, hb5, y2⟩ := u64_at (H3.out.keep (Below.agree B2'.out)) hx
          have hk0 : (0 : Int) ≤ (k : Int) := by omega
          have hk1 : (k : Int) < (r.length : Int) := by omega
          clear hx x0 y0
          go_wp2_with fail
          go_quiet (fail)
          go_wp2_with fail
          go_roundw
          case rel => exact ⟨k + 1, by omega, by go_num, below_drewN B2'.out _⟩
          case measure => simp [intOf]; omega
        · have hk1 : ¬ (k : Int) < (r.length : Int) := by omega
          clear x0 y0
          go_wp2_with fail
          go_roundw
          case rel => exact ⟨j + 1, by omega, by go_num, B1.out.trans (B2'.out.mono B1.out.size)⟩
          case measure => simp [intOf]; omega
    · have hj1 : ¬ (j : Int) < (l.length : Int) := by omega
      go_wp2_with fail
      go_ret
      exact ⟨rfl, B1.out⟩
end Go.Proofs.Ytpdblgchfkcgpaa
namespace Go.Proofs.Ytpdblgchfkcgpaa
open Go.RowKit

theorem cellLt {w : World} {a : Addr} {u : Value} (h : w.cell? a = some u) : a.block < w.heap.size := by
  rcases Nat.lt_or_ge a.block w.heap.size with h' | h'
  · exact h'
  · unfold World.cell? at h
    rw [Array.getElem?_eq_none h'] at h
    simp at h
theorem u64_small (x : Int) (h0 : 0 ≤ x) (h1 : x < 256) : IntKind.u64.wrap x = x := by
  have h : ∀ y : Fin 256, IntKind.u64.wrap (y.1 : Int) = (y.1 : Int) := by decide +kernel
  have := h ⟨x.toNat, by omega⟩
  simpa [Int.toNat_of_nonneg h0] using this

theorem kept7 {w X X' : World} {p q b o : Nat} {v u x0 x1 x2 x3 : Value} (h : Below w.heap.size w X ∧ X.cell? ⟨p, 0, none⟩ = some v ∧ X.cell? ⟨q, 0, none⟩ = some u ∧ X.cell? ⟨b, o, none⟩ = some x0 ∧ X.cell? ⟨b, o + 1, none⟩ = some x1 ∧ X.cell? ⟨b, o + 2, none⟩ = some x2 ∧ X.cell? ⟨b, o + 3, none⟩ = some x3) (hb : Below X.heap.size X X') :
    Below w.heap.size w X' ∧ X'.cell? ⟨p, 0, none⟩ = some v ∧ X'.cell? ⟨q, 0, none⟩ = some u ∧ X'.cell? ⟨b, o, none⟩ = some x0 ∧ X'.cell? ⟨b, o + 1, none⟩ = some x1 ∧ X'.cell? ⟨b, o + 2, none⟩ = some x2 ∧ X'.cell? ⟨b, o + 3, none⟩ = some x3 := by
  obtain ⟨h0, h1, h2, h3, h4, h5, h6⟩ := h
  have lt : ∀ {a u}, X.cell? a = some u → X'.cell? a = some u := fun {a u} hc => (hb.cell (p := a) (cellLt hc)).trans hc
  exact ⟨h0.trans (hb.mono h0.size), lt h1, lt h2, lt h3, lt h4, lt h5, lt h6⟩

set_option maxHeartbeats 1000000 in
theorem columns1_1 {s : Str} {A : Option Addr} {c i p q : Nat} {S : Nat → Prop} {r : Rd} (w : World) (hp : w.cell? ⟨p, 0, none⟩ = some (.func (.func 48) #[] #[])) (hq : w.cell? ⟨q, 0, none⟩ = some (.slice A s.l.length c)) (h : Sl rdE S w A c s.l) (hr : s.l[i]? = some r) (h0 : 0 ≤ r.who) (h1 : r.who < 256) :
    Calls Try.prog 28 #[.int .i64 i, .pointer (some ⟨p, 0, none⟩), .pointer (some ⟨q, 0, none⟩)] w fun e w' => e = .returned (.int .u64 r.who) ∧ Below w.heap.size w w' := by
  obtain ⟨b2, o2, rfl, -, hb2, x0, x1, x2, x3⟩ := rd_at h hr
  have hlt := (List.getElem?_eq_some_iff.1 hr).1
  have hu := u64_small _ h0 h1
  have hj0 : (0 : Int) ≤ (i : Int) := by omega
  have hj1 : (i : Int) < (s.l.length : Int) := by omega
  have base := And.intro (Below.refl w.heap.size w) (And.intro hp (And.intro hq (And.intro x0 (And.intro x1 (And.intro x2 x3)))))
  have Base := Lib.hid base
  clear hr h base
  go_enter Try.func28, Try.ntmps28
  go_wp2_with fail
  go_region_held3 (fun X => Below w.heap.size w X ∧ X.cell? ⟨p, 0, none⟩ = some (.func (.func 48) #[] #[]) ∧ X.cell? ⟨q, 0, none⟩ = some (.slice (some ⟨b2, o2, none⟩) s.l.length c) ∧ X.cell? ⟨b2, o2 + i * 4, none⟩ = some (.int .i64 r.who) ∧ X.cell? ⟨b2, o2 + i * 4 + 1, none⟩ = some (.int .i64 r.whn) ∧ X.cell? ⟨b2, o2 + i * 4 + 2, none⟩ = some (.int .i64 r.knd) ∧ X.cell? ⟨b2, o2 + i * 4 + 3, none⟩ = some (.int .i64 r.val)) (first | exact Base.out | exact kept7 Base.out (Below.refl _ _).drew | exact kept7 (kept7 Base.out (Below.refl _ _).drew) hb3 | exact kept7 (by assumption) hb3 | exact kept7 (by assumption) (Below.refl _ _).drew)
    (first | (go_at_call 48; refine (field1 r _).mono ?_; rintro e w3 ⟨rfl, hb3⟩))
  all_goals
    go_wp2_with fail
    go_ret
    exact ⟨rfl, (Below.refl _ _).drew.trans hb3⟩
set_option maxHeartbeats 1000000 in
theorem columns1_2 {s : Str} {A : Option Addr} {c i p q : Nat} {S : Nat → Prop} {r : Rd} (w : World) (hp : w.cell? ⟨p, 0, none⟩ = some (.func (.func 49) #[] #[])) (hq : w.cell? ⟨q, 0, none⟩ = some (.slice A s.l.length c)) (h : Sl rdE S w A c s.l) (hr : s.l[i]? = some r) (h0 : 0 ≤ r.whn) (h1 : r.whn < 256) :
    Calls Try.prog 28 #[.int .i64 i, .pointer (some ⟨p, 0, none⟩), .pointer (some ⟨q, 0, none⟩)] w fun e w' => e = .returned (.int .u64 r.whn) ∧ Below w.heap.size w w' := by
  obtain ⟨b2, o2, rfl, -, hb2, x0, x1, x2, x3⟩ := rd_at h hr
  have hlt := (List.getElem?_eq_some_iff.1 hr).1
  have hu := u64_small _ h0 h1
  have hj0 : (0 : Int) ≤ (i : Int) := by omega
  have hj1 : (i : Int) < (s.l.length : Int) := by omega
  have base := And.intro (Below.refl w.heap.size w) (And.intro hp (And.intro hq (And.intro x0 (And.intro x1 (And.intro x2 x3)))))
  have Base := Lib.hid base
  clear hr h base
  go_enter Try.func28, Try.ntmps28
  go_wp2_with fail
  go_region_held3 (fun X => Below w.heap.size w X ∧ X.cell? ⟨p, 0, none⟩ = some (.func (.func 49) #[] #[]) ∧ X.cell? ⟨q, 0, none⟩ = some (.slice (some ⟨b2, o2, none⟩) s.l.length c) ∧ X.cell? ⟨b2, o2 + i * 4, none⟩ = some (.int .i64 r.who) ∧ X.cell? ⟨b2, o2 + i * 4 + 1, none⟩ = some (.int .i64 r.whn) ∧ X.cell? ⟨b2, o2 + i * 4 + 2, none⟩ = some (.int .i64 r.knd) ∧ X.cell? ⟨b2, o2 + i * 4 + 3, none⟩ = some (.int .i64 r.val)) (first | exact Base.out | exact kept7 Base.out (Below.refl _ _).drew | exact kept7 (kept7 Base.out (Below.refl _ _).drew) hb3 | exact kept7 (by assumption) hb3 | exact kept7 (by assumption) (Below.refl _ _).drew)
    (first | (go_at_call 49; refine (field2 r _).mono ?_; rintro e w3 ⟨rfl, hb3⟩))
  all_goals
    go_wp2_with fail
    go_ret
    exact ⟨rfl, (Below.refl _ _).drew.trans hb3⟩
set_option maxHeartbeats 1000000 in
theorem columns1_3 {s : Str} {A : Option Addr} {c i p q : Nat} {S : Nat → Prop} {r : Rd} (w : World) (hp : w.cell? ⟨p, 0, none⟩ = some (.func (.func 50) #[] #[])) (hq : w.cell? ⟨q, 0, none⟩ = some (.slice A s.l.length c)) (h : Sl rdE S w A c s.l) (hr : s.l[i]? = some r) (h0 : 0 ≤ r.knd) (h1 : r.knd < 256) :
    Calls Try.prog 28 #[.int .i64 i, .pointer (some ⟨p, 0, none⟩), .pointer (some ⟨q, 0, none⟩)] w fun e w' => e = .returned (.int .u64 r.knd) ∧ Below w.heap.size w w' := by
  obtain ⟨b2, o2, rfl, -, hb2, x0, x1, x2, x3⟩ := rd_at h hr
  have hlt := (List.getElem?_eq_some_iff.1 hr).1
  have hu := u64_small _ h0 h1
  have hj0 : (0 : Int) ≤ (i : Int) := by omega
  have hj1 : (i : Int) < (s.l.length : Int) := by omega
  have base := And.intro (Below.refl w.heap.size w) (And.intro hp (And.intro hq (And.intro x0 (And.intro x1 (And.intro x2 x3)))))
  have Base := Lib.hid base
  clear hr h base
  go_enter Try.func28, Try.ntmps28
  go_wp2_with fail
  go_region_held3 (fun X => Below w.heap.size w X ∧ X.cell? ⟨p, 0, none⟩ = some (.func (.func 50) #[] #[]) ∧ X.cell? ⟨q, 0, none⟩ = some (.slice (some ⟨b2, o2, none⟩) s.l.length c) ∧ X.cell? ⟨b2, o2 + i * 4, none⟩ = some (.int .i64 r.who) ∧ X.cell? ⟨b2, o2 + i * 4 + 1, none⟩ = some (.int .i64 r.whn) ∧ X.cell? ⟨b2, o2 + i * 4 + 2, none⟩ = some (.int .i64 r.knd) ∧ X.cell? ⟨b2, o2 + i * 4 + 3, none⟩ = some (.int .i64 r.val)) (first | exact Base.out | exact kept7 Base.out (Below.refl _ _).drew | exact kept7 (kept7 Base.out (Below.refl _ _).drew) hb3 | exact kept7 (by assumption) hb3 | exact kept7 (by assumption) (Below.refl _ _).drew)
    (first | (go_at_call 50; refine (field3 r _).mono ?_; rintro e w3 ⟨rfl, hb3⟩))
  all_goals
    go_wp2_with fail
    go_ret
    exact ⟨rfl, (Below.refl _ _).drew.trans hb3⟩
set_option maxHeartbeats 1000000 in
theorem columns1_4 {s : Str} {A : Option Addr} {c i p q : Nat} {S : Nat → Prop} {r : Rd} (w : World) (hp : w.cell? ⟨p, 0, none⟩ = some (.func (.func 51) #[] #[])) (hq : w.cell? ⟨q, 0, none⟩ = some (.slice A s.l.length c)) (h : Sl rdE S w A c s.l) (hr : s.l[i]? = some r) (h0 : 0 ≤ r.val) (h1 : r.val < 256) :
    Calls Try.prog 28 #[.int .i64 i, .pointer (some ⟨p, 0, none⟩), .pointer (some ⟨q, 0, none⟩)] w fun e w' => e = .returned (.int .u64 r.val) ∧ Below w.heap.size w w' := by
  obtain ⟨b2, o2, rfl, -, hb2, x0, x1, x2, x3⟩ := rd_at h hr
  have hlt := (List.getElem?_eq_some_iff.1 hr).1
  have hu := u64_small _ h0 h1
  have hj0 : (0 : Int) ≤ (i : Int) := by omega
  have hj1 : (i : Int) < (s.l.length : Int) := by omega
  have base := And.intro (Below.refl w.heap.size w) (And.intro hp (And.intro hq (And.intro x0 (And.intro x1 (And.intro x2 x3)))))
  have Base := Lib.hid base
  clear hr h base
  go_enter Try.func28, Try.ntmps28
  go_wp2_with fail
  go_region_held3 (fun X => Below w.heap.size w X ∧ X.cell? ⟨p, 0, none⟩ = some (.func (.func 51) #[] #[]) ∧ X.cell? ⟨q, 0, none⟩ = some (.slice (some ⟨b2, o2, none⟩) s.l.length c) ∧ X.cell? ⟨b2, o2 + i * 4, none⟩ = some (.int .i64 r.who) ∧ X.cell? ⟨b2, o2 + i * 4 + 1, none⟩ = some (.int .i64 r.whn) ∧ X.cell? ⟨b2, o2 + i * 4 + 2, none⟩ = some (.int .i64 r.knd) ∧ X.cell? ⟨b2, o2 + i * 4 + 3, none⟩ = some (.int .i64 r.val)) (first | exact Base.out | exact kept7 Base.out (Below.refl _ _).drew | exact kept7 (kept7 Base.out (Below.refl _ _).drew) hb3 | exact kept7 (by assumption) hb3 | exact kept7 (by assumption) (Below.refl _ _).drew)
    (first | (go_at_call 51; refine (field4 r _).mono ?_; rintro e w3 ⟨rfl, hb3⟩))
  all_goals
    go_wp2_with fail
    go_ret
    exact ⟨rfl, (Below.refl _ _).drew.trans hb3⟩
end Go.Proofs.Ytpdblgchfkcgpaa
namespace Go.Proofs.Ytpdblgchfkcgpaa
open Go.RowKit

theorem and_one (x : Int) (h0 : 0 ≤ x) (h1 : x < 256) : bits BinOp.and IntKind.u64 x 1 = x % 2 := by
  have h : ∀ y : Fin 256, bits BinOp.and IntKind.u64 (y.1 : Int) 1 = (y.1 : Int) % 2 := by decide +kernel
  have := h ⟨x.toNat, by omega⟩
  simpa [Int.toNat_of_nonneg h0] using this
theorem bit_word (x : Int) (h0 : 0 ≤ x) (h1 : x < 256) (k : Nat) : bits BinOp.and IntKind.u64 (x / 2 ^ k) 1 = bitF x k := by
  have hp : (0 : Int) < 2 ^ k := Int.pow_pos (by omega)
  exact and_one _ (Int.ediv_nonneg h0 (by omega)) (Int.lt_of_le_of_lt (Int.ediv_le_self _ h0) h1)
theorem kept8 {w X X' : World} {p q t b o : Nat} {v u z x0 x1 x2 x3 : Value} (h : X.cell? ⟨t, 0, none⟩ = some z ∧ Below w.heap.size w X ∧ X.cell? ⟨p, 0, none⟩ = some v ∧ X.cell? ⟨q, 0, none⟩ = some u ∧ X.cell? ⟨b, o, none⟩ = some x0 ∧ X.cell? ⟨b, o + 1, none⟩ = some x1 ∧ X.cell? ⟨b, o + 2, none⟩ = some x2 ∧ X.cell? ⟨b, o + 3, none⟩ = some x3) (hb : Below X.heap.size X X') :
    X'.cell? ⟨t, 0, none⟩ = some z ∧ Below w.heap.size w X' ∧ X'.cell? ⟨p, 0, none⟩ = some v ∧ X'.cell? ⟨q, 0, none⟩ = some u ∧ X'.cell? ⟨b, o, none⟩ = some x0 ∧ X'.cell? ⟨b, o + 1, none⟩ = some x1 ∧ X'.cell? ⟨b, o + 2, none⟩ = some x2 ∧ X'.cell? ⟨b, o + 3, none⟩ = some x3 :=
  ⟨(hb.cell (p := ⟨t, 0, none⟩) (cellLt h.1)).trans h.1, kept7 h.2 hb⟩

set_option maxHeartbeats 1000000 in
theorem columns2 {s : Str} {B : Option Addr} {d i p : Nat} {S : Nat → Prop} {b : Bool} (w : World) (hp : w.cell? ⟨p, 1, none⟩ = some (.slice B s.g.length d)) (h : Sl .bool S w B d s.g) (hr : s.g[i]? = some b) :
    Calls Try.prog 29 #[.int .i64 i, .pointer (some ⟨p, 0, none⟩)] w fun e w' => e = .returned (.int .u64 (if b then 0 else 1)) ∧ Below w.heap.size w w' := by
  obtain ⟨b2, o2, rfl, -, hb2, x0⟩ := bool_at h hr
  have hlt := (List.getElem?_eq_some_iff.1 hr).1
  have hj0 : (0 : Int) ≤ (i : Int) := by omega
  have hj1 : (i : Int) < (s.g.length : Int) := by omega
  clear hr h
  cases b with
  | true =>
    go_enter Try.func29, Try.ntmps29
    go_wp2_with fail
    go_ret
    exact ⟨rfl, Below.refl _ _⟩
  | false =>
    go_enter Try.func29, Try.ntmps29
    go_wp2_with fail
    go_ret
    exact ⟨rfl, Below.refl _ _⟩

set_option maxHeartbeats 1000000 in
theorem bits1_1 {s : Str} {A : Option Addr} {c i p q t k : Nat} {S : Nat → Prop} {r : Rd} (w : World) (hp : w.cell? ⟨p, 0, none⟩ = some (.func (.func 48) #[] #[])) (hq : w.cell? ⟨q, 0, none⟩ = some (.slice A s.l.length c)) (ht : w.cell? ⟨t, 0, none⟩ = some (.int .i64 k)) (h : Sl rdE S w A c s.l) (hr : s.l[i]? = some r) (h0 : 0 ≤ r.who) (h1 : r.who < 256) (hk : k < 8) :
    Calls Try.prog 45 #[.int .i64 i, .pointer (some ⟨p, 0, none⟩), .pointer (some ⟨q, 0, none⟩), .pointer (some ⟨t, 0, none⟩)] w fun e w' => e = .returned (.int .u64 (bitF r.who k)) ∧ Below w.heap.size w w' := by
  obtain ⟨b2, o2, rfl, -, hb2, x0, x1, x2, x3⟩ := rd_at h hr
  have hlt := (List.getElem?_eq_some_iff.1 hr).1
  have hu := u64_small _ h0 h1
  have hj0 : (0 : Int) ≤ (i : Int) := by omega
  have hj1 : (i : Int) < (s.l.length : Int) := by omega
  have hk0 : (0 : Int) ≤ (k : Int) := by omega
  have hk1 : (k : Int) < 8 := by omega
  have base := And.intro ht (And.intro (Below.refl w.heap.size w) (And.intro hp (And.intro hq (And.intro x0 (And.intro x1 (And.intro x2 x3))))))
  have Base := Lib.hid base
  clear hr h base
  go_enter Try.func45, Try.ntmps45
  go_wp2_with fail
  go_region_held3 (fun X => X.cell? ⟨t, 0, none⟩ = some (.int .i64 k) ∧ Below w.heap.size w X ∧ X.cell? ⟨p, 0, none⟩ = some (.func (.func 48) #[] #[]) ∧ X.cell? ⟨q, 0, none⟩ = some (.slice (some ⟨b2, o2, none⟩) s.l.length c) ∧ X.cell? ⟨b2, o2 + i * 4, none⟩ = some (.int .i64 r.who) ∧ X.cell? ⟨b2, o2 + i * 4 + 1, none⟩ = some (.int .i64 r.whn) ∧ X.cell? ⟨b2, o2 + i * 4 + 2, none⟩ = some (.int .i64 r.knd) ∧ X.cell? ⟨b2, o2 + i * 4 + 3, none⟩ = some (.int .i64 r.val)) (first | exact Base.out | exact kept8 Base.out (Below.refl _ _).drew | exact kept8 (kept8 Base.out (Below.refl _ _).drew) hb3 | exact kept8 (by assumption) hb3 | exact kept8 (by assumption) (Below.refl _ _).drew)
    (first | (go_at_call 48; refine (field1 r _).mono ?_; rintro e w3 ⟨rfl, hb3⟩))
  all_goals
    go_wp2_with fail
    go_ret
    exact ⟨ret_int (bit_word _ h0 h1 k), (Below.refl _ _).drew.trans hb3⟩
set_option maxHeartbeats 1000000 in
theorem bits1_2 {s : Str} {A : Option Addr} {c i p q t k : Nat} {S : Nat → Prop} {r : Rd} (w : World) (hp : w.cell? ⟨p, 0, none⟩ = some (.func (.func 49) #[] #[])) (hq : w.cell? ⟨q, 0, none⟩ = some (.slice A s.l.length c)) (ht : w.cell? ⟨t, 0, none⟩ = some (.int .i64 k)) (h : Sl rdE S w A c s.l) (hr : s.l[i]? = some r) (h0 : 0 ≤ r.whn) (h1 : r.whn < 256) (hk : k < 8) :
    Calls Try.prog 45 #[.int .i64 i, .pointer (some ⟨p, 0, none⟩), .pointer (some ⟨q, 0, none⟩), .pointer (some ⟨t, 0, none⟩)] w fun e w' => e = .returned (.int .u64 (bitF r.whn k)) ∧ Below w.heap.size w w' := by
  obtain ⟨b2, o2, rfl, -, hb2, x0, x1, x2, x3⟩ := rd_at h hr
  have hlt := (List.getElem?_eq_some_iff.1 hr).1
  have hu := u64_small _ h0 h1
  have hj0 : (0 : Int) ≤ (i : Int) := by omega
  have hj1 : (i : Int) < (s.l.length : Int) := by omega
  have hk0 : (0 : Int) ≤ (k : Int) := by omega
  have hk1 : (k : Int) < 8 := by omega
  have base := And.intro ht (And.intro (Below.refl w.heap.size w) (And.intro hp (And.intro hq (And.intro x0 (And.intro x1 (And.intro x2 x3))))))
  have Base := Lib.hid base
  clear hr h base
  go_enter Try.func45, Try.ntmps45
  go_wp2_with fail
  go_region_held3 (fun X => X.cell? ⟨t, 0, none⟩ = some (.int .i64 k) ∧ Below w.heap.size w X ∧ X.cell? ⟨p, 0, none⟩ = some (.func (.func 49) #[] #[]) ∧ X.cell? ⟨q, 0, none⟩ = some (.slice (some ⟨b2, o2, none⟩) s.l.length c) ∧ X.cell? ⟨b2, o2 + i * 4, none⟩ = some (.int .i64 r.who) ∧ X.cell? ⟨b2, o2 + i * 4 + 1, none⟩ = some (.int .i64 r.whn) ∧ X.cell? ⟨b2, o2 + i * 4 + 2, none⟩ = some (.int .i64 r.knd) ∧ X.cell? ⟨b2, o2 + i * 4 + 3, none⟩ = some (.int .i64 r.val)) (first | exact Base.out | exact kept8 Base.out (Below.refl _ _).drew | exact kept8 (kept8 Base.out (Below.refl _ _).drew) hb3 | exact kept8 (by assumption) hb3 | exact kept8 (by assumption) (Below.refl _ _).drew)
    (first | (go_at_call 49; refine (field2 r _).mono ?_; rintro e w3 ⟨rfl, hb3⟩))
  all_goals
    go_wp2_with fail
    go_ret
    exact ⟨ret_int (bit_word _ h0 h1 k), (Below.refl _ _).drew.trans hb3⟩
set_option maxHeartbeats 1000000 in
theorem bits1_3 {s : Str} {A : Option Addr} {c i p q t k : Nat} {S : Nat → Prop} {r : Rd} (w : World) (hp : w.cell? ⟨p, 0, none⟩ = some (.func (.func 50) #[] #[])) (hq : w.cell? ⟨q, 0, none⟩ = some (.slice A s.l.length c)) (ht : w.cell? ⟨t, 0, none⟩ = some (.int .i64 k)) (h : Sl rdE S w A c s.l) (hr : s.l[i]? = some r) (h0 : 0 ≤ r.knd) (h1 : r.knd < 256) (hk : k < 8) :
    Calls Try.prog 45 #[.int .i64 i, .pointer (some ⟨p, 0, none⟩), .pointer (some ⟨q, 0, none⟩), .pointer (some ⟨t, 0, none⟩)] w fun e w' => e = .returned (.int .u64 (bitF r.knd k)) ∧ Below w.heap.size w w' := by
  obtain ⟨b2, o2, rfl, -, hb2, x0, x1, x2, x3⟩ := rd_at h hr
  have hlt := (List.getElem?_eq_some_iff.1 hr).1
  have hu := u64_small _ h0 h1
  have hj0 : (0 : Int) ≤ (i : Int) := by omega
  have hj1 : (i : Int) < (s.l.length : Int) := by omega
  have hk0 : (0 : Int) ≤ (k : Int) := by omega
  have hk1 : (k : Int) < 8 := by omega
  have base := And.intro ht (And.intro (Below.refl w.heap.size w) (And.intro hp (And.intro hq (And.intro x0 (And.intro x1 (And.intro x2 x3))))))
  have Base := Lib.hid base
  clear hr h base
  go_enter Try.func45, Try.ntmps45
  go_wp2_with fail
  go_region_held3 (fun X => X.cell? ⟨t, 0, none⟩ = some (.int .i64 k) ∧ Below w.heap.size w X ∧ X.cell? ⟨p, 0, none⟩ = some (.func (.func 50) #[] #[]) ∧ X.cell? ⟨q, 0, none⟩ = some (.slice (some ⟨b2, o2, none⟩) s.l.length c) ∧ X.cell? ⟨b2, o2 + i * 4, none⟩ = some (.int .i64 r.who) ∧ X.cell? ⟨b2, o2 + i * 4 + 1, none⟩ = some (.int .i64 r.whn) ∧ X.cell? ⟨b2, o2 + i * 4 + 2, none⟩ = some (.int .i64 r.knd) ∧ X.cell? ⟨b2, o2 + i * 4 + 3, none⟩ = some (.int .i64 r.val)) (first | exact Base.out | exact kept8 Base.out (Below.refl _ _).drew | exact kept8 (kept8 Base.out (Below.refl _ _).drew) hb3 | exact kept8 (by assumption) hb3 | exact kept8 (by assumption) (Below.refl _ _).drew)
    (first | (go_at_call 50; refine (field3 r _).mono ?_; rintro e w3 ⟨rfl, hb3⟩))
  all_goals
    go_wp2_with fail
    go_ret
    exact ⟨ret_int (bit_word _ h0 h1 k), (Below.refl _ _).drew.trans hb3⟩
set_option maxHeartbeats 1000000 in
theorem bits1_4 {s : Str} {A : Option Addr} {c i p q t k : Nat} {S : Nat → Prop} {r : Rd} (w : World) (hp : w.cell? ⟨p, 0, none⟩ = some (.func (.func 51) #[] #[])) (hq : w.cell? ⟨q, 0, none⟩ = some (.slice A s.l.length c)) (ht : w.cell? ⟨t, 0, none⟩ = some (.int .i64 k)) (h : Sl rdE S w A c s.l) (hr : s.l[i]? = some r) (h0 : 0 ≤ r.val) (h1 : r.val < 256) (hk : k < 8) :
    Calls Try.prog 45 #[.int .i64 i, .pointer (some ⟨p, 0, none⟩), .pointer (some ⟨q, 0, none⟩), .pointer (some ⟨t, 0, none⟩)] w fun e w' => e = .returned (.int .u64 (bitF r.val k)) ∧ Below w.heap.size w w' := by
  obtain ⟨b2, o2, rfl, -, hb2, x0, x1, x2, x3⟩ := rd_at h hr
  have hlt := (List.getElem?_eq_some_iff.1 hr).1
  have hu := u64_small _ h0 h1
  have hj0 : (0 : Int) ≤ (i : Int) := by omega
  have hj1 : (i : Int) < (s.l.length : Int) := by omega
  have hk0 : (0 : Int) ≤ (k : Int) := by omega
  have hk1 : (k : Int) < 8 := by omega
  have base := And.intro ht (And.intro (Below.refl w.heap.size w) (And.intro hp (And.intro hq (And.intro x0 (And.intro x1 (And.intro x2 x3))))))
  have Base := Lib.hid base
  clear hr h base
  go_enter Try.func45, Try.ntmps45
  go_wp2_with fail
  go_region_held3 (fun X => X.cell? ⟨t, 0, none⟩ = some (.int .i64 k) ∧ Below w.heap.size w X ∧ X.cell? ⟨p, 0, none⟩ = some (.func (.func 51) #[] #[]) ∧ X.cell? ⟨q, 0, none⟩ = some (.slice (some ⟨b2, o2, none⟩) s.l.length c) ∧ X.cell? ⟨b2, o2 + i * 4, none⟩ = some (.int .i64 r.who) ∧ X.cell? ⟨b2, o2 + i * 4 + 1, none⟩ = some (.int .i64 r.whn) ∧ X.cell? ⟨b2, o2 + i * 4 + 2, none⟩ = some (.int .i64 r.knd) ∧ X.cell? ⟨b2, o2 + i * 4 + 3, none⟩ = some (.int .i64 r.val)) (first | exact Base.out | exact kept8 Base.out (Below.refl _ _).drew | exact kept8 (kept8 Base.out (Below.refl _ _).drew) hb3 | exact kept8 (by assumption) hb3 | exact kept8 (by assumption) (Below.refl _ _).drew)
    (first | (go_at_call 51; refine (field4 r _).mono ?_; rintro e w3 ⟨rfl, hb3⟩))
  all_goals
    go_wp2_with fail
    go_ret
    exact ⟨ret_int (bit_word _ h0 h1 k), (Below.refl _ _).drew.trans hb3⟩
end Go.Proofs.Ytpdblgchfkcgpaa
namespace Go.Proofs.Ytpdblgchfkcgpaa
open Go.RowKit

theorem u64_cells {S : Nat → Prop} {w : World} : ∀ {l : List Int} {cs : List Value}, Elems .u64 S w cs l → cs = l.map (Value.int .u64)
  | [], _, h => h
  | b :: l, _, ⟨c, d, e, h1, h2⟩ => by
    have h1' : c = [.int .u64 b] := h1
    rw [e, h1', u64_cells h2]; rfl
theorem u64_elems {S : Nat → Prop} {w : World} : ∀ (l : List Int), Elems .u64 S w (l.map (Value.int .u64)) l
  | [] => rfl
  | _ :: l => ⟨[_], _, rfl, rfl, u64_elems l⟩
theorem u64_store {S : Nat → Prop} {w : World} {base n c g k : Nat} {e : TypeId} {l : List Int} (h : Own .u64 S w base e (.slice (some ⟨g, 0, none⟩) n c) l) (u : Int) :
    Own .u64 S (w.setCell ⟨g, k, none⟩ (.int .u64 u)) base e (.slice (some ⟨g, 0, none⟩) n c) (l.set k u) := by
  refine ((h.flat u64_flat (T := fun _ => False)).stored (ys := l.set k u) (fun h => h) (by simp) (fun cs hel => ?_) rfl).flat u64_flat
  rw [u64_cells hel, ← List.map_set]
  exact u64_elems _
theorem u64_cell {S : Nat → Prop} {w : World} {base n c g k : Nat} {e : TypeId} {l : List Int} (h : Own .u64 S w base e (.slice (some ⟨g, 0, none⟩) n c) l) (hk : k < l.length) :
    w.cell? ⟨g, k, none⟩ = some (.int .u64 (l.getD k 0)) := by
  obtain ⟨cs, hr, hc⟩ := h.at_ (k := k) (List.getElem?_eq_getElem hk)
  cases hr
  have h1 := hc 0 _ rfl
  simp only [List.getD_eq_getElem?_getD, List.getElem?_eq_getElem hk, Option.getD_some]
  simpa [Enc.u64] using h1

theorem u64_info : (Try.prog.info? 38).map (fun i => (i.zero, i.size, i.bytes)) = some (some (.int .u64 0), 1, 8) := by kernel_rfl
theorem wpList_make_u64 (w : World) {ops : Array Oper} {rest : List Oper} {o : Oper} {a : Act} {Q : Exit → Act → World → Prop} (hg : o.guard = none) (l c : Operand) (hop : o.op = Op.makeSlice 34 l c)
    {kl kc : IntKind} {n : Nat} (hl : a.eval l = .int kl n) (hc : a.eval c = .int kc n) (hn : n ≤ 1099511627776)
    (H : ∀ w', Own .u64 (fun _ => False) w' w.heap.size 38 (.slice (some ⟨w.heap.size, 0, none⟩) n n) (List.replicate n 0) → w.grownBy w' none → wpList Try.prog ops Q rest (a.put o.dst (.slice (some ⟨w.heap.size, 0, none⟩) n n)) w') :
    wpList Try.prog ops Q (o :: rest) a w := by
  obtain ⟨i, hi, hz, hs, hb⟩ := info_parts u64_info
  have e : (madeCells (Value.int IntKind.u64 0).cells (n * 1)).toList = (List.replicate n (0 : Int)).map (Value.int .u64) := by
    rw [Nat.mul_one, show (Value.int IntKind.u64 0).cells = #[Value.int IntKind.u64 0] from rfl, toList_madeCells_one, List.map_replicate]
  refine wpList_make_full w hg l c _ hop w.heap.size 38 i (.int .u64 0) 1 Try.underlying34 hi hz hs kl kc n n n hl hc rfl rfl (by rw [hb]; omega) (by unfold maxLen; omega) (Nat.le_refl _) ?_
  intro w' h1 h2
  rw [e] at h1
  refine H w' ⟨(List.replicate n (0 : Int)).map (Value.int .u64), ?_, u64_elems _⟩ h2
  rw [List.length_replicate]
  exact h1

/-- The first j places are filled. -/
def fillF (N : Nat) (f : Nat → Int) (j : Nat) : List Int := (List.range j).map f ++ List.replicate (N - j) 0
theorem fillF_len {N : Nat} {f : Nat → Int} {j : Nat} (h : j ≤ N) : (fillF N f j).length = N := by simp [fillF]; omega
theorem fillF_set {N : Nat} {f : Nat → Int} {j : Nat} (h : j < N) : (fillF N f j).set j (f j) = fillF N f (j + 1) := by
  unfold fillF
  rw [List.set_append_right _ _ (by simp), List.range_succ, List.map_append, List.append_assoc]
  congr 1
  simp only [List.length_map, List.length_range, Nat.sub_self, List.map_cons, List.map_nil, List.singleton_append]
  obtain ⟨m, hm⟩ : ∃ m, N - j = m + 1 := ⟨N - j - 1, by omega⟩
  rw [hm, List.replicate_succ, List.set_cons_zero, show N - (j + 1) = m from by omega]

/-- A slice of numbers that the call made. -/
def U64Own (w : World) (l : List Int) (e : Ending) (w' : World) : Prop :=
  ∃ A c, e = .returned (.slice A l.length c) ∧ Own .u64 (fun _ => False) w' w.heap.size 38 (.slice A l.length c) l ∧ Below w.heap.size w w'

set_option maxHeartbeats 1000000 in
theorem column_1 {n N : Nat} {A B : Option Addr} {c m d : Nat} {log : Int} {p0 p1 p2 : Option Addr} {f : Nat → Int} (w : World) (hw : wrap64 (2 ^ log.toNat) = (N : Int)) (h0 : 0 ≤ log) (h1 : log ≤ 16) (hN : N ≤ 65536) (hn : n ≤ N)
    (hf : ∀ (j : Nat) (W : World), j < n → Below w.heap.size w W → Calls Try.prog 28 #[.int .i64 j, .pointer p0, .pointer p1] W fun e W' => e = .returned (.int .u64 (f j)) ∧ Below W.heap.size W W') :
    Calls Try.prog 27 #[.agg #[.slice A n c, .slice B m d], .int .i64 log, .func (.func 28) #[] #[.pointer p0, .pointer p1]] w (U64Own w (fillF N f n)) := by
  have Hf := Lib.hid hf
  clear hf
  go_enter Try.func27, Try.ntmps27
  go_wp2_with (at_make; go_must ((refine wpList_make_u64 _ rfl (.tmp 10) (.tmp 10) rfl (n := N) (by show Value.int IntKind.i64 (wrap64 (2 ^ log.toNat)) = _; rw [hw]) (by show Value.int IntKind.i64 (wrap64 (2 ^ log.toNat)) = _; rw [hw]) (by omega) ?_; intro w1 hown1 hg1; have hb1 : Below w.heap.size (w.alloc (.cells #[.slice A n c, .slice B m d] 28)) w1 := Below.grown (Below.refl _ _) hg1 (by simp) (by rintro k ⟨⟩); have bz1 := hg1.size; simp at bz1; have hc1 := fun o => World.cell?_of_block (a := ⟨w.heap.size, o, none⟩) (hg1.block w.heap.size (by simp) (by rintro ⟨⟩)))))
  go_loopw [15] (fun i wr => ∃ j : Nat, j ≤ n ∧ i = .int .i64 j ∧ Own .u64 (fun _ => False) wr (w.heap.size + 1) 38 (.slice (some ⟨w.heap.size + 1, 0, none⟩) N N) (fillF N f j) ∧ Below w.heap.size w wr ∧ w.heap.size + 1 < wr.heap.size) (fun i _ => n - (intOf i).toNat)
  case atStart =>
    have h : Own .u64 (fun _ => False) w1 (w.alloc (.cells #[.slice A n c, .slice B m d] 28)).heap.size 38 (.slice (some ⟨(w.alloc (.cells #[.slice A n c, .slice B m d] 28)).heap.size, 0, none⟩) N N) (fillF N f 0) := hown1
    have h2 : Own .u64 (fun _ => False) w1 (w.heap.size + 1) 38 (.slice (some ⟨w.heap.size + 1, 0, none⟩) N N) (fillF N f 0) := by simpa using h
    exact ⟨0, Nat.zero_le _, rfl, h2, (((Below.refl _ _).alloc (Nat.le_refl _) _).trans (hb1.mono (by simp))), (h2.lt _ rfl).2⟩
  case round =>
    obtain ⟨j, hj, rfl, ho, hb, hz⟩ := hrel
    have Hb := Lib.hid hb
    have Ho := Lib.hid ho
    clear hb ho
    by_cases hlt : j < n
    · have hj0 : (0 : Int) ≤ (j : Int) := by omega
      have hj1 : (j : Int) < (n : Int) := by omega
      have hj2 : (j : Int) < (N : Int) := by omega
      go_wp2_with (go_at_call 28; refine (Hf.out j _ hlt Hb.out).mono ?_; rintro e w2 ⟨rfl, hb2⟩; have ho2 := Own.call Ho.out hb2; have hx2 := u64_cell ho2 (k := j) (by rw [fillF_len (by omega)]; omega); have hf2 := ho2.frozen j; have Ho2 := Lib.hid ho2; clear ho2)
      go_roundw
      case rel =>
        have hb := Hb.out
        exact ⟨j + 1, by omega, by go_num, by rw [← fillF_set (by omega)]; exact u64_store Ho2.out (f j), (hb.trans (hb2.mono hb.size)).setCell (by simp) _, by have := hb2.size; simp [World.setCell]; omega⟩
      case measure => simp [intOf]; omega
    · have hj1 : ¬ (j : Int) < (n : Int) := by omega
      go_wp2_with fail
      go_ret
      have hjn : j = n := by omega
      subst hjn
      have hl : (fillF N f j).length = N := fillF_len hn
      refine ⟨some ⟨w.heap.size + 1, 0, none⟩, N, (show Ending.returned (.slice (some ⟨w.heap.size + 1, 0, none⟩) N N) = _ by rw [hl]), ?_, Hb.out⟩
      rw [hl]
      exact Ho.out.lower (by omega)
set_option maxHeartbeats 1000000 in
theorem column_2 {n N : Nat} {A B : Option Addr} {c m d : Nat} {log : Int} {p0 p1 p2 : Option Addr} {f : Nat → Int} (w : World) (hw : wrap64 (2 ^ log.toNat) = (N : Int)) (h0 : 0 ≤ log) (h1 : log ≤ 16) (hN : N ≤ 65536) (hn : n ≤ N)
    (hf : ∀ (j : Nat) (W : World), j < n → Below w.heap.size w W → Calls Try.prog 29 #[.int .i64 j, .pointer p0] W fun e W' => e = .returned (.int .u64 (f j)) ∧ Below W.heap.size W W') :
    Calls Try.prog 27 #[.agg #[.slice A n c, .slice B m d], .int .i64 log, .func (.func 29) #[] #[.pointer p0]] w (U64Own w (fillF N f n)) := by
  have Hf := Lib.hid hf
  clear hf
  go_enter Try.func27, Try.ntmps27
  go_wp2_with (at_make; go_must ((refine wpList_make_u64 _ rfl (.tmp 10) (.tmp 10) rfl (n := N) (by show Value.int IntKind.i64 (wrap64 (2 ^ log.toNat)) = _; rw [hw]) (by show Value.int IntKind.i64 (wrap64 (2 ^ log.toNat)) = _; rw [hw]) (by omega) ?_; intro w1 hown1 hg1; have hb1 : Below w.heap.size (w.alloc (.cells #[.slice A n c, .slice B m d] 28)) w1 := Below.grown (Below.refl _ _) hg1 (by simp) (by rintro k ⟨⟩); have bz1 := hg1.size; simp at bz1; have hc1 := fun o => World.cell?_of_block (a := ⟨w.heap.size, o, none⟩) (hg1.block w.heap.size (by simp) (by rintro ⟨⟩)))))
  go_loopw [15] (fun i wr => ∃ j : Nat, j ≤ n ∧ i = .int .i64 j ∧ Own .u64 (fun _ => False) wr (w.heap.size + 1) 38 (.slice (some ⟨w.heap.size + 1, 0, none⟩) N N) (fillF N f j) ∧ Below w.heap.size w wr ∧ w.heap.size + 1 < wr.heap.size) (fun i _ => n - (intOf i).toNat)
  case atStart =>
    have h : Own .u64 (fun _ => False) w1 (w.alloc (.cells #[.slice A n c, .slice B m d] 28)).heap.size 38 (.slice (some ⟨(w.alloc (.cells #[.slice A n c, .slice B m d] 28)).heap.size, 0, none⟩) N N) (fillF N f 0) := hown1
    have h2 : Own .u64 (fun _ => False) w1 (w.heap.size + 1) 38 (.slice (some ⟨w.heap.size + 1, 0, none⟩) N N) (fillF N f 0) := by simpa using h
    exact ⟨0, Nat.zero_le _, rfl, h2, (((Below.refl _ _).alloc (Nat.le_refl _) _).trans (hb1.mono (by simp))), (h2.lt _ rfl).2⟩
  case round =>
    obtain ⟨j, hj, rfl, ho, hb, hz⟩ := hrel
    have Hb := Lib.hid hb
    have Ho := Lib.hid ho
    clear hb ho
    by_cases hlt : j < n
    · have hj0 : (0 : Int) ≤ (j : Int) := by omega
      have hj1 : (j : Int) < (n : Int) := by omega
      have hj2 : (j : Int) < (N : Int) := by omega
      go_wp2_with (go_at_call 29; refine (Hf.out j _ hlt Hb.out).mono ?_; rintro e w2 ⟨rfl, hb2⟩; have ho2 := Own.call Ho.out hb2; have hx2 := u64_cell ho2 (k := j) (by rw [fillF_len (by omega)]; omega); have hf2 := ho2.frozen j; have Ho2 := Lib.hid ho2; clear ho2)
      go_roundw
      case rel =>
        have hb := Hb.out
        exact ⟨j + 1, by omega, by go_num, by rw [← fillF_set (by omega)]; exact u64_store Ho2.out (f j), (hb.trans (hb2.mono hb.size)).setCell (by simp) _, by have := hb2.size; simp [World.setCell]; omega⟩
      case measure => simp [intOf]; omega
    · have hj1 : ¬ (j : Int) < (n : Int) := by omega
      go_wp2_with fail
      go_ret
      have hjn : j = n := by omega
      subst hjn
      have hl : (fillF N f j).length = N := fillF_len hn
      refine ⟨some ⟨w.heap.size + 1, 0, none⟩, N, (show Ending.returned (.slice (some ⟨w.heap.size + 1, 0, none⟩) N N) = _ by rw [hl]), ?_, Hb.out⟩
      rw [hl]
      exact Ho.out.lower (by omega)
set_option maxHeartbeats 1000000 in
theorem column_3 {n N : Nat} {A B : Option Addr} {c m d : Nat} {log : Int} {p0 p1 p2 : Option Addr} {f : Nat → Int} (w : World) (hw : wrap64 (2 ^ log.toNat) = (N : Int)) (h0 : 0 ≤ log) (h1 : log ≤ 16) (hN : N ≤ 65536) (hn : n ≤ N)
    (hf : ∀ (j : Nat) (W : World), j < n → Below w.heap.size w W → Calls Try.prog 45 #[.int .i64 j, .pointer p0, .pointer p1, .pointer p2] W fun e W' => e = .returned (.int .u64 (f j)) ∧ Below W.heap.size W W') :
    Calls Try.prog 27 #[.agg #[.slice A n c, .slice B m d], .int .i64 log, .func (.func 45) #[] #[.pointer p0, .pointer p1, .pointer p2]] w (U64Own w (fillF N f n)) := by
  have Hf := Lib.hid hf
  clear hf
  go_enter Try.func27, Try.ntmps27
  go_wp2_with (at_make; go_must ((refine wpList_make_u64 _ rfl (.tmp 10) (.tmp 10) rfl (n := N) (by show Value.int IntKind.i64 (wrap64 (2 ^ log.toNat)) = _; rw [hw]) (by show Value.int IntKind.i64 (wrap64 (2 ^ log.toNat)) = _; rw [hw]) (by omega) ?_; intro w1 hown1 hg1; have hb1 : Below w.heap.size (w.alloc (.cells #[.slice A n c, .slice B m d] 28)) w1 := Below.grown (Below.refl _ _) hg1 (by simp) (by rintro k ⟨⟩); have bz1 := hg1.size; simp at bz1; have hc1 := fun o => World.cell?_of_block (a := ⟨w.heap.size, o, none⟩) (hg1.block w.heap.size (by simp) (by rintro ⟨⟩)))))
  go_loopw [15] (fun i wr => ∃ j : Nat, j ≤ n ∧ i = .int .i64 j ∧ Own .u64 (fun _ => False) wr (w.heap.size + 1) 38 (.slice (some ⟨w.heap.size + 1, 0, none⟩) N N) (fillF N f j) ∧ Below w.heap.size w wr ∧ w.heap.size + 1 < wr.heap.size) (fun i _ => n - (intOf i).toNat)
  case atStart =>
    have h : Own .u64 (fun _ => False) w1 (w.alloc (.cells #[.slice A n c, .slice B m d] 28)).heap.size 38 (.slice (some ⟨(w.alloc (.cells #[.slice A n c, .slice B m d] 28)).heap.size, 0, none⟩) N N) (fillF N f 0) := hown1
    have h2 : Own .u64 (fun _ => False) w1 (w.heap.size + 1) 38 (.slice (some ⟨w.heap.size + 1, 0, none⟩) N N) (fillF N f 0) := by simpa using h
    exact ⟨0, Nat.zero_le _, rfl, h2, (((Below.refl _ _).alloc (Nat.le_refl _) _).trans (hb1.mono (by simp))), (h2.lt _ rfl).2⟩
  case round =>
    obtain ⟨j, hj, rfl, ho, hb, hz⟩ := hrel
    have Hb := Lib.hid hb
    have Ho := Lib.hid ho
    clear hb ho
    by_cases hlt : j < n
    · have hj0 : (0 : Int) ≤ (j : Int) := by omega
      have hj1 : (j : Int) < (n : Int) := by omega
      have hj2 : (j : Int) < (N : Int) := by omega
      go_wp2_with (go_at_call 45; refine (Hf.out j _ hlt Hb.out).mono ?_; rintro e w2 ⟨rfl, hb2⟩; have ho2 := Own.call Ho.out hb2; have hx2 := u64_cell ho2 (k := j) (by rw [fillF_len (by omega)]; omega); have hf2 := ho2.frozen j; have Ho2 := Lib.hid ho2; clear ho2)
      go_roundw
      case rel =>
        have hb := Hb.out
        exact ⟨j + 1, by omega, by go_num, by rw [← fillF_set (by omega)]; exact u64_store Ho2.out (f j), (hb.trans (hb2.mono hb.size)).setCell (by simp) _, by have := hb2.size; simp [World.setCell]; omega⟩
      case measure => simp [intOf]; omega
    · have hj1 : ¬ (j : Int) < (n : Int) := by omega
      go_wp2_with fail
      go_ret
      have hjn : j = n := by omega
      subst hjn
      have hl : (fillF N f j).length = N := fillF_len hn
      refine ⟨some ⟨w.heap.size + 1, 0, none⟩, N, (show Ending.returned (.slice (some ⟨w.heap.size + 1, 0, none⟩) N N) = _ by rw [hl]), ?_, Hb.out⟩
      rw [hl]
      exact Ho.out.lower (by omega)
end Go.Proofs.Ytpdblgchfkcgpaa
