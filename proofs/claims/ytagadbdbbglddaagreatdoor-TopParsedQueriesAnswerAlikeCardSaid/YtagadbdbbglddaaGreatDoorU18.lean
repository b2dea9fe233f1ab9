/-
  Texts of this claim, merged: Live2, Ev3. Conditions: as each theorem says.
-/
import Derived.Test.YtagadbdbbglddaaGreatDoorU1
import Derived.Test.YtagadbdbbglddaaGreatDoorU2
import Derived.Test.YtagadbdbbglddaaGreatDoorU17
import Derived.Test.YtagadbdbbglddaaGreatDoorU3
import Derived.Test.YtagadbdbbglddaaGreatDoorU4
import Derived.Test.YtagadbdbbglddaaGreatDoorU5
import Derived.Test.YtagadbdbbglddaaGreatDoorU6
import Derived.Test.YtagadbdbbglddaaGreatDoorU7
import Derived.Test.YtagadbdbbglddaaGreatDoorU8
import Derived.Test.YtagadbdbbglddaaGreatDoorU9
import Derived.Test.YtagadbdbbglddaaGreatDoorU10
import Derived.Test.YtagadbdbbglddaaGreatDoorU11
import Derived.Test.YtagadbdbbglddaaGreatDoorU12
import Derived.Test.YtagadbdbbglddaaGreatDoorU13
import Derived.Test.YtagadbdbbglddaaGreatDoorU14
import Derived.Test.YtagadbdbbglddaaGreatDoorU15
import Derived.Test.YtagadbdbbglddaaGreatDoorU16
set_option linter.unusedSimpArgs false
set_option linter.unusedVariables false
namespace Go.Proofs.YtagadbdbbglddaaGreatDoor
open Go.RowKit Go.Shelf

attribute [local go_sem] Oper.semAt_some

theorem own_abides {α : Type} {E : Enc α} {W W' : World} {base : Nat} {e : TypeId} {v : Value} {xs : List α} {row : Option Nat} (h : Own E (fun _ => False) W base e v xs) (hg : W.grownBy W' row) (hr : ∀ r, row = some r → ∃ o : Obj, W.heap[r]? = some o ∧ o.isCells = false) : Own E (fun _ => False) W' base e v xs := by
  obtain ⟨cs, hown, hel⟩ := h
  refine Own.grown ⟨cs, hown, hel⟩ hg ?_ (fun _ _ h => h)
  rcases hown.2 with ⟨rfl, _⟩ | ⟨g, cap, cur, rfl, hb, hgg, _⟩
  · exact .inl rfl
  · refine .inr fun e' => ?_
    obtain ⟨o, ho, hc⟩ := hr g e'.symm
    rw [hgg] at ho; cases ho; cases hc
theorem cells_abide {W W' : World} {g : Nat} {cs : Array Value} {t : TypeId} {row : Option Nat} (h : W.heap[g]? = some (.cells cs t (0, 0))) (hg : W.grownBy W' row) (hr : ∀ r, row = some r → ∃ o : Obj, W.heap[r]? = some o ∧ o.isCells = false) : W'.heap[g]? = some (.cells cs t (0, 0)) := by
  refine (hg.block g (heap_lt h) fun e' => ?_).trans h
  obtain ⟨o, ho, hc⟩ := hr g e'.symm
  rw [h] at ho; cases ho; cases hc

/-- Between two rounds: 'out' lies in box g and owns what has come. -/
def LiveI (w : World) (g N0 : Nat) (pre : List Rd) (W : World) : Prop :=
  ∃ A c, W.heap[g]? = some (.cells #[.slice A pre.length c] 28 (0, 0)) ∧ Own rdE (fun _ => False) W N0 46 (.slice A pre.length c) pre ∧ Below w.heap.size w W ∧ N0 ≤ W.heap.size

set_option maxRecDepth 100000 in
set_option maxHeartbeats 4000000 in
theorem liveP_in (F : Fence) (n : Nat) (h3 : F.fn 26) (h4 : F.fn 65) (h5 : F.fn 95) (hro : F.round = none) (hn : 3 ≤ n) {s : Str} {A B : Option Addr} {c d : Nat} {S : Nat → Prop} (w : World) (h : Sl rdE S w A c s.l) (k : Sl .bool S w B d s.g) (hg : s.g.length = s.l.length) (hm : s.l.length ≤ 1000) :
    CallsIn F n Tryz.prog 26 #[.agg #[.slice A s.l.length c, .slice B s.g.length d]] w (RdsRes S w (liveF s)) := by
  have h1 : 1 ≤ n := by omega
  obtain ⟨i0, hi, hz0, hz1, hz2⟩ := info_parts (show (Tryz.prog.info? 46).map (fun i => (i.zero, i.size, i.bytes)) = some (some (.agg #[.int .i64 0, .int .i64 0, .int .i64 0, .int .i64 0]), 4, 32) by kernel_rfl)
  have H := Lib.hid (h.old.sub (T := fun b => b < w.heap.size + 3 ∧ b ≠ w.heap.size + 1) fun b hb _ => ⟨by omega, by omega⟩)
  have K := Lib.hid (k.old.sub (T := fun b => b < w.heap.size + 3 ∧ b ≠ w.heap.size + 1) fun b hb _ => ⟨by omega, by omega⟩)
  have Hg := Lib.hid hg
  clear h k hg
  refine callsIn_of_wp_marks Tryz.func26 rfl h3 ?_ hro
  simp only [Tryz.ntmps26, List.size_toArray, List.length_cons, List.length_nil, Nat.reduceAdd, Nat.reduceSub, Array.replicate_succ, Array.replicate_zero, List.push_toArray, List.append_toArray, List.nil_append, List.cons_append]
  gi_wp2_with (gi_at_call 65; refine (live_in F (n - 1) h4 hro _ _ _).mono ?_; rintro e w' ⟨rfl, rfl⟩)
  have hB0 : Below w.heap.size w (((w.alloc (.cells #[.slice A s.l.length c, .slice B s.g.length d] 31)).alloc (.cells #[.slice none 0 0] 28)).alloc (.cells #[.slice A s.l.length c, .slice B s.g.length d] 31)) := (((Below.refl _ w).alloc (Nat.le_refl _) _).alloc (by simp) _).alloc (by simp; omega) _
  have hsz : (((w.alloc (.cells #[.slice A s.l.length c, .slice B s.g.length d] 31)).alloc (.cells #[.slice none 0 0] 28)).alloc (.cells #[.slice A s.l.length c, .slice B s.g.length d] 31)).heap.size = w.heap.size + 3 := by simp
  have hbs : (((w.alloc (.cells #[.slice A s.l.length c, .slice B s.g.length d] 31)).alloc (.cells #[.slice none 0 0] 28)).alloc (.cells #[.slice A s.l.length c, .slice B s.g.length d] 31)).heap[w.heap.size + 1 + 1]? = some (.cells #[.slice A s.l.length c, .slice B s.g.length d] 31 (0, 0)) := heap_alloc_at (by simp)
  have hbo : (((w.alloc (.cells #[.slice A s.l.length c, .slice B s.g.length d] 31)).alloc (.cells #[.slice none 0 0] 28)).alloc (.cells #[.slice A s.l.length c, .slice B s.g.length d] 31)).heap[w.heap.size + 1]? = some (.cells #[.slice none 0 0] 28 (0, 0)) := (Below.heap_alloc _ _ _ (by simp)).trans (heap_alloc_at (by simp))
  have hsl := H.out.keep (Agree.alloc (Agree.alloc (Agree.alloc (Agree.refl _ w) (.cells #[.slice A s.l.length c, .slice B s.g.length d] 31)) (.cells #[.slice none 0 0] 28)) (.cells #[.slice A s.l.length c, .slice B s.g.length d] 31))
  have hsk := K.out.keep (Agree.alloc (Agree.alloc (Agree.alloc (Agree.refl _ w) (.cells #[.slice A s.l.length c, .slice B s.g.length d] 31)) (.cells #[.slice none 0 0] 28)) (.cells #[.slice A s.l.length c, .slice B s.g.length d] 31))
  obtain ⟨W0, hW0⟩ : ∃ W0, (((w.alloc (.cells #[.slice A s.l.length c, .slice B s.g.length d] 31)).alloc (.cells #[.slice none 0 0] 28)).alloc (.cells #[.slice A s.l.length c, .slice B s.g.length d] 31)) = W0 := ⟨_, rfl⟩
  rw [hW0] at hB0 hsz hbs hbo hsl hsk ⊢
  clear hW0
  refine wpIn_rangeFunc_ownH hro h1 (gf := 95) (lb := #[.pointer (some ⟨w.heap.size + 1 + 1, 0, none⟩)]) rfl h5 (enters_of Tryz.func95 (by kernel_rfl) rfl)
    (live_stops F (n - 1) h5 hro (by omega) (w.heap.size + 1 + 1) (fun b => b < w.heap.size + 3 ∧ b ≠ w.heap.size + 1) (s := s) W0 ⟨by omega, by omega⟩ (by omega) (cell_of_row _ _ 0 _ _ _ hbs) (cell_of_row _ _ 1 _ _ _ hbs) hsl hsk Hg.out hm)
    (fun h1 h2 => Agree.trans h1 h2) (fun W l o o' hl ho _ _ => ⟨by simp, fun b hb _ => World.putObj_heap_other (by omega)⟩) (Below.refl _ _) (fun _ => rfl)
    (LiveI w (w.heap.size + 1) (w.heap.size + 3))
    (fun _ _ _ => False)
    (fun pre X Y row hs hg hr => by
      obtain ⟨A1, c1, q1, q2, q3, q4⟩ := hs
      exact ⟨A1, c1, cells_abide q1 hg (fun r e => (hr r e).2), own_abides q2 hg (fun r e => (hr r e).2), q3.grown hg (by omega) (fun k e => by have := (hr k e).1; omega), Nat.le_trans q4 hg.size⟩)
    (fun _ _ _ _ _ hs _ _ => hs)
    ⟨none, 0, hbo, Own.nil_ _ _ _ _ _, hB0, by omega⟩
    (fun x a' W => ∃ Bx, w.heap.size + 3 ≤ Bx ∧ W.heap[Bx]? = some (.cells #[.int .i64 x.who, .int .i64 x.whn, .int .i64 x.knd, .int .i64 x.val] 46 (0, 0)) ∧ a' = { tmps := #[.agg #[.slice A s.l.length c, .slice B s.g.length d], .pointer (some ⟨w.heap.size, 0, none⟩), .slice none 0 0, .pointer (some ⟨w.heap.size + 1, 0, none⟩), .pointer (some ⟨Bx, 0, none⟩), .agg #[.slice A s.l.length c, .slice B s.g.length d], .func (.func 95) #[] #[.pointer (some ⟨w.heap.size + 1 + 1, 0, none⟩)], .agg #[.int .i64 x.who, .int .i64 x.whn, .int .i64 x.knd, .int .i64 x.val], undef, undef, undef, undef, undef], defers := [] })
    (fun x a' _ X Y row hs hg hr => by obtain ⟨Bx, h1, h2, h3⟩ := hs; exact ⟨Bx, h1, cells_abide h2 hg (fun r e => (hr r e).2), h3⟩)
    ?assign ?body ?done ?stop
  case assign =>
    rintro l pre x W K ⟨A1, c1, q1, q2, q3, q4⟩ hK
    gi_wp2
    exact hK _ _ ((KeepsOthers.alloc _ _).from _) ((Agree.refl _ W).alloc _) ⟨A1, c1, (Below.heap_alloc _ _ _ (heap_lt q1)).trans q1, q2.alloc _, q3.alloc q3.size _, by simp; omega⟩ ⟨W.heap.size, q4, heap_alloc_at rfl, rfl⟩
  case body =>
    rintro l pre x a' W hl ⟨r, hr⟩ ⟨A1, c1, q1, q2, q3, q4⟩ ⟨Bx, hBx, bX, rfl⟩ hlt
    obtain ⟨cs, hown, hel⟩ := q2
    have hc := cell_of_row _ _ 0 _ _ _ q1
    have x0 := cell_of_row _ _ 0 _ _ _ bX
    have x1 := cell_of_row _ _ 1 _ _ _ bX
    have x2 := cell_of_row _ _ 2 _ _ _ bX
    have x3 := cell_of_row _ _ 3 _ _ _ bX
    simp only [List.getElem?_toArray, List.getElem?_cons_zero, List.getElem?_cons_succ] at hc x0 x1 x2 x3
    have lo : ∀ g, (Value.slice A1 pre.length c1).ownBlock = some g → w.heap.size + 3 ≤ g ∧ g < W.heap.size := hown.lt
    have hl8 : pre.length < 1000 := by omega
    gi_wp2_with (gi_at_builtin; go_must ((refine wpListIn_append_own _ rfl _ _ 28 rfl (w.heap.size + 3) 46 i0 (.agg #[.int .i64 0, .int .i64 0, .int .i64 0, .int .i64 0]) 4 32 Tryz.underlying28 hi hz0 hz1 hz2 rfl (by decide) _ _ _ rfl (hown.alloc _) ⟨W.heap.size, 0, none⟩ 1 1 [.int .i64 x.who, .int .i64 x.whn, .int .i64 x.knd, .int .i64 x.val] rfl rfl (fun j u hu => by rw [Addr.add_lit, cell_of_row _ _ _ _ _ _ (heap_alloc_new W _)]; simpa using hu) (by simp [Value.oneCell']) (by unfold maxLen; omega) (by omega) (by simp; omega) ?_); intro v' w1 hown' hgrow _; obtain ⟨g', cap', rfl⟩ := ownsRow_succ hown'; have hne1 : some (w.heap.size + 1) ≠ (Value.slice A1 pre.length c1).ownBlock := (fun e => absurd (lo _ e.symm).1 (by omega)); have q5 : w1.heap[w.heap.size + 1]? = some (.cells #[.slice A1 pre.length c1] 28 (0, 0)) := (hgrow.block _ (by simp; omega) hne1).trans ((Below.heap_alloc _ _ _ (heap_lt q1)).trans q1); have hc1 := cell_of_row _ _ 0 _ _ _ q5; simp only [List.getElem?_toArray, List.getElem?_cons_zero] at hc1; have hf1 : w1.frozen? ⟨w.heap.size + 1, 0, none⟩ = false := (by simp [World.frozen?, q5])))
    have hz1' := hgrow.size
    simp at hz1'
    refine ⟨?_, ?_, some ⟨g', 0, none⟩, cap', ?_, ?_, ?_, ?_⟩
    · refine (((KeepsOthers.alloc W _).trans (KeepsOthers.of_grownBy hgrow fun j o ej hj => ?_)).trans (KeepsOthers.setCell _ _ _)).from _
      rcases (hown.alloc _).2 with ⟨e, _⟩ | ⟨g, cap, cur, e, _, hgb, _⟩
      · rw [e] at ej; cases ej
      · rw [e] at ej; cases ej; rw [hgb] at hj; cases hj; rfl
    · exact ((((Agree.refl _ W).alloc _).grown hgrow (fun g hg h => by have := (lo g hg).1; omega)).set (by show ¬ (w.heap.size + 1 < w.heap.size + 3 ∧ w.heap.size + 1 ≠ w.heap.size + 1); omega) _)
    · simpa using heap_set (i := 0) (u := .slice (some ⟨g', 0, none⟩) (pre.length + 1) cap') q5
    · have ho : Own rdE (fun _ => False) w1 (w.heap.size + 3) 46 (.slice (some ⟨g', 0, none⟩) (pre ++ [x]).length cap') (pre ++ [x]) := ⟨_, by rw [List.length_append]; exact hown', (hel.flat rdE_flat).snoc rdE_shut⟩
      exact ho.set (fun e => by have := (ho.lt _ e).1; simp at this) (fun h => h) _
    · exact ((q3.alloc q3.size _).grown hgrow (by simp; omega) (fun g hg => by have := (lo g hg).1; omega)).setCell (by simp) _
    · simp [World.setCell]; omega
  case done =>
    rintro D ys W hD rfl ⟨A1, c1, q1, q2, q3, q4⟩ hK
    have hc := cell_of_row _ _ 0 _ _ _ q1
    simp only [List.getElem?_toArray, List.getElem?_cons_zero] at hc
    gi_wp2
    refine ⟨by simp, .inl ⟨_, _, rfl, run_takeDeferred hK, ?_⟩⟩
    refine ⟨_, results_tmp rfl _ _ _, A1, c1, rfl, ?_, q3.trans (belowK_b (w := w) (Nat.le_refl _) W D _ _ (by omega) hK rfl rfl)⟩
    exact (own_abides q2 (grownBy_putObj' W D _) (fun r e => by cases e; exact ⟨_, hK, rfl⟩)).flatSl rdE_flat (fun b hb => .inr (by omega))
  case stop =>
    rintro D c pre W _ _ h _
    exact h.elim

theorem liveP {s : Str} {A B : Option Addr} {c d : Nat} {S : Nat → Prop} (w : World) (h : Sl rdE S w A c s.l) (k : Sl .bool S w B d s.g) (hg : s.g.length = s.l.length) (hm : s.l.length ≤ 1000) :
    Calls Tryz.prog 26 #[.agg #[.slice A s.l.length c, .slice B s.g.length d]] w (RdsRes S w (liveF s)) :=
  calls_of_every_depth (L := [26, 65, 95]) (n := 3) fun D =>
    liveP_in (Fence.list [26, 65, 95] (some D)) 3 (by simp [Fence.list]) (by simp [Fence.list]) (by simp [Fence.list]) rfl (Nat.le_refl _) w h k hg hm
end Go.Proofs.YtagadbdbbglddaaGreatDoor
namespace Go.Proofs.YtagadbdbbglddaaGreatDoor
open Go.RowKit

theorem i64_info : (Tryz.prog.info? 2).map (fun i => (i.zero, i.size, i.bytes)) = some (some (.int .i64 0), 1, 8) := by kernel_rfl
theorem wpList_make_i64 (w : World) {ops : Array Oper} {rest : List Oper} {o : Oper} {a : Act} {Q : Exit → Act → World → Prop} (hg : o.guard = none) (l c : Operand) (hop : o.op = Op.makeSlice 33 l c)
    {kl kc : IntKind} {n : Nat} (hl : a.eval l = .int kl n) (hc : a.eval c = .int kc n) (hn : n ≤ 1099511627776)
    (H : ∀ w', Own .i64 (fun _ => False) w' w.heap.size 2 (.slice (some ⟨w.heap.size, 0, none⟩) n n) (List.replicate n 0) → w.grownBy w' none → wpList Tryz.prog ops Q rest (a.put o.dst (.slice (some ⟨w.heap.size, 0, none⟩) n n)) w') :
    wpList Tryz.prog ops Q (o :: rest) a w := by
  obtain ⟨i, hi, hz, hs, hb⟩ := info_parts i64_info
  have e : (madeCells (Value.int IntKind.i64 0).cells (n * 1)).toList = (List.replicate n (0 : Int)).map (Value.int .i64) := by
    rw [Nat.mul_one, show (Value.int IntKind.i64 0).cells = #[Value.int IntKind.i64 0] from rfl, toList_madeCells_one, List.map_replicate]
  refine wpList_make_full w hg l c _ hop w.heap.size 2 i (.int .i64 0) 1 Tryz.underlying33 hi hz hs kl kc n n n hl hc rfl rfl (by rw [hb]; omega) (by unfold maxLen; omega) (Nat.le_refl _) ?_
  intro w' h1 h2
  rw [e] at h1
  refine H w' ⟨(List.replicate n (0 : Int)).map (Value.int .i64), ?_, i64_elems _⟩ h2
  rw [List.length_replicate]
  exact h1
/-- The function that adds. -/
def addV (kd : Int) (g : Nat) : Value :=
  if kd = 1 then .func (.func 58) #[] #[.pointer (some ⟨g + 1 + 1, 0, none⟩)]
  else if kd = 2 then .func (.func 59) #[] #[.pointer (some ⟨g + 1 + 1, 0, none⟩), .pointer (some ⟨g, 0, none⟩)]
  else if kd = 3 then .func (.func 61) #[] #[.pointer (some ⟨g + 1 + 1, 0, none⟩), .pointer (some ⟨g, 0, none⟩)]
  else if kd = 7 then .func (.func 63) #[] #[.pointer (some ⟨g + 1 + 1, 0, none⟩), .pointer (some ⟨g + 1, 0, none⟩)]
  else .func (.func 64) #[] #[.pointer (some ⟨g + 1 + 1, 0, none⟩), .pointer (some ⟨g, 0, none⟩)]
/-- The three boxes of an adding function. -/
structure AddB (g : Nat) (q : Qy) (A : Option Addr) (cc i k n : Nat) (w : World) : Prop where
  bq : w.heap[g]? = some (.cells #[.int .i64 q.kind, .int .i64 q.col, .int .i64 q.k, .slice A q.fs.length cc] 24 (0, 0))
  bi : w.heap[g + 1]? = some (.cells #[.int .i64 i] 3 (0, 0))
  bs : w.heap[g + 1 + 1]? = some (.cells #[(.slice (some ⟨k, 0, none⟩) n n)] 33 (0, 0))
theorem AddB.gk {g : Nat} {q : Qy} {A : Option Addr} {cc i k n j : Nat} {w w' : World} (h : AddB g q A cc i k n w) (hg : Gk j w w') (hj : j < g) : AddB g q A cc i k n w' :=
  ⟨hg.row h.bq (by omega), hg.row h.bi (by omega), hg.row h.bs (by omega)⟩
theorem contributionE {q : Qy} {A : Option Addr} {cc i k n : Nat} (w : World) (h1 : 1 ≤ q.kind) (h7 : q.kind ≤ 7) : Calls Tryz.prog 25 #[(.agg #[.int .i64 q.kind, .int .i64 q.col, .int .i64 q.k, .slice A q.fs.length cc]), .int .i64 i, (.slice (some ⟨k, 0, none⟩) n n)] w fun e w' => e = .returned (addV q.kind w.heap.size) ∧ AddB w.heap.size q A cc i k n w' ∧ Below w.heap.size w w' := by
  obtain ⟨kd, col, kk, fs⟩ := q
  dsimp only at h1 h7 ⊢
  rcases (by omega : kd = 1 ∨ kd = 2 ∨ kd = 3 ∨ kd = 4 ∨ kd = 5 ∨ kd = 6 ∨ kd = 7) with rfl | rfl | rfl | rfl | rfl | rfl | rfl
  all_goals
    clear h1 h7
    go_enter Tryz.func25, Tryz.ntmps25
    go_wp2_with fail
    go_ret
    exact ⟨rfl, ⟨(Below.heap_alloc _ _ _ (by simp; omega)).trans ((Below.heap_alloc _ _ _ (by simp)).trans (heap_alloc_at rfl)), (Below.heap_alloc _ _ _ (by simp)).trans (heap_alloc_at (by simp)), heap_alloc_at (by simp)⟩, (by repeat' (first | with_reducible exact Below.refl _ _ | with_reducible assumption | with_reducible refine Below.setCell ?_ ?_ _ | with_reducible refine Below.drew ?_ | with_reducible refine below_drewN ?_ _ | with_reducible refine Below.alloc ?_ ?_ _ | (rintro _ ⟨⟩; simp <;> omega) | omega | (simp <;> omega)))⟩
theorem addE_1 {q : Qy} {i : Nat} {xs : List Int} {r : Rd} (h : q.kind = 1) : addE q i xs r = xs.set 0 (xs.getD 0 0 + 1) := by
  have e1 : idxE q i r = 0 := by unfold idxE; rw [if_pos (by omega)]
  have e2 : incE q r = 1 := by unfold incE; rw [if_pos h]
  unfold addE; rw [e1, e2]
theorem addE_2 {q : Qy} {i : Nat} {xs : List Int} {r : Rd} (h : q.kind = 2) : addE q i xs r = xs.set 0 (xs.getD 0 0 + fldI r q.col) := by
  have e1 : idxE q i r = 0 := by unfold idxE; rw [if_pos (by omega)]
  have e2 : incE q r = fldI r q.col := by unfold incE; simp [h]
  unfold addE; rw [e1, e2]
theorem addE_3 {q : Qy} {i : Nat} {xs : List Int} {r : Rd} (h : q.kind = 3) : addE q i xs r = xs.set 0 (xs.getD 0 0 + fldI r q.col ^ q.k.toNat) := by
  have e1 : idxE q i r = 0 := by unfold idxE; rw [if_pos (by omega)]
  have e2 : incE q r = fldI r q.col ^ q.k.toNat := by unfold incE; simp [h]
  unfold addE; rw [e1, e2]
theorem addE_7 {q : Qy} {i j : Nat} {xs : List Int} {r : Rd} (h : q.kind = 7) (hr : 0 ≤ r.who) (hj : (16 : Int) * i + r.who = j) : addE q i xs r = xs.set j (xs.getD j 0 + 1) := by
  have e1 : idxE q i r = j := by unfold idxE; rw [if_neg (by omega), if_pos h]; omega
  have e2 : incE q r = 1 := by unfold incE; simp [h]
  unfold addE; rw [e1, e2]
theorem addE_5 {q : Qy} {i j : Nat} {xs : List Int} {r : Rd} (h4 : 4 ≤ q.kind) (h6 : q.kind ≤ 6) (hj : fldI r q.col = j) : addE q i xs r = xs.set j (xs.getD j 0 + 1) := by
  have e1 : idxE q i r = j := by unfold idxE; rw [if_neg (show ¬ q.kind ≤ 3 by omega), if_neg (show ¬ q.kind = 7 by omega)]; omega
  have e2 : incE q r = 1 := by unfold incE; rw [if_neg (show ¬ q.kind = 1 by omega), if_neg (show ¬ q.kind = 2 by omega), if_neg (show ¬ q.kind = 3 by omega)]
  unfold addE; rw [e1, e2]
def IntsRes (w : World) (xs : List Int) (e : Ending) (w' : World) : Prop :=
  ∃ A c, e = .returned (.slice A xs.length c) ∧ Own .i64 (fun _ => False) w' w.heap.size 2 (.slice A xs.length c) xs ∧ Below w.heap.size w w'
/-- What stands between the rounds over the filters. -/
structure EvS (w : World) (q : Qy) (A : Option Addr) (cc : Nat) (L : Option Addr) (cl ln : Nat) (G : Option Addr) (cg gn : Nat) (k n : Nat) (xs : List Int) (wr : World) : Prop where
  own : Own .i64 (fun _ => False) wr (w.heap.size + 2) 2 (.slice (some ⟨k, 0, none⟩) n n) xs
  bq : wr.heap[w.heap.size]? = some (.cells #[.int .i64 q.kind, .int .i64 q.col, .int .i64 q.k, .slice A q.fs.length cc] 24 (0, 0))
  bs : wr.heap[w.heap.size + 1]? = some (.cells #[.slice L ln cl, .slice G gn cg] 31 (0, 0))
  bel : Below w.heap.size w wr
  hk : w.heap.size + 2 ≤ k
set_option maxRecDepth 100000 in
set_option maxHeartbeats 4000000 in
theorem sumsE {q : Qy} {s : Str} {A L G : Option Addr} {cc cl cg : Nat} {S T U : Nat → Prop} (w : World) (hq : ValidQ q) (hw : wideB q = false) (ok : OkStr s) (hl : s.l.length ≤ 1000)
    (h : Sl cdE.slice S w A cc q.fs) (hL : Sl rdE T w L cl s.l) (hG : Sl .bool U w G cg s.g) :
    Calls Tryz.prog 9 #[(.agg #[.int .i64 q.kind, .int .i64 q.col, .int .i64 q.k, .slice A q.fs.length cc]), .agg #[.slice L s.l.length cl, .slice G s.g.length cg]] w (IntsRes w (sumsF q (liveF s))) := by
  have HQ := Lib.hid hq
  have HW := Lib.hid hw
  have OK := Lib.hid ok
  have H := Lib.hid (h.sub (T := fun b => b < w.heap.size) (fun _ _ hl => hl))
  have HL := Lib.hid (hL.sub (T := fun b => b < w.heap.size) (fun _ _ hl => hl))
  have HG := Lib.hid (hG.sub (T := fun b => b < w.heap.size) (fun _ _ hl => hl))
  have hfm := h.max
  obtain ⟨n, hn⟩ : ∃ n, nSums q = n := ⟨_, rfl⟩
  have hn2 := nSums_le hq
  rw [hn] at hn2
  have hpos : 0 < n := by
    have hs := hq.head.1
    have h1 : q.kind ≤ 3 ∨ (¬ q.kind ≤ 3 ∧ q.kind ≤ 6) ∨ q.kind = 7 := by omega
    rcases h1 with h1 | ⟨h1, h2⟩ | h1
    · rw [← hn, nSums_1 hq h1]; decide
    · rw [← hn, nSums_16 hq h1 h2]; decide
    · rw [← hn, nSums_32 hq h1]; decide
  have HN := Lib.hid hn
  obtain ⟨l, hll⟩ : ∃ l, liveF s = l := ⟨_, rfl⟩
  have hlv : ∀ r ∈ l, ValidR r := fun r hr => by
    rw [← hll] at hr
    unfold liveF at hr
    obtain ⟨p, hp, rfl⟩ := List.mem_map.1 hr
    exact ok.valid _ (List.of_mem_zip (List.mem_filter.1 hp).1).1
  have hll2 : l.length ≤ 1000 := by
    rw [← hll]
    unfold liveF
    rw [List.length_map]
    have h1 := List.length_filter_le (fun p : Rd × Bool => !p.2) (s.l.zip s.g)
    rw [List.length_zip] at h1
    omega
  rw [hll]
  have HLL := Lib.hid hll
  have HLV := Lib.hid hlv
  have hfl := hq.head.2.2.2.2.2.2
  have HFL := Lib.hid hfl
  have hk17 := hq.head.1
  have hn1 := Lib.hid hn2.2
  have hn32 := hn2.1
  clear h hL hG hq hw ok hn hll hlv hfl hn2
  go_enter Tryz.func9, Tryz.ntmps9
  go_upto_region 1 with fail
  go_cut [5] (fun v wx => ∃ k, v = (.slice (some ⟨k, 0, none⟩) n n) ∧ EvS w q A cc L cl s.l.length G cg s.g.length k n (accE q l 0 0) wx)
  case first =>
    go_wp2_with (first
      | (go_at_call 10; refine (sumsP (q := q) _).mono ?_; rw [← hn1.out]; rintro e w1 ⟨rfl, hb1⟩; have HB1 := Lib.hid hb1; clear hb1)
      | (at_make; go_must ((refine wpList_make_i64 _ rfl (.tmp 12) (.tmp 12) rfl (n := n) (by rfl) (by rfl) (by omega) ?_; intro w2 hown2 hg2))))
    go_meet
    case rel =>
      have hz := HB1.out.size
      simp at hz
      have hb : Below w.heap.size w w1 := (show Below w.heap.size w _ from (by repeat' (first | with_reducible exact Below.refl _ _ | with_reducible assumption | with_reducible refine Below.setCell ?_ ?_ _ | with_reducible refine Below.drew ?_ | with_reducible refine below_drewN ?_ _ | with_reducible refine Below.alloc ?_ ?_ _ | (rintro _ ⟨⟩; simp <;> omega) | omega | (simp <;> omega)))).trans (HB1.out.mono (by simp; omega))
      refine ⟨w1.heap.size, rfl, ?_, ?_, ?_, hb.grown hg2 hb.size (by rintro k ⟨⟩), by omega⟩
      · rw [acc_zero, HN.out]
        exact hown2.lower (by omega)
      · exact (hg2.block _ (by omega) (by rintro ⟨⟩)).trans ((HB1.out.block _ (by first | omega | (simp <;> omega) | (simp [World.setCell] <;> omega))).trans ((Below.heap_alloc _ _ _ (by simp)).trans (heap_alloc_at rfl)))
      · exact (hg2.block _ (by omega) (by rintro ⟨⟩)).trans ((HB1.out.block _ (by simp)).trans (heap_alloc_at (by simp)))
  obtain ⟨k, rfl, hE⟩ := hcut
  obtain ⟨w1, hwv⟩ : ∃ x, x = wc := ⟨_, rfl⟩
  subst hwv
  obtain ⟨q0, q1, q2, q3⟩ := row4 (Lib.hid hE.bq)
  have E1 := Lib.hid hE
  clear hE
  go_wp2_with fail
  go_loopw [17] (fun i wr => ∃ j : Nat, j ≤ q.fs.length ∧ i = .int .i64 j ∧ Hid (EvS w q A cc L cl s.l.length G cg s.g.length k n (accE q l j 0) wr)) (fun i _ => q.fs.length - (intOf i).toNat)
  case atStart => exact ⟨0, Nat.zero_le _, rfl, E1⟩
  case round =>
    obtain ⟨i, hi, rfl, hE⟩ := hrel
    clear q0 q1 q2 q3 E1
    have hi0 : (0 : Int) ≤ (i : Int) := by omega
    by_cases hlt : i < q.fs.length
    · have hi1 : (i : Int) < (q.fs.length : Int) := by omega
      have hx : q.fs[i]? = some (fl q i) := by unfold fl; rw [List.getD_eq_getElem?_getD, List.getElem?_eq_getElem hlt]; rfl
      obtain ⟨b1, o1, B, d, rfl, -, hb1, c1, hs1⟩ := flt_at (H.out.keep (Below.agree hE.out.bel)) hx
      obtain ⟨q0, q1, q2, q3⟩ := row4 (Lib.hid hE.out.bq)
      have lq := heap_lt hE.out.bq
      have HF := Lib.hid hs1
      have HX := Lib.hid ((HQ.out.flt _ (List.mem_of_getElem? hx)).2)
      have lk := (hE.out.own.lt k rfl).2
      have hk2 := hE.out.hk
      obtain ⟨wo, hwo⟩ : ∃ x, x = wr := ⟨_, rfl⟩
      subst hwo
      have hin : i < nFilF q.kind := by rw [← HFL.out]; exact hlt
      clear hs1 hx
      go_upto_region 6 with (go_at_call 25; refine (contributionE (q := q) _ hk17.1 hk17.2).mono ?_; rintro e w2 ⟨rfl, hB, hb2⟩; have HB := Lib.hid hB; have HB2 := Lib.hid hb2; clear hB hb2)
      have es := mvQ (Lib.hid hE.out.bs) HB2.out
      have s0 := cell_of_row _ _ 0 _ _ _ es.out
      have s1 := cell_of_row _ _ 1 _ _ _ es.out
      simp only [List.getElem?_toArray, List.getElem?_cons_zero, List.getElem?_cons_succ] at s0 s1
      have b02 := Lib.hid (hE.out.bel.trans (HB2.out.mono hE.out.bel.size))
      go_wp2_with (go_at_call 26; refine (liveP (s := s) _ (HL.out.keep (Below.agree b02.out)) (HG.out.keep (Below.agree b02.out)) OK.out.len hl).mono ?_; rw [HLL.out]; rintro e w3 ⟨A3, c3, rfl, hs3, hb3⟩; have HS3 := Lib.hid hs3; have HB3 := Lib.hid hb3; clear hs3 hb3)
      have hz2 := HB2.out.size
      have hz3 := HB3.out.size
      have AB := Lib.hid (HB.out.gk (Gk.ofBelow (k := 0) HB3.out) (by omega))
      have hnk : ¬ (fun b => b < w.heap.size ∨ w2.heap.size ≤ b) k := by rintro (h | h) <;> omega
      have hnk2 : ¬ (fun b => b < w.heap.size) k := by intro h; omega
      have HF3 := Lib.hid (HF.out.keep (Below.agree (HB2.out.trans (HB3.out.mono HB2.out.size))))
      have hl3 := HS3.out.max
      have HNK := Lib.hid hnk
      have HNK2 := Lib.hid hnk2
      have O3 := Lib.hid ((hE.out.own.call HB2.out).call HB3.out)
      clear s0 s1 es q0 q1 q2 q3 hnk hnk2
      go_loopw [29] (fun i2 wr => ∃ j : Nat, j ≤ l.length ∧ i2 = .int .i64 j ∧ Hid (Own .i64 (fun _ => False) wr (w.heap.size + 2) 2 (.slice (some ⟨k, 0, none⟩) n n) (accE q l i j)) ∧ Hid (Gk k w3 wr)) (fun i2 _ => l.length - (intOf i2).toNat)
      case atStart => exact ⟨0, Nat.zero_le _, rfl, O3, Lib.hid (Gk.refl _ _)⟩
      case round =>
        obtain ⟨j, hj, rfl, HO, HGK⟩ := hrel
        have hj0 : (0 : Int) ≤ (j : Int) := by omega
        by_cases hlt2 : j < l.length
        · have hj1 : (j : Int) < (l.length : Int) := by omega
          obtain ⟨r, hr⟩ : ∃ r, l[j]? = some r := ⟨_, List.getElem?_eq_getElem hlt2⟩
          obtain ⟨b2, o2, rfl, -, hb2, x0, x1, x2, x3⟩ := rd_at (HGK.out.slKeep HS3.out HNK.out) hr
          have hv := HLV.out r (List.mem_of_getElem? hr)
          have HS := Lib.hid (acc_step HQ.out HW.out hr hv hin)
          have HV := Lib.hid hv
          have HAB := Lib.hid (fun m => getD_bd (acc_bd HQ.out HLV.out hll2 i j) (by decide) m)
          have hb2' : b2 < wr.heap.size + 1 := by omega
          cases hmm : matchB (fl q i) r with
          | false =>
            have HM := Lib.hid hmm
            clear hr hv hmm
            go_wp2_with (go_at_call 27; refine (matchP (l := fl q i) (r := r) _ ((HGK.out.slKeep HF3.out HNK2.out).keep (by repeat' (first | with_reducible exact Agree.refl _ _ | with_reducible assumption | with_reducible refine Agree.alloc ?_ _ | with_reducible refine Agree.drew ?_ | with_reducible refine Agree.drewN ?_ _ | with_reducible refine Agree.call ?_ (by with_reducible assumption)))) HX.out).mono ?_; rw [HM.out]; rintro e wM ⟨rfl, hM⟩; have GM := Lib.hid (show Gk k w3 wM from by repeat' (first | with_reducible exact HGK.out | with_reducible refine Gk.call ?_ hM | with_reducible refine Gk.alloc ?_ _)); have OM := Lib.hid (show Own .i64 (fun _ => False) wM (w.heap.size + 2) 2 (.slice (some ⟨k, 0, none⟩) n n) (accE q l i j) from by repeat' (first | with_reducible exact HO.out | with_reducible refine Own.call ?_ hM | with_reducible refine Own.alloc ?_ _)); obtain ⟨hcM, hfM⟩ := bcell hM; have hzM := hM.size; (try simp at hzM); clear hM)
            go_roundw
            case rel => exact ⟨j + 1, by omega, by go_num, by rw [HS.out, HM.out]; exact OM, GM⟩
            case measure => simp [intOf]; omega
          | true =>
            have HM := Lib.hid hmm
            have hcol := HQ.out.head.2.1
            have hkk := HQ.out.head.2.2.2.1
            clear hr hv hmm
            by_cases k1 : q.kind = 1
            · have hv : addV q.kind wo.heap.size = .func (.func 58) #[] #[.pointer (some ⟨wo.heap.size + 1 + 1, 0, none⟩)] := by unfold addV; rw [if_pos k1]
              rw [hv]
              have HA := Lib.hid (addE_1 (i := i) (xs := accE q l i j) (r := r) k1)
              clear k1
              go_wp2_with (first
                | (go_at_call 27; refine (matchP (l := fl q i) (r := r) _ ((HGK.out.slKeep HF3.out HNK2.out).keep (by repeat' (first | with_reducible exact Agree.refl _ _ | with_reducible assumption | with_reducible refine Agree.alloc ?_ _ | with_reducible refine Agree.drew ?_ | with_reducible refine Agree.drewN ?_ _ | with_reducible refine Agree.call ?_ (by with_reducible assumption)))) HX.out).mono ?_; rw [HM.out]; rintro e wM ⟨rfl, hM⟩; have GM := Lib.hid (show Gk k w3 wM from by repeat' (first | with_reducible exact HGK.out | with_reducible refine Gk.call ?_ hM | with_reducible refine Gk.alloc ?_ _)); have OM := Lib.hid (show Own .i64 (fun _ => False) wM (w.heap.size + 2) 2 (.slice (some ⟨k, 0, none⟩) n n) (accE q l i j) from by repeat' (first | with_reducible exact HO.out | with_reducible refine Own.call ?_ hM | with_reducible refine Own.alloc ?_ _)); obtain ⟨hcM, hfM⟩ := bcell hM; have hzM := hM.size; (try simp at hzM); clear hM)
                | (go_at_call 58; refine (add1 (r := r) _ (GM.out.row AB.out.bs (by omega)) OM.out hpos (HAB.out 0)).mono ?_; rintro e w9 ⟨rfl, ho9, hg9⟩))
              try rw [← hv]
              go_roundw
              case rel => exact ⟨j + 1, by omega, by go_num, by rw [HS.out, if_pos HM.out, HA.out]; exact Lib.hid ho9, Lib.hid (GM.out.trans hg9)⟩
              case measure => simp [intOf]; omega
            by_cases k2 : q.kind = 2
            · have hv : addV q.kind wo.heap.size = .func (.func 59) #[] #[.pointer (some ⟨wo.heap.size + 1 + 1, 0, none⟩), .pointer (some ⟨wo.heap.size, 0, none⟩)] := by unfold addV; rw [if_neg k1, if_pos k2]
              rw [hv]
              have HA := Lib.hid (addE_2 (i := i) (xs := accE q l i j) (r := r) k2)
              clear k1 k2
              go_wp2_with (first
                | (go_at_call 27; refine (matchP (l := fl q i) (r := r) _ ((HGK.out.slKeep HF3.out HNK2.out).keep (by repeat' (first | with_reducible exact Agree.refl _ _ | with_reducible assumption | with_reducible refine Agree.alloc ?_ _ | with_reducible refine Agree.drew ?_ | with_reducible refine Agree.drewN ?_ _ | with_reducible refine Agree.call ?_ (by with_reducible assumption)))) HX.out).mono ?_; rw [HM.out]; rintro e wM ⟨rfl, hM⟩; have GM := Lib.hid (show Gk k w3 wM from by repeat' (first | with_reducible exact HGK.out | with_reducible refine Gk.call ?_ hM | with_reducible refine Gk.alloc ?_ _)); have OM := Lib.hid (show Own .i64 (fun _ => False) wM (w.heap.size + 2) 2 (.slice (some ⟨k, 0, none⟩) n n) (accE q l i j) from by repeat' (first | with_reducible exact HO.out | with_reducible refine Own.call ?_ hM | with_reducible refine Own.alloc ?_ _)); obtain ⟨hcM, hfM⟩ := bcell hM; have hzM := hM.size; (try simp at hzM); clear hM)
                | (go_at_call 59; refine (add2 (q := q) (r := r) _ (GM.out.row AB.out.bs (by omega)) (GM.out.row AB.out.bq (by omega)) OM.out hpos (by omega) (by omega) hcol.1 hcol.2 HV.out (HAB.out 0)).mono ?_; rintro e w9 ⟨rfl, ho9, hg9⟩))
              try rw [← hv]
              go_roundw
              case rel => exact ⟨j + 1, by omega, by go_num, by rw [HS.out, if_pos HM.out, HA.out]; exact Lib.hid ho9, Lib.hid (GM.out.trans hg9)⟩
              case measure => simp [intOf]; omega
            by_cases k3 : q.kind = 3
            · have hv : addV q.kind wo.heap.size = .func (.func 61) #[] #[.pointer (some ⟨wo.heap.size + 1 + 1, 0, none⟩), .pointer (some ⟨wo.heap.size, 0, none⟩)] := by unfold addV; rw [if_neg k1, if_neg k2, if_pos k3]
              rw [hv]
              have HA := Lib.hid (addE_3 (i := i) (xs := accE q l i j) (r := r) k3)
              have h6 := k6_of HQ.out
              have HK := Lib.hid (show q.k = (q.k.toNat : Int) by omega)
              have hk6 : q.k.toNat ≤ 6 := by omega
              clear k1 k2 k3 h6 hkk
              go_wp2_with (first
                | (go_at_call 27; refine (matchP (l := fl q i) (r := r) _ ((HGK.out.slKeep HF3.out HNK2.out).keep (by repeat' (first | with_reducible exact Agree.refl _ _ | with_reducible assumption | with_reducible refine Agree.alloc ?_ _ | with_reducible refine Agree.drew ?_ | with_reducible refine Agree.drewN ?_ _ | with_reducible refine Agree.call ?_ (by with_reducible assumption)))) HX.out).mono ?_; rw [HM.out]; rintro e wM ⟨rfl, hM⟩; have GM := Lib.hid (show Gk k w3 wM from by repeat' (first | with_reducible exact HGK.out | with_reducible refine Gk.call ?_ hM | with_reducible refine Gk.alloc ?_ _)); have OM := Lib.hid (show Own .i64 (fun _ => False) wM (w.heap.size + 2) 2 (.slice (some ⟨k, 0, none⟩) n n) (accE q l i j) from by repeat' (first | with_reducible exact HO.out | with_reducible refine Own.call ?_ hM | with_reducible refine Own.alloc ?_ _)); obtain ⟨hcM, hfM⟩ := bcell hM; have hzM := hM.size; (try simp at hzM); clear hM)
                | (go_at_call 61; refine (add3 (q := q) (r := r) (kk := q.k.toNat) _ (GM.out.row AB.out.bs (by omega)) (GM.out.row AB.out.bq (by omega)) OM.out hpos (by omega) (by omega) hcol.1 hcol.2 HV.out HK.out hk6 (HAB.out 0)).mono ?_; rintro e w9 ⟨rfl, ho9, hg9⟩))
              try rw [← hv]
              go_roundw
              case rel => exact ⟨j + 1, by omega, by go_num, by rw [HS.out, if_pos HM.out, HA.out]; exact Lib.hid ho9, Lib.hid (GM.out.trans hg9)⟩
              case measure => simp [intOf]; omega
            by_cases k7 : q.kind = 7
            · have hv : addV q.kind wo.heap.size = .func (.func 63) #[] #[.pointer (some ⟨wo.heap.size + 1 + 1, 0, none⟩), .pointer (some ⟨wo.heap.size + 1, 0, none⟩)] := by unfold addV; rw [if_neg k1, if_neg k2, if_neg k3, if_pos k7]
              rw [hv]
              have hwho := HV.out.1
              have hi2 : i < 2 := by have h2 := hin; rw [k7] at h2; exact h2
              obtain ⟨m, hm⟩ : ∃ m : Nat, (16 : Int) * i + r.who = m := ⟨((16 : Int) * i + r.who).toNat, by omega⟩
              have hmn : m < n := by rw [← HN.out, nSums_32 HQ.out k7]; omega
              have HA := Lib.hid (addE_7 (xs := accE q l i j) k7 hwho.1 hm)
              have HMM := Lib.hid hm
              clear k1 k2 k3 k7 hm hwho hkk
              go_wp2_with (first
                | (go_at_call 27; refine (matchP (l := fl q i) (r := r) _ ((HGK.out.slKeep HF3.out HNK2.out).keep (by repeat' (first | with_reducible exact Agree.refl _ _ | with_reducible assumption | with_reducible refine Agree.alloc ?_ _ | with_reducible refine Agree.drew ?_ | with_reducible refine Agree.drewN ?_ _ | with_reducible refine Agree.call ?_ (by with_reducible assumption)))) HX.out).mono ?_; rw [HM.out]; rintro e wM ⟨rfl, hM⟩; have GM := Lib.hid (show Gk k w3 wM from by repeat' (first | with_reducible exact HGK.out | with_reducible refine Gk.call ?_ hM | with_reducible refine Gk.alloc ?_ _)); have OM := Lib.hid (show Own .i64 (fun _ => False) wM (w.heap.size + 2) 2 (.slice (some ⟨k, 0, none⟩) n n) (accE q l i j) from by repeat' (first | with_reducible exact HO.out | with_reducible refine Own.call ?_ hM | with_reducible refine Own.alloc ?_ _)); obtain ⟨hcM, hfM⟩ := bcell hM; have hzM := hM.size; (try simp at hzM); clear hM)
                | (go_at_call 63; refine (add4 (r := r) (i := i) (j := m) _ (GM.out.row AB.out.bs (by omega)) (GM.out.row AB.out.bi (by omega)) OM.out hmn hn32 HMM.out hi2 (HAB.out m)).mono ?_; rintro e w9 ⟨rfl, ho9, hg9⟩))
              try rw [← hv]
              go_roundw
              case rel => exact ⟨j + 1, by omega, by go_num, by rw [HS.out, if_pos HM.out, HA.out]; exact Lib.hid ho9, Lib.hid (GM.out.trans hg9)⟩
              case measure => simp [intOf]; omega
            · have hv : addV q.kind wo.heap.size = .func (.func 64) #[] #[.pointer (some ⟨wo.heap.size + 1 + 1, 0, none⟩), .pointer (some ⟨wo.heap.size, 0, none⟩)] := by unfold addV; rw [if_neg k1, if_neg k2, if_neg k3, if_neg k7]
              rw [hv]
              have h4 : 4 ≤ q.kind ∧ q.kind ≤ 6 := by omega
              obtain ⟨-, hf0, hf1⟩ := narrow_fld HQ.out HW.out h4.1 h4.2 HV.out
              obtain ⟨m, hm⟩ : ∃ m : Nat, fldI r q.col = m := ⟨(fldI r q.col).toNat, by omega⟩
              have hmn : m < n := by rw [← HN.out, nSums_16 HQ.out (by omega) h4.2]; omega
              have HA := Lib.hid (addE_5 (i := i) (xs := accE q l i j) h4.1 h4.2 hm)
              have HMM := Lib.hid hm
              clear k1 k2 k3 k7 hm hkk h4 hf0 hf1
              go_wp2_with (first
                | (go_at_call 27; refine (matchP (l := fl q i) (r := r) _ ((HGK.out.slKeep HF3.out HNK2.out).keep (by repeat' (first | with_reducible exact Agree.refl _ _ | with_reducible assumption | with_reducible refine Agree.alloc ?_ _ | with_reducible refine Agree.drew ?_ | with_reducible refine Agree.drewN ?_ _ | with_reducible refine Agree.call ?_ (by with_reducible assumption)))) HX.out).mono ?_; rw [HM.out]; rintro e wM ⟨rfl, hM⟩; have GM := Lib.hid (show Gk k w3 wM from by repeat' (first | with_reducible exact HGK.out | with_reducible refine Gk.call ?_ hM | with_reducible refine Gk.alloc ?_ _)); have OM := Lib.hid (show Own .i64 (fun _ => False) wM (w.heap.size + 2) 2 (.slice (some ⟨k, 0, none⟩) n n) (accE q l i j) from by repeat' (first | with_reducible exact HO.out | with_reducible refine Own.call ?_ hM | with_reducible refine Own.alloc ?_ _)); obtain ⟨hcM, hfM⟩ := bcell hM; have hzM := hM.size; (try simp at hzM); clear hM)
                | (go_at_call 64; refine (add5 (q := q) (r := r) (j := m) _ (GM.out.row AB.out.bs (by omega)) (GM.out.row AB.out.bq (by omega)) OM.out hmn (by omega) (by omega) hcol.1 hcol.2 HMM.out (HAB.out m)).mono ?_; rintro e w9 ⟨rfl, ho9, hg9⟩))
              try rw [← hv]
              go_roundw
              case rel => exact ⟨j + 1, by omega, by go_num, by rw [HS.out, if_pos HM.out, HA.out]; exact Lib.hid ho9, Lib.hid (GM.out.trans hg9)⟩
              case measure => simp [intOf]; omega
        · have hj1 : ¬ (j : Int) < (l.length : Int) := by omega
          obtain rfl : j = l.length := by omega
          have HA := Lib.hid (acc_next (q := q) (l := l) hin)
          have g0 := (Gk.ofBelow (k := k) HB2.out).trans ((Gk.ofBelow HB3.out).trans HGK.out)
          have G0 := Lib.hid g0
          clear g0
          go_wp2_with fail
          go_roundw
          case rel => exact ⟨i + 1, by omega, by go_num, Lib.hid ⟨by rw [← HA.out]; exact HO.out, G0.out.row hE.out.bq (by omega), G0.out.row hE.out.bs (by omega), G0.out.below hE.out.bel (by omega) hE.out.bel.size, hE.out.hk⟩⟩
          case measure => simp [intOf]; omega
    · have hi1 : ¬ (i : Int) < (q.fs.length : Int) := by omega
      obtain rfl : i = q.fs.length := by omega
      go_wp2_with fail
      go_ret
      have hd := hE.out.own
      rw [HFL.out, acc_done HQ.out] at hd
      have e := (sumsF_len q l).trans HN.out
      refine ⟨some ⟨k, 0, none⟩, n, ?_, ?_, hE.out.bel⟩
      · exact (show Ending.returned (Value.slice (some ⟨k, 0, none⟩) n n) = Ending.returned (Value.slice (some ⟨k, 0, none⟩) (sumsF q l).length n) by rw [e])
      · rw [e]; exact hd.lower (by omega)
end Go.Proofs.YtagadbdbbglddaaGreatDoor
