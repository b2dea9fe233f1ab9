/-
  Texts of this claim, merged: Q13. Conditions: as each theorem says.
-/
import Derived.Test.YtagadbdbbglddaaGreatDoorU1
import Derived.Test.YtagadbdbbglddaaGreatDoorU2
import Derived.Test.YtagadbdbbglddaaGreatDoorU3
import Derived.Test.YtagadbdbbglddaaGreatDoorU4
import Derived.Test.YtagadbdbbglddaaGreatDoorU5
import Derived.Test.YtagadbdbbglddaaGreatDoorU6
import Derived.Test.YtagadbdbbglddaaGreatDoorU7
import Derived.Test.YtagadbdbbglddaaGreatDoorU10
set_option linter.unusedSimpArgs false
set_option linter.unusedVariables false
namespace Go.Proofs.YtagadbdbbglddaaGreatDoor
open Go.RowKit

def momV (b : Nat) : Value := .func (.func 86) #[] #[.pointer (some ⟨b, 0, none⟩)]
theorem momentP (f : FuncId) (w : World) : Calls Tryz.prog 52 #[.func (.func f) #[] #[]] w fun e w' =>
    ∃ b, e = .returned (.func (.func 86) #[] #[.pointer (some ⟨b, 0, none⟩)]) ∧ w'.heap[b]? = some (.cells #[.func (.func f) #[] #[]] 40 (0, 0)) ∧ w.heap.size ≤ b ∧ Below w.heap.size w w' := by
  go_enter Tryz.func52, Tryz.ntmps52
  go_wp2_with fail
  go_ret
  exact ⟨_, rfl, heap_alloc_at rfl, Nat.le_refl _, (by repeat' (first | with_reducible exact Below.refl _ _ | with_reducible assumption | with_reducible refine Below.setCell ?_ ?_ _ | with_reducible refine Below.drew ?_ | with_reducible refine below_drewN ?_ _ | with_reducible refine Below.alloc ?_ ?_ _ | (rintro _ ⟨⟩; simp <;> omega) | omega | (simp <;> omega)))⟩
def kindV (s : Int) (n : Bool) (f : Value) : Value := .agg #[.int .i64 s, .bool n, f]
def kindsE (b1 b2 b3 : Nat) : List MapEntry := [keyI 1 (kindV 1 false (momV b1)) 0, keyI 2 (kindV 1 false (momV b2)) 1, keyI 3 (kindV 1 false (momV b3)) 2,
  keyI 4 (kindV 16 true (.func (.func 56) #[] #[])) 3, keyI 5 (kindV 16 true (.func (.func 56) #[] #[])) 4, keyI 6 (kindV 16 true (.func (.func 56) #[] #[])) 5, keyI 7 (kindV 32 false (.func (.func 57) #[] #[])) 6]
/-- A table in the making, and the boxes that its functions keep. -/
structure KSt (w0 : World) (b : Nat) (es : List MapEntry) (bs : List (Nat × FuncId)) (w : World) : Prop where
  map : MapIs w b es
  bel : Below w0.heap.size w0 w
  old : w0.heap.size ≤ b
  box : ∀ p ∈ bs, w.heap[p.1]? = some (.cells #[.func (.func p.2) #[] #[]] 40 (0, 0)) ∧ p.1 ≠ b
  new : ∀ p ∈ bs, w0.heap.size ≤ p.1
section
variable {w0 w w' : World} {b : Nat} {es es' : List MapEntry} {bs : List (Nat × FuncId)}
theorem KSt.insert (h : KSt w0 b es bs w) (hM : MapIs w' b es') (hg : w.grownBy w' (some b)) : KSt w0 b es' bs w' :=
  ⟨hM, h.bel.grown hg h.bel.size (by rintro k ⟨⟩; exact h.old), h.old, fun p hp => ⟨(hg.block p.1 (heap_lt (h.box p hp).1) (fun e => (h.box p hp).2 (by injection e))).trans (h.box p hp).1, (h.box p hp).2⟩, h.new⟩
theorem KSt.call (h : KSt w0 b es bs w) {f : FuncId} {g : Nat} (hb : Below w.heap.size w w') (hg : w.heap.size ≤ g) (hn : w'.heap[g]? = some (.cells #[.func (.func f) #[] #[]] 40 (0, 0))) : KSt w0 b es (bs ++ [(g, f)]) w' :=
  ⟨h.map.below hb, h.bel.trans (hb.mono h.bel.size), h.old, fun p hp => by
    rcases List.mem_append.1 hp with hp | hp
    · exact ⟨(hb.block p.1 (heap_lt (h.box p hp).1)).trans (h.box p hp).1, (h.box p hp).2⟩
    · simp only [List.mem_singleton] at hp
      subst hp
      exact ⟨hn, by have := heap_lt h.map; simp only; omega⟩, fun p hp => by
    rcases List.mem_append.1 hp with hp | hp
    · exact h.new p hp
    · simp only [List.mem_singleton] at hp
      subst hp
      exact Nat.le_trans h.bel.size hg⟩
end
set_option maxRecDepth 100000 in
set_option maxHeartbeats 4000000 in
theorem kindsP (w : World) : Calls Tryz.prog 23 #[] w fun e w' => ∃ b b1 b2 b3, e = .returned (.map (some b)) ∧ KSt w b (kindsE b1 b2 b3) [(b1, 53), (b2, 54), (b3, 55)] w' := by
  have hmm := @run_makeMap Tryz.prog
  have tok1 : True := trivial
  have tok2 : True := trivial
  have tok3 : True := trivial
  have hK : KSt w w.heap.size [] [] (w.alloc (.map #[] 0)) := ⟨MapIs.made w, (by repeat' (first | with_reducible exact Below.refl _ _ | with_reducible assumption | with_reducible refine Below.setCell ?_ ?_ _ | with_reducible refine Below.drew ?_ | with_reducible refine below_drewN ?_ _ | with_reducible refine Below.alloc ?_ ?_ _ | (rintro _ ⟨⟩; simp <;> omega) | omega | (simp <;> omega))), Nat.le_refl _, fun _ h => (by cases h), fun _ h => (by cases h)⟩
  go_enter Tryz.func23, Tryz.ntmps23
  go_wp2_with (first
    | (go_at_call 52; clear tok1; refine (momentP _ _).mono ?_; rintro e w1 ⟨b1, rfl, hn1, hle1, hb1⟩; replace hK := hK.call hb1 hle1 hn1; clear hn1 hle1 hb1)
    | (go_at_call 52; clear tok2; refine (momentP _ _).mono ?_; rintro e w1 ⟨b2, rfl, hn1, hle1, hb1⟩; replace hK := hK.call hb1 hle1 hn1; clear hn1 hle1 hb1)
    | (go_at_call 52; clear tok3; refine (momentP _ _).mono ?_; rintro e w1 ⟨b3, rfl, hn1, hle1, hb1⟩; replace hK := hK.call hb1 hle1 hn1; clear hn1 hle1 hb1)
    | (refine wpList_insert_I (n := 1) (u := kindV 1 false (momV b1)) (by rfl) (.tmp 1) _ _ rfl Tryz.underlying67 Tryz.underlying3 hK.map (by rfl) rfl (by rfl) (by rfl) (by rfl) ?_; intro w2 hM hg; replace hK := hK.insert hM hg; clear hM hg)
    | (refine wpList_insert_I (n := 2) (u := kindV 1 false (momV b2)) (by rfl) (.tmp 1) _ _ rfl Tryz.underlying67 Tryz.underlying3 hK.map (by rfl) rfl (by rfl) (by rfl) (by rfl) ?_; intro w2 hM hg; replace hK := hK.insert hM hg; clear hM hg)
    | (refine wpList_insert_I (n := 3) (u := kindV 1 false (momV b3)) (by rfl) (.tmp 1) _ _ rfl Tryz.underlying67 Tryz.underlying3 hK.map (by rfl) rfl (by rfl) (by rfl) (by rfl) ?_; intro w2 hM hg; replace hK := hK.insert hM hg; clear hM hg)
    | (refine wpList_insert_I (n := 4) (u := kindV 16 true (.func (.func 56) #[] #[])) (by rfl) (.tmp 1) _ _ rfl Tryz.underlying67 Tryz.underlying3 hK.map (by rfl) rfl (by rfl) (by rfl) (by rfl) ?_; intro w2 hM hg; replace hK := hK.insert hM hg; clear hM hg)
    | (refine wpList_insert_I (n := 5) (u := kindV 16 true (.func (.func 56) #[] #[])) (by rfl) (.tmp 1) _ _ rfl Tryz.underlying67 Tryz.underlying3 hK.map (by rfl) rfl (by rfl) (by rfl) (by rfl) ?_; intro w2 hM hg; replace hK := hK.insert hM hg; clear hM hg)
    | (refine wpList_insert_I (n := 6) (u := kindV 16 true (.func (.func 56) #[] #[])) (by rfl) (.tmp 1) _ _ rfl Tryz.underlying67 Tryz.underlying3 hK.map (by rfl) rfl (by rfl) (by rfl) (by rfl) ?_; intro w2 hM hg; replace hK := hK.insert hM hg; clear hM hg)
    | (refine wpList_insert_I (n := 7) (u := kindV 32 false (.func (.func 57) #[] #[])) (by rfl) (.tmp 1) _ _ rfl Tryz.underlying67 Tryz.underlying3 hK.map (by rfl) rfl (by rfl) (by rfl) (by rfl) ?_; intro w2 hM hg; replace hK := hK.insert hM hg; clear hM hg))
  go_ret
  exact ⟨w.heap.size, b1, b2, b3, rfl, hK⟩
/-- What the table says of a kind: by number; of the functions, which. -/
def narrowF (k : Int) : Bool := decide (4 ≤ k ∧ k ≤ 6)
def boundV (b1 b2 b3 : Nat) (k : Int) : Value := if k = 1 then momV b1 else if k = 2 then momV b2 else if k = 3 then momV b3 else if 4 ≤ k ∧ k ≤ 6 then .func (.func 56) #[] #[] else if k = 7 then .func (.func 57) #[] #[] else .nilFunc
theorem kinds_find (b1 b2 b3 : Nat) (k : Int) : (findI k (kindsE b1 b2 b3)).getD (kindV 0 false .nilFunc) = kindV (sumsC k) (narrowF k) (boundV b1 b2 b3 k) := by
  by_cases h : 1 ≤ k ∧ k ≤ 7
  · rcases (by omega : k = 1 ∨ k = 2 ∨ k = 3 ∨ k = 4 ∨ k = 5 ∨ k = 6 ∨ k = 7) with rfl | rfl | rfl | rfl | rfl | rfl | rfl <;> rfl
  · have hn : findI k (kindsE b1 b2 b3) = none := by
      unfold kindsE keyI
      simp only [findI]
      repeat (rw [if_neg (by omega)])
    rw [hn]
    unfold sumsC narrowF boundV
    rw [if_neg (by omega), if_neg (by omega), if_neg (by omega), if_neg (by omega), if_neg (by omega), if_neg (by omega), if_neg (by omega), if_neg (by omega), decide_eq_false (by omega)]
    rfl
theorem kinds_look {W : World} {b b1 b2 b3 : Nat} (h : MapIs W b (kindsE b1 b2 b3)) (k : Int) : (Instr.lookup 67 (.map (some b)) (.int .i64 k) false).run Tryz.prog W = .ok (.agg #[.int .i64 (sumsC k), .bool (narrowF k), boundV b1 b2 b3 k]) W := by
  have := run_lookup_I Tryz.underlying67 Tryz.underlying3 h rfl (z := kindV 0 false .nilFunc) (by kernel_rfl) k false
  rw [kinds_find] at this
  exact this
def q13A : List FRow := [(0, ([], (4, []))), (1, ([], (5, [1]))), (2, ([1], (6, [4]))), (3, ([0, 2], (7, [3, 5]))), (4, ([3], (8, [6]))), (5, ([4, 0, 0, 1, 2, 3, 4], (3, [7])))]
set_option maxRecDepth 100000 in
set_option maxHeartbeats 2000000 in
theorem sumsP {q : Qy} {A : Option Addr} {c : Nat} (w : World) : Calls Tryz.prog 10 #[(.agg #[.int .i64 q.kind, .int .i64 q.col, .int .i64 q.k, .slice A q.fs.length c])] w fun e w' => e = .returned (.int .i64 (sumsC q.kind)) ∧ Below w.heap.size w w' := by
  go_enter Tryz.func10, Tryz.ntmps10
  go_upto_region 1 with fail
  refine wp_world (F := fun wx => Below w.heap.size w wx ∧ Hid (wx.heap[w.heap.size]? = some (.cells #[.int .i64 q.kind, .int .i64 q.col, .int .i64 q.k, .slice A q.fs.length c] 24 (0, 0)))) ⟨(Below.refl _ _).alloc (Nat.le_refl _) _, Lib.hid (heap_alloc_at rfl)⟩ ?_
  rintro wr ⟨bb, gq⟩
  have b0 := Lib.hid bb
  have zq : ∀ W, Below wr.heap.size wr W → _ ∧ _ ∧ _ ∧ _ := fun W hW => row4 (mvQ gq hW)
  have br : Below wr.heap.size wr wr := Below.refl _ _
  have ba : ∀ W o, Below wr.heap.size wr W → Below wr.heap.size wr (W.alloc o) := fun W o h => h.alloc h.size o
  have bc : ∀ W W', Below wr.heap.size wr W → Below W.heap.size W W' → Below wr.heap.size wr W' := fun W W' h k => h.trans (k.mono h.size)
  have hf : ∀ a b c w, (Instr.field 66 (.agg #[.int .i64 a, .bool b, c]) 0).run Tryz.prog w = .ok (.int .i64 a) w := fun _ _ _ _ => by kernel_rfl
  clear bb
  refine wp_region_noPanic ?_
  refine wp_region_held_drew (S := fun X => Below wr.heap.size wr X) (by kernel_rfl) ?_ (fun hHeld => ?_)
  · (first | with_reducible assumption | (with_reducible refine Below.drew ?_; with_reducible assumption) | (with_reducible refine ba _ _ ?_; with_reducible assumption) | (with_reducible refine Below.drew ?_; with_reducible refine ba _ _ ?_; with_reducible assumption) | exact Below.refl _ _ | exact (Below.refl _ _).drew | exact (Below.refl _ _).alloc (Nat.le_refl _) _ | (refine bc _ _ (by assumption) (by assumption)))
  refine RegOk.begin_ (n := 6) (T := q13A) ⟨by kernel_rfl, by kernel_rfl, by kernel_rfl, by kernel_rfl⟩ fun hR => ?_
  refine hR.take (i := 1) (oi := ?ow594_1) (v := ?vw594_1) (m' := 2) ?hw594_1 (by kernel_rfl) (by kernel_rfl) (fun _ _ _ h => h) (Or.inl ⟨?sw594_1, ?yw594_1⟩) (by assumption) ?nw594_1
  case hw594_1 => simp only [List.getElem?_toArray, List.getElem?_cons_succ, List.getElem?_cons_zero]; rfl
  case sw594_1 => rfl
  case yw594_1 => (intro w hSw; (try dsimp only at hSw); go_simp <;> with_reducible rfl)
  try simp only [Act.put, List.setIfInBounds_toArray, List.set_cons_zero, List.set_cons_succ]
  refine hR.take (i := 2) (oi := ?ow595_2) (v := ?vw595_2) (m' := 6) ?hw595_2 (by kernel_rfl) (by kernel_rfl) (fun _ _ _ h => h) (Or.inl ⟨?sw595_2, ?yw595_2⟩) (by assumption) ?nw595_2
  case hw595_2 => simp only [List.getElem?_toArray, List.getElem?_cons_succ, List.getElem?_cons_zero]; rfl
  case sw595_2 => rfl
  case yw595_2 => (intro w hSw; (try dsimp only at hSw); go_simp <;> with_reducible rfl)
  try simp only [Act.put, List.setIfInBounds_toArray, List.set_cons_zero, List.set_cons_succ]
  refine hR.come (rs := [0]) (by kernel_rfl) (by simp) ?_
  refine AllReadyH.cons (o := ?o596_0) ?h596_0 (fun K hK => ?kw596_0) AllReadyH.nil
  case h596_0 => simp only [List.getElem?_toArray, List.getElem?_cons_succ, List.getElem?_cons_zero]; rfl
  go_simp
  go_at_call 23; refine (kindsP _).mono ?_; rintro e w1 ⟨b, b1, b2, b3, rfl, hK1⟩; have hk1 := bc _ _ (by (first | with_reducible assumption | (with_reducible refine Below.drew ?_; with_reducible assumption) | (with_reducible refine ba _ _ ?_; with_reducible assumption) | (with_reducible refine Below.drew ?_; with_reducible refine ba _ _ ?_; with_reducible assumption) | exact Below.refl _ _ | exact (Below.refl _ _).drew | exact (Below.refl _ _).alloc (Nat.le_refl _) _ | (refine bc _ _ (by assumption) (by assumption)))) hK1.bel; have zl := fun W (hW : Below w1.heap.size w1 W) => kinds_look (hK1.map.below hW) q.kind
  refine hK.out _ _ ?_ (fun hHeld => ?_)
  · (first | with_reducible assumption | (with_reducible refine Below.drew ?_; with_reducible assumption) | (with_reducible refine ba _ _ ?_; with_reducible assumption) | (with_reducible refine Below.drew ?_; with_reducible refine ba _ _ ?_; with_reducible assumption) | exact Below.refl _ _ | exact (Below.refl _ _).drew | exact (Below.refl _ _).alloc (Nat.le_refl _) _ | (refine bc _ _ (by assumption) (by assumption)))
  clear hK K
  refine RegOk.put_ (m' := 7) (by kernel_rfl) ?_
  try simp only [Act.put, List.setIfInBounds_toArray, List.set_cons_zero, List.set_cons_succ]
  refine wpAnyH_base hHeld fun hH5 => ?_
  refine hR.take (i := 3) (oi := ?ow597_3) (v := ?vw597_3) (m' := 15) ?hw597_3 (by kernel_rfl) (by kernel_rfl) (fun _ _ _ h => h) (Or.inl ⟨?sw597_3, ?yw597_3⟩) (by assumption) ?nw597_3
  case hw597_3 => simp only [List.getElem?_toArray, List.getElem?_cons_succ, List.getElem?_cons_zero]; rfl
  case sw597_3 => rfl
  case yw597_3 => (intro w hSw; (try dsimp only at hSw); go_simp <;> with_reducible rfl)
  try simp only [Act.put, List.setIfInBounds_toArray, List.set_cons_zero, List.set_cons_succ]
  refine hR.take (i := 4) (oi := ?ow598_4) (v := ?vw598_4) (m' := 31) ?hw598_4 (by kernel_rfl) (by kernel_rfl) (fun _ _ _ h => h) (Or.inl ⟨?sw598_4, ?yw598_4⟩) (by assumption) ?nw598_4
  case hw598_4 => simp only [List.getElem?_toArray, List.getElem?_cons_succ, List.getElem?_cons_zero]; rfl
  case sw598_4 => rfl
  case yw598_4 => (intro w hSw; (try dsimp only at hSw); go_simp <;> with_reducible rfl)
  try simp only [Act.put, List.setIfInBounds_toArray, List.set_cons_zero, List.set_cons_succ]
  refine hR.take (i := 5) (oi := ?ow599_5) (v := ?vw599_5) (m' := 63) ?hw599_5 (by kernel_rfl) (by kernel_rfl) (fun _ _ _ h => h) (Or.inl ⟨?sw599_5, ?yw599_5⟩) (by assumption) ?nw599_5
  case hw599_5 => simp only [List.getElem?_toArray, List.getElem?_cons_succ, List.getElem?_cons_zero]; rfl
  case sw599_5 => rfl
  case yw599_5 => (intro w hSw; (try dsimp only at hSw); go_simp <;> with_reducible rfl)
  try simp only [Act.put, List.setIfInBounds_toArray, List.set_cons_zero, List.set_cons_succ]
  refine hR.all (by kernel_rfl) ?_ _
  refine NoPanic.normal ?_
  go_wp2_with fail
  go_ret
  exact ⟨rfl, b0.out.trans (hk1.mono b0.out.size)⟩
end Go.Proofs.YtagadbdbbglddaaGreatDoor
