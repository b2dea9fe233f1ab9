/-
  Texts of this claim, merged: Q12, Q13, Q14, Q17, Q19, Q20. Conditions: as each theorem says.
-/
import Derived.Lib.Mul64
import Derived.Laws.Bits64b
import Derived.Shelf.Bits.Mul64
import Derived.Laws.EntriesVeiled
import Derived.Test.YtmkpaolbejlodaaDoorC1
import Derived.Test.YtmkpaolbejlodaaDoorC2
import Derived.Test.YtmkpaolbejlodaaDoorC3
import Derived.Test.YtmkpaolbejlodaaDoorC4
import Derived.Test.YtmkpaolbejlodaaDoorC5
set_option linter.unusedSimpArgs false
set_option linter.unusedVariables false
namespace Go.Proofs.YtmkpaolbejlodaaDoor
open Go.RowKit

def momF (l : List Cd) (col rows : Int) (e : Nat) : List Int × Bool := if satB l then ([powF rows (underF l col).2 e], decide (powF rows (underF l col).2 e < two62)) else ([0], true)
theorem momF_sat {l : List Cd} {col : Int} {n m P e : Nat} (hs : satB l = true) (hm : (underF l col).2 = (m : Int)) (hP : n * m ^ e = P) : momF l col n e = ([(P : Int)], under62 P) := by
  have e1 : powF n (underF l col).2 e = (P : Int) := by rw [hm, ← hP]; unfold powF; rw [Int.natCast_mul, Int.natCast_pow]
  unfold momF
  rw [hs, if_pos rfl, e1]
  have e2 : decide ((P : Int) < two62) = under62 P := decide_eq_decide.2 (by unfold two62; omega)
  rw [e2]
end Go.Proofs.YtmkpaolbejlodaaDoor
namespace Go.Proofs.YtmkpaolbejlodaaDoor
open Go.RowKit

def momV (b : Nat) : Value := .func (.func 76) #[] #[.pointer (some ⟨b, 0, none⟩)]
theorem momentP (f : FuncId) (w : World) : Calls Tryd.prog 64 #[.func (.func f) #[] #[]] w fun e w' =>
    ∃ b, e = .returned (.func (.func 76) #[] #[.pointer (some ⟨b, 0, none⟩)]) ∧ w'.heap[b]? = some (.cells #[.func (.func f) #[] #[]] 73 (0, 0)) ∧ w.heap.size ≤ b ∧ Below w.heap.size w w' := by
  go_enter Tryd.func64, Tryd.ntmps64
  go_wp2_with fail
  go_ret
  exact ⟨_, rfl, heap_alloc_at rfl, Nat.le_refl _, (by repeat' (first | with_reducible exact Below.refl _ _ | with_reducible assumption | with_reducible refine Below.setCell ?_ ?_ _ | with_reducible refine Below.drew ?_ | with_reducible refine below_drewN ?_ _ | with_reducible refine Below.alloc ?_ ?_ _ | (rintro _ ⟨⟩; simp <;> omega) | omega | (simp <;> omega)))⟩
def kindV (s : Int) (n : Bool) (f : Value) : Value := .agg #[.int .i64 s, .bool n, f]
def kindsE (b1 b2 b3 : Nat) : List MapEntry := [keyI 1 (kindV 1 false (momV b1)) 0, keyI 2 (kindV 1 false (momV b2)) 1, keyI 3 (kindV 1 false (momV b3)) 2,
  keyI 4 (kindV 16 true (.func (.func 68) #[] #[])) 3, keyI 5 (kindV 16 true (.func (.func 68) #[] #[])) 4, keyI 6 (kindV 16 true (.func (.func 68) #[] #[])) 5, keyI 7 (kindV 32 false (.func (.func 69) #[] #[])) 6]
/-- A table in the making, and the boxes that its functions keep. -/
structure KSt (w0 : World) (b : Nat) (es : List MapEntry) (bs : List (Nat × FuncId)) (w : World) : Prop where
  map : MapIs w b es
  bel : Below w0.heap.size w0 w
  old : w0.heap.size ≤ b
  box : ∀ p ∈ bs, w.heap[p.1]? = some (.cells #[.func (.func p.2) #[] #[]] 73 (0, 0)) ∧ p.1 ≠ b
  new : ∀ p ∈ bs, w0.heap.size ≤ p.1
section
variable {w0 w w' : World} {b : Nat} {es es' : List MapEntry} {bs : List (Nat × FuncId)}
theorem KSt.insert (h : KSt w0 b es bs w) (hM : MapIs w' b es') (hg : w.grownBy w' (some b)) : KSt w0 b es' bs w' :=
  ⟨hM, h.bel.grown hg h.bel.size (by rintro k ⟨⟩; exact h.old), h.old, fun p hp => ⟨(hg.block p.1 (heap_lt (h.box p hp).1) (fun e => (h.box p hp).2 (by injection e))).trans (h.box p hp).1, (h.box p hp).2⟩, h.new⟩
theorem KSt.call (h : KSt w0 b es bs w) {f : FuncId} {g : Nat} (hb : Below w.heap.size w w') (hg : w.heap.size ≤ g) (hn : w'.heap[g]? = some (.cells #[.func (.func f) #[] #[]] 73 (0, 0))) : KSt w0 b es (bs ++ [(g, f)]) w' :=
  ⟨h.map.below hb, h.bel.trans (hb.mono h.bel.size), h.old, fun p hp => by
    rcases List.mem_append.1 hp with hp | hp
    · exact ⟨(hb.block p.1 (heap_lt (h.box p hp).1)).trans (h.box p hp).1, (h.box p hp).2⟩
    · simp only [List.mem_singleton] at hp
      subst hp
      exact ⟨hn, by have := heap_lt h.map; simp only; omega⟩, fun p hp => by
    rcases List.mem_append.1 hp with hp | hp
    · exact h.new p hp
    · simp only [List.mem_singleton] at hp
      subst hp
      exact Nat.le_trans h.bel.size hg⟩
end
set_option maxRecDepth 100000 in
set_option maxHeartbeats 4000000 in
theorem kindsP (w : World) : Calls Tryd.prog 50 #[] w fun e w' => ∃ b b1 b2 b3, e = .returned (.map (some b)) ∧ KSt w b (kindsE b1 b2 b3) [(b1, 65), (b2, 66), (b3, 67)] w' := by
  have hmm := @run_makeMap Tryd.prog
  have tok1 : True := trivial
  have tok2 : True := trivial
  have tok3 : True := trivial
  have hK : KSt w w.heap.size [] [] (w.alloc (.map #[] 0)) := ⟨MapIs.made w, (by repeat' (first | with_reducible exact Below.refl _ _ | with_reducible assumption | with_reducible refine Below.setCell ?_ ?_ _ | with_reducible refine Below.drew ?_ | with_reducible refine below_drewN ?_ _ | with_reducible refine Below.alloc ?_ ?_ _ | (rintro _ ⟨⟩; simp <;> omega) | omega | (simp <;> omega))), Nat.le_refl _, fun _ h => (by cases h), fun _ h => (by cases h)⟩
  go_enter Tryd.func50, Tryd.ntmps50
  go_wp2_with (first
    | (go_at_call 64; clear tok1; refine (momentP _ _).mono ?_; rintro e w1 ⟨b1, rfl, hn1, hle1, hb1⟩; replace hK := hK.call hb1 hle1 hn1; clear hn1 hle1 hb1)
    | (go_at_call 64; clear tok2; refine (momentP _ _).mono ?_; rintro e w1 ⟨b2, rfl, hn1, hle1, hb1⟩; replace hK := hK.call hb1 hle1 hn1; clear hn1 hle1 hb1)
    | (go_at_call 64; clear tok3; refine (momentP _ _).mono ?_; rintro e w1 ⟨b3, rfl, hn1, hle1, hb1⟩; replace hK := hK.call hb1 hle1 hn1; clear hn1 hle1 hb1)
    | (refine wpList_insert_I (n := 1) (u := kindV 1 false (momV b1)) (by rfl) (.tmp 1) _ _ rfl Tryd.underlying91 Tryd.underlying3 hK.map (by rfl) rfl (by rfl) (by rfl) (by rfl) ?_; intro w2 hM hg; replace hK := hK.insert hM hg; clear hM hg)
    | (refine wpList_insert_I (n := 2) (u := kindV 1 false (momV b2)) (by rfl) (.tmp 1) _ _ rfl Tryd.underlying91 Tryd.underlying3 hK.map (by rfl) rfl (by rfl) (by rfl) (by rfl) ?_; intro w2 hM hg; replace hK := hK.insert hM hg; clear hM hg)
    | (refine wpList_insert_I (n := 3) (u := kindV 1 false (momV b3)) (by rfl) (.tmp 1) _ _ rfl Tryd.underlying91 Tryd.underlying3 hK.map (by rfl) rfl (by rfl) (by rfl) (by rfl) ?_; intro w2 hM hg; replace hK := hK.insert hM hg; clear hM hg)
    | (refine wpList_insert_I (n := 4) (u := kindV 16 true (.func (.func 68) #[] #[])) (by rfl) (.tmp 1) _ _ rfl Tryd.underlying91 Tryd.underlying3 hK.map (by rfl) rfl (by rfl) (by rfl) (by rfl) ?_; intro w2 hM hg; replace hK := hK.insert hM hg; clear hM hg)
    | (refine wpList_insert_I (n := 5) (u := kindV 16 true (.func (.func 68) #[] #[])) (by rfl) (.tmp 1) _ _ rfl Tryd.underlying91 Tryd.underlying3 hK.map (by rfl) rfl (by rfl) (by rfl) (by rfl) ?_; intro w2 hM hg; replace hK := hK.insert hM hg; clear hM hg)
    | (refine wpList_insert_I (n := 6) (u := kindV 16 true (.func (.func 68) #[] #[])) (by rfl) (.tmp 1) _ _ rfl Tryd.underlying91 Tryd.underlying3 hK.map (by rfl) rfl (by rfl) (by rfl) (by rfl) ?_; intro w2 hM hg; replace hK := hK.insert hM hg; clear hM hg)
    | (refine wpList_insert_I (n := 7) (u := kindV 32 false (.func (.func 69) #[] #[])) (by rfl) (.tmp 1) _ _ rfl Tryd.underlying91 Tryd.underlying3 hK.map (by rfl) rfl (by rfl) (by rfl) (by rfl) ?_; intro w2 hM hg; replace hK := hK.insert hM hg; clear hM hg))
  go_ret
  exact ⟨w.heap.size, b1, b2, b3, rfl, hK⟩
/-- What the table says of a kind: by number; of the functions, which. -/
def narrowF (k : Int) : Bool := decide (4 ≤ k ∧ k ≤ 6)
def boundV (b1 b2 b3 : Nat) (k : Int) : Value := if k = 1 then momV b1 else if k = 2 then momV b2 else if k = 3 then momV b3 else if 4 ≤ k ∧ k ≤ 6 then .func (.func 68) #[] #[] else if k = 7 then .func (.func 69) #[] #[] else .nilFunc
theorem kinds_find (b1 b2 b3 : Nat) (k : Int) : (findI k (kindsE b1 b2 b3)).getD (kindV 0 false .nilFunc) = kindV (sumsC k) (narrowF k) (boundV b1 b2 b3 k) := by
  by_cases h : 1 ≤ k ∧ k ≤ 7
  · rcases (by omega : k = 1 ∨ k = 2 ∨ k = 3 ∨ k = 4 ∨ k = 5 ∨ k = 6 ∨ k = 7) with rfl | rfl | rfl | rfl | rfl | rfl | rfl <;> rfl
  · have hn : findI k (kindsE b1 b2 b3) = none := by
      unfold kindsE keyI
      simp only [findI]
      repeat (rw [if_neg (by omega)])
    rw [hn]
    unfold sumsC narrowF boundV
    rw [if_neg (by omega), if_neg (by omega), if_neg (by omega), if_neg (by omega), if_neg (by omega), if_neg (by omega), if_neg (by omega), if_neg (by omega), decide_eq_false (by omega)]
    rfl
theorem kinds_look {W : World} {b b1 b2 b3 : Nat} (h : MapIs W b (kindsE b1 b2 b3)) (k : Int) : (Instr.lookup 91 (.map (some b)) (.int .i64 k) false).run Tryd.prog W = .ok (.agg #[.int .i64 (sumsC k), .bool (narrowF k), boundV b1 b2 b3 k]) W := by
  have := run_lookup_I Tryd.underlying91 Tryd.underlying3 h rfl (z := kindV 0 false .nilFunc) (by kernel_rfl) k false
  rw [kinds_find] at this
  exact this
def q13A : List FRow := [(0, ([], (4, []))), (1, ([], (5, [1]))), (2, ([1], (6, [4]))), (3, ([0, 2], (7, [3, 5]))), (4, ([3], (8, [6]))), (5, ([4, 0, 0, 1, 2, 3, 4], (3, [7])))]
set_option maxRecDepth 100000 in
set_option maxHeartbeats 2000000 in
theorem sumsP {q : Qy} {A : Option Addr} {c : Nat} (w : World) : Calls Tryd.prog 34 #[(.agg #[.int .i64 q.kind, .int .i64 q.col, .int .i64 q.k, .slice A q.fs.length c])] w fun e w' => e = .returned (.int .i64 (sumsC q.kind)) ∧ Below w.heap.size w w' := by
  go_enter Tryd.func34, Tryd.ntmps34
  go_upto_region 1 with fail
  refine wp_world (F := fun wx => Below w.heap.size w wx ∧ Hid (wx.heap[w.heap.size]? = some (.cells #[.int .i64 q.kind, .int .i64 q.col, .int .i64 q.k, .slice A q.fs.length c] 24 (0, 0)))) ⟨(Below.refl _ _).alloc (Nat.le_refl _) _, Lib.hid (heap_alloc_at rfl)⟩ ?_
  rintro wr ⟨bb, gq⟩
  have b0 := Lib.hid bb
  have zq : ∀ W, Below wr.heap.size wr W → _ ∧ _ ∧ _ ∧ _ := fun W hW => row4 (mvQ gq hW)
  have br : Below wr.heap.size wr wr := Below.refl _ _
  have ba : ∀ W o, Below wr.heap.size wr W → Below wr.heap.size wr (W.alloc o) := fun W o h => h.alloc h.size o
  have bc : ∀ W W', Below wr.heap.size wr W → Below W.heap.size W W' → Below wr.heap.size wr W' := fun W W' h k => h.trans (k.mono h.size)
  have hf : ∀ a b c w, (Instr.field 90 (.agg #[.int .i64 a, .bool b, c]) 0).run Tryd.prog w = .ok (.int .i64 a) w := fun _ _ _ _ => by kernel_rfl
  clear bb
  refine wp_region_noPanic ?_
  refine wp_region_held_drew (S := fun X => Below wr.heap.size wr X) (by kernel_rfl) ?_ (fun hHeld => ?_)
  · (first | with_reducible assumption | (with_reducible refine Below.drew ?_; with_reducible assumption) | (with_reducible refine ba _ _ ?_; with_reducible assumption) | (with_reducible refine Below.drew ?_; with_reducible refine ba _ _ ?_; with_reducible assumption) | exact Below.refl _ _ | exact (Below.refl _ _).drew | exact (Below.refl _ _).alloc (Nat.le_refl _) _ | (refine bc _ _ (by assumption) (by assumption)))
  refine RegOk.begin_ (n := 6) (T := q13A) ⟨by kernel_rfl, by kernel_rfl, by kernel_rfl, by kernel_rfl⟩ fun hR => ?_
  refine hR.take (i := 1) (oi := ?ow475_1) (v := ?vw475_1) (m' := 2) ?hw475_1 (by kernel_rfl) (by kernel_rfl) (fun _ _ _ h => h) (Or.inl ⟨?sw475_1, ?yw475_1⟩) (by assumption) ?nw475_1
  case hw475_1 => simp only [List.getElem?_toArray, List.getElem?_cons_succ, List.getElem?_cons_zero]; rfl
  case sw475_1 => rfl
  case yw475_1 => (intro w hSw; (try dsimp only at hSw); go_simp <;> with_reducible rfl)
  try simp only [Act.put, List.setIfInBounds_toArray, List.set_cons_zero, List.set_cons_succ]
  refine hR.take (i := 2) (oi := ?ow476_2) (v := ?vw476_2) (m' := 6) ?hw476_2 (by kernel_rfl) (by kernel_rfl) (fun _ _ _ h => h) (Or.inl ⟨?sw476_2, ?yw476_2⟩) (by assumption) ?nw476_2
  case hw476_2 => simp only [List.getElem?_toArray, List.getElem?_cons_succ, List.getElem?_cons_zero]; rfl
  case sw476_2 => rfl
  case yw476_2 => (intro w hSw; (try dsimp only at hSw); go_simp <;> with_reducible rfl)
  try simp only [Act.put, List.setIfInBounds_toArray, List.set_cons_zero, List.set_cons_succ]
  refine hR.come (rs := [0]) (by kernel_rfl) (by simp) ?_
  refine AllReadyH.cons (o := ?o477_0) ?h477_0 (fun K hK => ?kw477_0) AllReadyH.nil
  case h477_0 => simp only [List.getElem?_toArray, List.getElem?_cons_succ, List.getElem?_cons_zero]; rfl
  go_simp
  go_at_call 50; refine (kindsP _).mono ?_; rintro e w1 ⟨b, b1, b2, b3, rfl, hK1⟩; have hk1 := bc _ _ (by (first | with_reducible assumption | (with_reducible refine Below.drew ?_; with_reducible assumption) | (with_reducible refine ba _ _ ?_; with_reducible assumption) | (with_reducible refine Below.drew ?_; with_reducible refine ba _ _ ?_; with_reducible assumption) | exact Below.refl _ _ | exact (Below.refl _ _).drew | exact (Below.refl _ _).alloc (Nat.le_refl _) _ | (refine bc _ _ (by assumption) (by assumption)))) hK1.bel; have zl := fun W (hW : Below w1.heap.size w1 W) => kinds_look (hK1.map.below hW) q.kind
  refine hK.out _ _ ?_ (fun hHeld => ?_)
  · (first | with_reducible assumption | (with_reducible refine Below.drew ?_; with_reducible assumption) | (with_reducible refine ba _ _ ?_; with_reducible assumption) | (with_reducible refine Below.drew ?_; with_reducible refine ba _ _ ?_; with_reducible assumption) | exact Below.refl _ _ | exact (Below.refl _ _).drew | exact (Below.refl _ _).alloc (Nat.le_refl _) _ | (refine bc _ _ (by assumption) (by assumption)))
  clear hK K
  refine RegOk.put_ (m' := 7) (by kernel_rfl) ?_
  try simp only [Act.put, List.setIfInBounds_toArray, List.set_cons_zero, List.set_cons_succ]
  refine wpAnyH_base hHeld fun hH5 => ?_
  refine hR.take (i := 3) (oi := ?ow478_3) (v := ?vw478_3) (m' := 15) ?hw478_3 (by kernel_rfl) (by kernel_rfl) (fun _ _ _ h => h) (Or.inl ⟨?sw478_3, ?yw478_3⟩) (by assumption) ?nw478_3
  case hw478_3 => simp only [List.getElem?_toArray, List.getElem?_cons_succ, List.getElem?_cons_zero]; rfl
  case sw478_3 => rfl
  case yw478_3 => (intro w hSw; (try dsimp only at hSw); go_simp <;> with_reducible rfl)
  try simp only [Act.put, List.setIfInBounds_toArray, List.set_cons_zero, List.set_cons_succ]
  refine hR.take (i := 4) (oi := ?ow479_4) (v := ?vw479_4) (m' := 31) ?hw479_4 (by kernel_rfl) (by kernel_rfl) (fun _ _ _ h => h) (Or.inl ⟨?sw479_4, ?yw479_4⟩) (by assumption) ?nw479_4
  case hw479_4 => simp only [List.getElem?_toArray, List.getElem?_cons_succ, List.getElem?_cons_zero]; rfl
  case sw479_4 => rfl
  case yw479_4 => (intro w hSw; (try dsimp only at hSw); go_simp <;> with_reducible rfl)
  try simp only [Act.put, List.setIfInBounds_toArray, List.set_cons_zero, List.set_cons_succ]
  refine hR.take (i := 5) (oi := ?ow480_5) (v := ?vw480_5) (m' := 63) ?hw480_5 (by kernel_rfl) (by kernel_rfl) (fun _ _ _ h => h) (Or.inl ⟨?sw480_5, ?yw480_5⟩) (by assumption) ?nw480_5
  case hw480_5 => simp only [List.getElem?_toArray, List.getElem?_cons_succ, List.getElem?_cons_zero]; rfl
  case sw480_5 => rfl
  case yw480_5 => (intro w hSw; (try dsimp only at hSw); go_simp <;> with_reducible rfl)
  try simp only [Act.put, List.setIfInBounds_toArray, List.set_cons_zero, List.set_cons_succ]
  refine hR.all (by kernel_rfl) ?_ _
  refine NoPanic.normal ?_
  go_wp2_with fail
  go_ret
  exact ⟨rfl, b0.out.trans (hk1.mono b0.out.size)⟩
end Go.Proofs.YtmkpaolbejlodaaDoor
namespace Go.Proofs.YtmkpaolbejlodaaDoor
open Go.RowKit

theorem bound_mom {q : Qy} {rows : Int} (h : q.kind ≤ 3) : boundF q rows = momF (fl q 0) q.col rows (expF q) := by unfold boundF momF; rw [if_pos h]
theorem bound_cnt {q : Qy} {rows : Int} (h : 4 ≤ q.kind) (h6 : q.kind ≤ 6) : boundF q rows = (bucketsF (fl q 0) q.col rows, true) := by unfold boundF; rw [if_neg (by omega), if_pos h6]
/-- Bounds and the number of an error. -/
def CheckRes (w : World) (p : List Int × Int) (e : Ending) (w' : World) : Prop :=
  ∃ B d, e = .returned (.tuple #[.agg #[.slice B p.1.length d], .int .i64 p.2]) ∧ Sl .i64 (fun b => w.heap.size ≤ b) w' B d p.1 ∧ Below w.heap.size w w'
theorem one {W : World} {g : Nat} {u : Value} {t : TypeId} (h : Hid (W.heap[g]? = some (.cells #[u] t (0, 0)))) : W.cell? ⟨g, 0, none⟩ = some u ∧ W.frozen? ⟨g, 0, none⟩ = false ∧ g < W.heap.size :=
  ⟨cell_of_row _ _ 0 _ _ _ h.out, by simp [World.frozen?, h.out], heap_lt h.out⟩
def bF (k : Int) : FuncId := if k ≤ 3 then 76 else if k ≤ 6 then 68 else 69
def bC (b1 b2 b3 : Nat) (k : Int) : Array Value := if k = 1 then #[.pointer (some ⟨b1, 0, none⟩)] else if k = 2 then #[.pointer (some ⟨b2, 0, none⟩)] else if k = 3 then #[.pointer (some ⟨b3, 0, none⟩)] else #[]
end Go.Proofs.YtmkpaolbejlodaaDoor
namespace Go.Proofs.YtmkpaolbejlodaaDoor
open Go.RowKit

theorem bitsRef (c : Int) (w : World) : Calls Tryd.prog 43 #[.int .i64 c] w fun e w' => e = .returned (.int .i64 (bitsC c)) ∧ w = w' := by
  by_cases h : 0 ≤ c ∧ c ≤ 4
  · rcases (by omega : c = 0 ∨ c = 1 ∨ c = 2 ∨ c = 3 ∨ c = 4) with rfl | rfl | rfl | rfl | rfl
    all_goals
      go_enter Tryd.func43, Tryd.ntmps43
      go_wp2_with fail
      go_ret
      exact ⟨rfl, rfl⟩
  · have e : bitsC c = 0 := by unfold bitsC; rw [if_neg (by omega), if_neg (by omega), if_neg (by omega)]
    have g0 := beqF (show ¬ c = 0 by omega)
    have g1 := beqF (show ¬ c = 1 by omega)
    have g2 := beqF (show ¬ c = 2 by omega)
    have g3 := beqF (show ¬ c = 3 by omega)
    have g4 := beqF (show ¬ c = 4 by omega)
    rw [e]
    clear e h
    go_enter Tryd.func43, Tryd.ntmps43
    go_wp2_with fail
    go_ret
    exact ⟨rfl, rfl⟩
end Go.Proofs.YtmkpaolbejlodaaDoor
namespace Go.Proofs.YtmkpaolbejlodaaDoor
open Go.RowKit

/-- 'x & m' lies between 0 and m. -/
theorem and_bd (x : Int) (m : Nat) (hm : m ≤ 65535) : ∃ r : Nat, bits BinOp.and IntKind.i64 x (m : Int) = (r : Int) ∧ r ≤ m := by
  have h2 : (BitVec.ofInt 64 (m : Int)).toNat = m := by
    rw [BitVec.ofInt_natCast, BitVec.toNat_ofNat]; exact Nat.mod_eq_of_lt (by omega)
  obtain ⟨r, hr⟩ : ∃ r, (BitVec.ofInt 64 x &&& BitVec.ofInt 64 (m : Int)).toNat = r := ⟨_, rfl⟩
  have hle : r ≤ m := by rw [← hr, BitVec.toNat_and, h2]; exact Nat.and_le_right
  refine ⟨r, ?_, hle⟩
  show IntKind.i64.wrap ((BitVec.ofInt 64 x &&& BitVec.ofInt 64 (m : Int)).toNat : Int) = _
  rw [hr]
  exact IntWalk.i64_in (r : Int) (by omega)
theorem tmod_bd (a m : Nat) (hm : 0 < m) : ∃ r : Nat, (a : Int).tmod (m : Int) = (r : Int) ∧ r < m := ⟨a % m, rfl, Nat.mod_lt _ hm⟩
set_option maxHeartbeats 2000000 in
theorem same15 {xs ys : List Int} {A B : Option Addr} {c d : Nat} {S T : Nat → Prop} (w : World) (h : Sl .i64 S w A c xs) (k : Sl .i64 T w B d ys) :
    Calls Tryd.prog 17 #[.slice A xs.length c, .slice B ys.length d] w fun e w' => e = .returned (.bool (decide (xs = ys))) ∧ Below w.heap.size w w' := by
  have hmx := h.max
  have hmy := k.max
  have H := Lib.hid h
  have K := Lib.hid k
  clear h k
  by_cases hl : xs.length = ys.length
  · have hlx : ((xs.length : Int) != (ys.length : Int)) = false := by rw [hl]; simp
    have hl0 := Lib.hid hl
    clear hl
    go_enter Tryd.func17, Tryd.ntmps17
    go_wp2_with fail
    go_loopw [5] (fun i wr => ∃ j : Nat, j ≤ xs.length ∧ i = .int .i64 j ∧ Hid (xs.take j = ys.take j) ∧ Below w.heap.size w wr) (fun i _ => xs.length - (intOf i).toNat)
    case atStart => exact ⟨0, Nat.zero_le _, rfl, Lib.hid rfl, Below.refl _ _⟩
    case round =>
      obtain ⟨j, hj, rfl, ht, hb⟩ := hrel
      have B1 := Lib.hid hb
      clear hb
      have hj0 : (0 : Int) ≤ (j : Int) := by omega
      by_cases hlt : j < xs.length
      · obtain ⟨x, hx⟩ : ∃ x, xs[j]? = some x := ⟨_, List.getElem?_eq_getElem hlt⟩
        obtain ⟨y, hy⟩ : ∃ y, ys[j]? = some y := ⟨_, List.getElem?_eq_getElem (by have := hl0.out; omega)⟩
        obtain ⟨b2, o2, rfl, -, hb2, x0⟩ := i64_at (H.out.keep (Below.agree B1.out)) hx
        obtain ⟨b3, o3, rfl, -, hb3, y0⟩ := i64_at (K.out.keep (Below.agree B1.out)) hy
        have hj1 : (j : Int) < (xs.length : Int) := by omega
        have hj2 : (j : Int) < (ys.length : Int) := by have := hl0.out; omega
        have Hx := Lib.hid hx
        have Hy := Lib.hid hy
        clear hx hy
        by_cases hxy : x = y
        · have hn : (x != y) = false := by simp [hxy]
          have Hxy := Lib.hid hxy
          clear hxy
          go_wp2_with fail
          go_quiet (fail)
          go_wp2_with fail
          go_roundw
          case rel => exact ⟨j + 1, by omega, by go_num, Lib.hid (by rw [take_snocR Hx.out, take_snocR Hy.out, ht.out, Hxy.out]), below_drewN B1.out _⟩
          case measure => simp [intOf]; omega
        · have hn : (x != y) = true := by simp [hxy]
          have hf := Lib.hid (show decide (xs = ys) = false from decide_eq_false fun e => hxy (by have h1 := Hx.out; rw [e, Hy.out] at h1; injection h1 with h1; exact h1.symm))
          clear hxy
          go_wp2_with fail
          go_quiet (fail)
          go_wp2_with fail
          go_ret
          exact ⟨ret_b hf.out.symm, below_drewN B1.out _⟩
      · have hj1 : ¬ (j : Int) < (xs.length : Int) := by omega
        have he := Lib.hid (show decide (xs = ys) = true from decide_eq_true (by have h1 := ht.out; rw [List.take_of_length_le (by omega), List.take_of_length_le (by have := hl0.out; omega)] at h1; exact h1))
        go_wp2_with fail
        go_ret
        exact ⟨ret_b he.out.symm, B1.out⟩
  · have hlx : ((xs.length : Int) != (ys.length : Int)) = true := by simp; omega
    have hf : decide (xs = ys) = false := decide_eq_false fun e => hl (by rw [e])
    rw [hf]
    clear hl hf
    go_enter Tryd.func17, Tryd.ntmps17
    go_wp2_with fail
    go_ret
    exact ⟨rfl, Below.refl _ _⟩
set_option maxHeartbeats 2000000 in
theorem madeCdP (c : Cd) (w : World) : Calls Tryd.prog 26 #[(.agg #[.int .i64 c.col, .int .i64 c.lo, .int .i64 c.hi])] w fun e w' => ∃ x : Cd, ValidCd x ∧ e = .returned (.agg #[.int .i64 x.col, .int .i64 x.lo, .int .i64 x.hi]) ∧ Below w.heap.size w w' := by
  obtain ⟨k, hk, hk3⟩ : ∃ r : Nat, bits BinOp.and IntKind.i64 c.col 3 = (r : Int) ∧ r ≤ 3 := and_bd c.col 3 (by omega)
  obtain ⟨a, ha, ha3⟩ : ∃ r : Nat, bits BinOp.and IntKind.i64 c.lo 65535 = (r : Int) ∧ r ≤ 65535 := and_bd c.lo 65535 (by omega)
  obtain ⟨b, hb, hb3⟩ : ∃ r : Nat, bits BinOp.and IntKind.i64 c.hi 65535 = (r : Int) ∧ r ≤ 65535 := and_bd c.hi 65535 (by omega)
  have hM0 := maxC_pos (k : Int)
  obtain ⟨M, hM⟩ : ∃ M : Nat, maxC (k : Int) = M := ⟨(maxC (k : Int)).toNat, by omega⟩
  rw [hM] at hM0
  obtain ⟨r, hr, hrM⟩ := tmod_bd a (M + 1) (by omega)
  obtain ⟨s, hs, hsM⟩ := tmod_bd b (M + 1) (by omega)
  have hr' : (a : Int).tmod ((M : Int) + 1) = (r : Int) := hr
  have hs' : (b : Int).tmod ((M : Int) + 1) = (s : Int) := hs
  have hMM := Lib.hid hM
  clear hM hr hs
  rcases (by omega : s < r ∨ r < s ∨ r = s) with h | h | h
  · have g1 : (s : Int) < (r : Int) := by omega
    have g2 : ¬ (r : Int) < (s : Int) := by omega
    (try subst h)
    go_enter Tryd.func26, Tryd.ntmps26
    go_wp2_with (go_at_call 27; refine (maxRef _ _).mono ?_; rw [hMM.out]; rintro e w2 ⟨rfl, rfl⟩)
    go_quiet (fail)
    go_wp2_with fail
    exact bodyPost_ret (v := .agg #[.int .i64 k, .int .i64 s, .int .i64 r]) (by simp [results, Tryd.results26, go_sem, *]) rfl ⟨⟨k, s, r⟩, ⟨⟨by dsimp only; omega, by dsimp only; omega⟩, by dsimp only; omega, by dsimp only; omega, by dsimp only; rw [hMM.out]; omega⟩, rfl, (by repeat' (first | with_reducible exact Below.refl _ _ | with_reducible assumption | with_reducible refine Below.setCell ?_ ?_ _ | with_reducible refine Below.drew ?_ | with_reducible refine below_drewN ?_ _ | with_reducible refine Below.alloc ?_ ?_ _ | (rintro _ ⟨⟩; simp <;> omega) | omega | (simp <;> omega)))⟩
  · have g1 : (r : Int) < (s : Int) := by omega
    have g2 : ¬ (s : Int) < (r : Int) := by omega
    (try subst h)
    go_enter Tryd.func26, Tryd.ntmps26
    go_wp2_with (go_at_call 27; refine (maxRef _ _).mono ?_; rw [hMM.out]; rintro e w2 ⟨rfl, rfl⟩)
    go_quiet (fail)
    go_wp2_with fail
    exact bodyPost_ret (v := .agg #[.int .i64 k, .int .i64 r, .int .i64 s]) (by simp [results, Tryd.results26, go_sem, *]) rfl ⟨⟨k, r, s⟩, ⟨⟨by dsimp only; omega, by dsimp only; omega⟩, by dsimp only; omega, by dsimp only; omega, by dsimp only; rw [hMM.out]; omega⟩, rfl, (by repeat' (first | with_reducible exact Below.refl _ _ | with_reducible assumption | with_reducible refine Below.setCell ?_ ?_ _ | with_reducible refine Below.drew ?_ | with_reducible refine below_drewN ?_ _ | with_reducible refine Below.alloc ?_ ?_ _ | (rintro _ ⟨⟩; simp <;> omega) | omega | (simp <;> omega)))⟩
  · have g1 : ¬ (r : Int) < (r : Int) := by omega
    have g2 : ¬ (r : Int) < (r : Int) := by omega
    (try subst h)
    go_enter Tryd.func26, Tryd.ntmps26
    go_wp2_with (go_at_call 27; refine (maxRef _ _).mono ?_; rw [hMM.out]; rintro e w2 ⟨rfl, rfl⟩)
    go_quiet (fail)
    go_wp2_with fail
    exact bodyPost_ret (v := .agg #[.int .i64 k, .int .i64 r, .int .i64 r]) (by simp [results, Tryd.results26, go_sem, *]) rfl ⟨⟨k, r, r⟩, ⟨⟨by dsimp only; omega, by dsimp only; omega⟩, by dsimp only; omega, by dsimp only; omega, by dsimp only; rw [hMM.out]; omega⟩, rfl, (by repeat' (first | with_reducible exact Below.refl _ _ | with_reducible assumption | with_reducible refine Below.setCell ?_ ?_ _ | with_reducible refine Below.drew ?_ | with_reducible refine below_drewN ?_ _ | with_reducible refine Below.alloc ?_ ?_ _ | (rintro _ ⟨⟩; simp <;> omega) | omega | (simp <;> omega)))⟩
end Go.Proofs.YtmkpaolbejlodaaDoor
namespace Go.Proofs.YtmkpaolbejlodaaDoor
open Go.RowKit

/-- A query that the call made. -/
def QyRes (P : Qy → Prop) (w : World) (e : Ending) (w' : World) : Prop :=
  ∃ x : Qy, ValidQ x ∧ P x ∧ ∃ B d, e = .returned (.agg #[.int .i64 x.kind, .int .i64 x.col, .int .i64 x.k, .slice B x.fs.length d]) ∧ Sl cdE.slice (fun b => w.heap.size ≤ b) w' B d x.fs ∧ Below w.heap.size w w'
def OwnS (N : Nat) (v : Value) (b : Nat) : Prop := N ≤ b ∧ ∀ k, v.ownBlock = some k → b ≠ k
/-- The same, its filters in a row of the call's own. -/
def QyOwn (P : Qy → Prop) (w : World) (e : Ending) (w' : World) : Prop :=
  ∃ x : Qy, ValidQ x ∧ P x ∧ ∃ B d, e = .returned (.agg #[.int .i64 x.kind, .int .i64 x.col, .int .i64 x.k, .slice B x.fs.length d]) ∧ Own cdE.slice (OwnS w.heap.size (.slice B x.fs.length d)) w' w.heap.size 49 (.slice B x.fs.length d) x.fs ∧ Below w.heap.size w w'
theorem QyOwn.res {P : Qy → Prop} {w : World} {e : Ending} {w' : World} (h : QyOwn P w e w') : QyRes P w e w' := by
  obtain ⟨x, hv, hp, B, d, he, ho, hb⟩ := h
  exact ⟨x, hv, hp, B, d, he, ho.toSl (fun b h _ => h.1) (fun b h _ _ => h), hb⟩
/-- The three boxes of Made. -/
structure MB (w0 : World) (q : Qy) (A : Option Addr) (c : Nat) (u v x y : Value) (wx : World) : Prop where
  bel : Below w0.heap.size w0 wx
  qc : wx.heap[w0.heap.size]? = some (.cells #[.int .i64 q.kind, .int .i64 q.col, .int .i64 q.k, .slice A q.fs.length c] 24 (0, 0))
  rc : wx.heap[w0.heap.size + 1]? = some (.cells #[.int .i64 0, .int .i64 0, .int .i64 0, .slice none 0 0] 24 (0, 0))
  ob : wx.heap[w0.heap.size + 1 + 1]? = some (.cells #[u, v, x, y] 24 (0, 0))
section
variable {w0 wx w' : World} {q : Qy} {A : Option Addr} {c : Nat} {u v x y z : Value}
theorem MB.lt (h : MB w0 q A c u v x y wx) : w0.heap.size + 3 ≤ wx.heap.size := heap_lt h.ob
theorem MB.keep (h : MB w0 q A c u v x y wx) (hs : wx.heap.size ≤ w'.heap.size) (hb : Below w0.heap.size w0 w') (hk : ∀ b, b < w0.heap.size + 3 → w'.heap[b]? = wx.heap[b]?) : MB w0 q A c u v x y w' :=
  ⟨hb, (hk _ (by omega)).trans h.qc, (hk _ (by omega)).trans h.rc, (hk _ (by omega)).trans h.ob⟩
theorem MB.call (h : MB w0 q A c u v x y wx) (hb : Below wx.heap.size wx w') : MB w0 q A c u v x y w' :=
  h.keep hb.size (h.bel.trans (hb.mono h.bel.size)) fun b hlt => hb.block b (Nat.lt_of_lt_of_le hlt h.lt)
theorem MB.grown (h : MB w0 q A c u v x y wx) {row : Option Nat} (hg : wx.grownBy w' row) (hr : ∀ k, row = some k → w0.heap.size + 3 ≤ k) : MB w0 q A c u v x y w' :=
  h.keep hg.size (h.bel.grown hg h.bel.size fun k hk => by have := hr k hk; omega) fun b hlt => hg.block b (Nat.lt_of_lt_of_le hlt h.lt) fun e => by have := hr b e.symm; omega
theorem MB.set1 (h : MB w0 q A c u v x y wx) : MB w0 q A c u z x y (wx.setCell ⟨w0.heap.size + 1 + 1, 1, none⟩ z) :=
  ⟨h.bel.setCell (by simp; omega) _, (Below.heap_setCell _ _ _ _ (by simp; omega)).trans h.qc, (Below.heap_setCell _ _ _ _ (by simp)).trans h.rc, heap_set (i := 1) h.ob⟩
theorem MB.set2 (h : MB w0 q A c u v x y wx) : MB w0 q A c u v z y (wx.setCell ⟨w0.heap.size + 1 + 1, 2, none⟩ z) :=
  ⟨h.bel.setCell (by simp; omega) _, (Below.heap_setCell _ _ _ _ (by simp; omega)).trans h.qc, (Below.heap_setCell _ _ _ _ (by simp)).trans h.rc, heap_set (i := 2) h.ob⟩
theorem MB.set3 (h : MB w0 q A c u v x y wx) : MB w0 q A c u v x z (wx.setCell ⟨w0.heap.size + 1 + 1, 3, none⟩ z) :=
  ⟨h.bel.setCell (by simp; omega) _, (Below.heap_setCell _ _ _ _ (by simp; omega)).trans h.qc, (Below.heap_setCell _ _ _ _ (by simp)).trans h.rc, heap_set (i := 3) h.ob⟩
theorem MB.drew (h : MB w0 q A c u v x y wx) : MB w0 q A c u v x y wx.drew := ⟨h.bel.drew, h.qc, h.rc, h.ob⟩
theorem MB.drewN (h : MB w0 q A c u v x y wx) (n : Nat) : MB w0 q A c u v x y (wx.drewN n) := ⟨below_drewN h.bel n, h.qc, h.rc, h.ob⟩
theorem frz {W : World} {g : Nat} {cs : Array Value} {t : TypeId} (h : W.heap[g]? = some (.cells cs t (0, 0))) (o : Nat) : W.frozen? ⟨g, o, none⟩ = false := by simp [World.frozen?, h]
end
theorem cdsT : SlT Tryd.prog 49 58 cdE 24 := ⟨Tryd.underlying49, by kernel_rfl, by decide⟩
theorem cfsT : SlT Tryd.prog 22 49 cdE.slice 24 := ⟨Tryd.underlying22, by kernel_rfl, by decide⟩
def FtS (B : Nat) (v : Value) (b : Nat) : Prop := B ≤ b ∧ ∀ k, v.ownBlock = some k → b ≠ k
/-- What the loop over the filters keeps. -/
structure MIn (w : World) (q : Qy) (A : Option Addr) (c : Nat) (u v x : Value) (fs : List (List Cd)) (s : Value) (wr : World) : Prop where
  ok : ∀ l ∈ fs, ValidFlt l
  mb : MB w q A c u v x s wr
  own : Own cdE.slice (FtS (w.heap.size + 3) s) wr (w.heap.size + 3) 49 s fs
theorem MIn.app {w wr wx w6 : World} {q : Qy} {A : Option Addr} {c : Nat} {u v x : Value} {fs : List (List Cd)} {ys : List Cd} {s s' : Value} {o : Obj} (h : MIn w q A c u v x fs s wr) (hy : ValidFlt ys) (hb : Below wr.heap.size wr wx)
    (ho : Own cdE.slice (fun b => FtS (w.heap.size + 3) s b ∧ b ≤ wx.heap.size) w6 (w.heap.size + 3) 49 s' (fs ++ [ys])) (hg : (wx.alloc o).grownBy w6 s.ownBlock) (hor : ∀ g, s'.ownBlock = some g → s.ownBlock = some g ∨ (wx.alloc o).heap.size = g) :
    MIn w q A c u v x (fs ++ [ys]) s' (w6.setCell ⟨w.heap.size + 1 + 1, 3, none⟩ s') := by
  have hz := hg.size
  have hlo := h.own.lt
  have hl := h.mb.lt
  have hbz := hb.size
  simp at hz
  have hm : MB w q A c u v x s w6 := (h.mb.call (hb.alloc hb.size _)).grown hg fun k hk => (hlo k hk).1
  refine ⟨fun l hl => ?_, hm.set3, (ho.sub fun b hb1 _ => ?_).set ?_ ?_ _⟩
  · rcases List.mem_append.1 hl with h1 | h1
    · exact h.ok l h1
    · simp at h1; subst h1; exact hy
  · obtain ⟨⟨h1, h2⟩, h3⟩ := hb1
    refine ⟨h1, fun k hk => ?_⟩
    rcases hor k hk with h6 | h6
    · exact h2 k h6
    · simp at h6; omega
  · intro e
    rcases hor _ e with h6 | h6
    · have := (hlo _ h6).1; simp at this; omega
    · simp at h6; omega
  · intro hS
    have := hS.1
    simp at this; omega
set_option maxRecDepth 100000 in
set_option maxHeartbeats 8000000 in
theorem made13O {q : Qy} {A : Option Addr} {c : Nat} {S : Nat → Prop} (w : World) (h : Sl cdE.slice S w A c q.fs) : Calls Tryd.prog 30 #[(.agg #[.int .i64 q.kind, .int .i64 q.col, .int .i64 q.k, .slice A q.fs.length c])] w (QyOwn (fun _ => True) w) := by
  obtain ⟨a, ha, ha3⟩ : ∃ r : Nat, bits BinOp.and IntKind.i64 q.kind 255 = (r : Int) ∧ r ≤ 255 := and_bd q.kind 255 (by omega)
  obtain ⟨ca, hca, hca3⟩ : ∃ r : Nat, bits BinOp.and IntKind.i64 q.col 3 = (r : Int) ∧ r ≤ 3 := and_bd q.col 3 (by omega)
  obtain ⟨ka, hka, hka3⟩ : ∃ r : Nat, bits BinOp.and IntKind.i64 q.k 65535 = (r : Int) ∧ r ≤ 65535 := and_bd q.k 65535 (by omega)
  obtain ⟨r7, hr7, hr7l⟩ : ∃ r : Nat, (a : Int).tmod 7 = (r : Int) ∧ r < 7 := tmod_bd a 7 (by omega)
  have hm := h.max
  have H := Lib.hid h
  clear h
  obtain ⟨kd, hkd⟩ : ∃ kd : Int, 1 + (r7 : Int) = kd := ⟨_, rfl⟩
  have hkd1 : 1 ≤ kd := by omega
  have hkd7 : kd ≤ 7 := by omega
  go_enter Tryd.func30, Tryd.ntmps30
  go_upto_region 2 with fail
  refine wp_world (F := fun wx => MB w q A c (.int .i64 kd) (.int .i64 0) (.int .i64 0) (.slice none 0 0) wx) ⟨(by repeat' (first | with_reducible exact Below.refl _ _ | with_reducible assumption | with_reducible refine Below.setCell ?_ ?_ _ | with_reducible refine Below.drew ?_ | with_reducible refine below_drewN ?_ _ | with_reducible refine Below.alloc ?_ ?_ _ | (rintro _ ⟨⟩; simp <;> omega) | omega | (simp <;> omega))), (Below.heap_alloc _ _ _ (by simp; omega)).trans ((Below.heap_alloc _ _ _ (by simp)).trans (heap_alloc_at rfl)), (Below.heap_alloc _ _ _ (by simp)).trans (heap_alloc_at (by simp)), heap_alloc_at (by simp)⟩ ?_
  intro w1 hM
  clear hr7 hr7l ha ha3 hkd
  have HM := Lib.hid hM
  clear hM
  have hmk : maxKF kd = 0 ∨ maxKF kd = 6 ∨ maxKF kd = 65536 := by unfold maxKF; split; exact .inr (.inl rfl); split; exact .inr (.inr rfl); exact .inl rfl
  (obtain ⟨x0, x1, x2, x3⟩ := row4 (Lib.hid HM.out.qc); obtain ⟨o0, o1, o2, o3⟩ := row4 (Lib.hid HM.out.ob); have fo := frz HM.out.ob; have fr := frz HM.out.rc; have lm := HM.out.lt)
  go_upto_if 16 with (go_at_call 40; refine (hasColRef _ _).mono ?_; rintro e w2 ⟨rfl, rfl⟩)
  go_cut [4] (fun _ wx => ∃ cc : Nat, cc ≤ 3 ∧ (hasColB kd = false → cc = 0) ∧ MB w q A c (.int .i64 kd) (.int .i64 cc) (.int .i64 0) (.slice none 0 0) wx)
  case first =>
    cases hc : hasColB kd with
    | true =>
      go_wp2_with fail
      go_meet
      case rel => exact ⟨ca, hca3, fun h => (by rw [hc] at h; cases h), HM.out.set1⟩
    | false =>
      go_wp2_with fail
      go_meet
      case rel => exact ⟨0, by omega, fun _ => rfl, HM.out⟩
  case rest =>
    obtain ⟨cc, hcc3, hcc, hM⟩ := hcut
    clear x0 x1 x2 x3 o0 o1 o2 o3 fo fr lm HM hca hca3
    have HM := Lib.hid hM
    have Hcc := Lib.hid hcc
    clear hM hcc
    (obtain ⟨x0, x1, x2, x3⟩ := row4 (Lib.hid HM.out.qc); obtain ⟨o0, o1, o2, o3⟩ := row4 (Lib.hid HM.out.ob); have fo := frz HM.out.ob; have fr := frz HM.out.rc; have lm := HM.out.lt)
    go_upto_if 24 with (go_at_call 41; refine (maxKRef _ _).mono ?_; rintro e w2 ⟨rfl, rfl⟩)
    go_cut [4] (fun _ wx => ∃ kk : Nat, (0 < maxKF kd → 1 ≤ kk) ∧ (kk : Int) ≤ maxKF kd ∧ MB w q A c (.int .i64 kd) (.int .i64 cc) (.int .i64 kk) (.slice none 0 0) wx)
    case first =>
      rcases hmk with hmk | hmk | hmk
      · go_wp2_with fail
        go_meet
        case rel => exact ⟨0, fun h => by omega, by omega, HM.out⟩
      · obtain ⟨r6, hr6, hr6l⟩ : ∃ r : Nat, (ka : Int).tmod 6 = (r : Int) ∧ r < 6 := tmod_bd ka 6 (by omega)
        obtain ⟨kk, hkk⟩ : ∃ kk : Nat, 1 + (r6 : Int) = kk := ⟨1 + r6, by omega⟩
        have hkk1 : 1 ≤ kk ∧ kk ≤ 6 := by omega
        have hwk : IntKind.i64.wrap (kk : Int) = kk := IntWalk.i64_in _ (by omega)
        have Hmk := Lib.hid hmk
        go_wp2_with fail
        go_region_law (first | (go_simp; go_at_call 41; refine (maxKRef _ _).mono ?_; rw [Hmk.out]; rintro e w3 ⟨rfl, rfl⟩))
        all_goals
          go_wp2_with fail
          go_meet
          exact ⟨kk, fun h => by omega, by rw [Hmk.out]; omega, by (try rw [hwk]); exact HM.out.set2.drew⟩
      · obtain ⟨r6, hr6, hr6l⟩ : ∃ r : Nat, (ka : Int).tmod 65536 = (r : Int) ∧ r < 65536 := tmod_bd ka 65536 (by omega)
        obtain ⟨kk, hkk⟩ : ∃ kk : Nat, 1 + (r6 : Int) = kk := ⟨1 + r6, by omega⟩
        have hkk1 : 1 ≤ kk ∧ kk ≤ 65536 := by omega
        have hwk : IntKind.i64.wrap (kk : Int) = kk := IntWalk.i64_in _ (by omega)
        have Hmk := Lib.hid hmk
        go_wp2_with fail
        go_region_law (first | (go_simp; go_at_call 41; refine (maxKRef _ _).mono ?_; rw [Hmk.out]; rintro e w3 ⟨rfl, rfl⟩))
        all_goals
          go_wp2_with fail
          go_meet
          exact ⟨kk, fun h => by omega, by rw [Hmk.out]; omega, by (try rw [hwk]); exact HM.out.set2.drew⟩
    case rest =>
      obtain ⟨kk, hkk1, hkkm, hM⟩ := hcut
      clear x0 x1 x2 x3 o0 o1 o2 o3 fo fr lm HM hka hka3 hmk
      have HM := Lib.hid hM
      have Hkk1 := Lib.hid hkk1
      have Hkkm := Lib.hid hkkm
      clear hM hkk1 hkkm
      (obtain ⟨x0, x1, x2, x3⟩ := row4 (Lib.hid HM.out.qc); obtain ⟨o0, o1, o2, o3⟩ := row4 (Lib.hid HM.out.ob); have fo := frz HM.out.ob; have fr := frz HM.out.rc; have lm := HM.out.lt)
      go_upto_if 36 with fail
      go_cut [4] (fun v wx => v = .int .i64 (nFilF kd) ∧ wx = wc)
      case first =>
        by_cases h7 : kd = 7
        · have g7 : (kd == 7) = true := by rw [h7]; rfl
          have HN := Lib.hid (show nFilF kd = 2 by unfold nFilF; rw [if_pos h7])
          clear h7
          go_wp2_with fail
          go_meet
          exact ⟨by rw [HN.out]; rfl, rfl⟩
        · have g7 : (kd == 7) = false := beqF h7
          have HN := Lib.hid (show nFilF kd = 1 by unfold nFilF; rw [if_neg h7])
          clear h7
          go_wp2_with fail
          go_meet
          exact ⟨by rw [HN.out]; rfl, rfl⟩
      case rest =>
        obtain ⟨rfl, rfl⟩ := hcut
        clear x0 x1 x2 x3 o0 o1 o2 o3 fo fr lm
        obtain ⟨N, hN⟩ : ∃ N, nFilF kd = N := ⟨_, rfl⟩
        have hN2 : N ≤ 2 := by rw [← hN]; unfold nFilF; split <;> omega
        rw [hN]
        have HN := Lib.hid hN
        clear hN
        go_wp2_with fail
        go_loopw [5] (fun i wr => ∃ (j : Nat) (fs : List (List Cd)) (A1 : Option Addr) (c1 : Nat), j ≤ N ∧ i = .int .i64 j ∧ fs.length = j ∧ MIn w q A c (.int .i64 kd) (.int .i64 cc) (.int .i64 kk) fs (.slice A1 j c1) wr) (fun i _ => N - (intOf i).toNat)
        case atStart => exact ⟨0, [], none, 0, Nat.zero_le _, rfl, rfl, by simp, HM.out, Own.nil_ _ _ _ _ _⟩
        case round =>
          obtain ⟨j, fs, A1, c1, hj, rfl, hfl, hIn⟩ := hrel
          have hj0 : (0 : Int) ≤ (j : Int) := by omega
          have HI := Lib.hid hIn
          clear hIn HM
          by_cases hlt : j < N
          · have hj1 : (j : Int) < (N : Int) := by omega
            go_wp2_with fail
            obtain ⟨wo, hwo⟩ : ∃ wo : World, wo = wr := ⟨_, rfl⟩
            subst hwo
            go_loopw [6, 7] (fun v i wx => ∃ (k : Nat) (B : Option Addr) (d : Nat) (ys : List Cd), k ≤ 3 ∧ i = .int .i64 k ∧ ys.length = k ∧ (∀ x ∈ ys, ValidCd x) ∧ v = .slice B k d ∧ Own cdE (fun _ => False) wx wo.heap.size 58 (.slice B k d) ys ∧ Below wo.heap.size wo wx) (fun _ i _ => 3 - (intOf i).toNat)
            case atStart => exact ⟨0, some ⟨wo.heap.size, 0, none⟩, 0, [], by omega, rfl, rfl, by simp, rfl, Own.litAt _ _ _ _ rfl (Nat.le_refl _), (Below.refl _ _).alloc (Nat.le_refl _) _⟩
            case round =>
              obtain ⟨k, B, d, ys, hk, rfl, hyl, hyv, rfl, ho, hb⟩ := hrel
              have hk0 : (0 : Int) ≤ (k : Int) := by omega
              have HM := Lib.hid (HI.out.mb.call hb)
              have HO := Lib.hid ho
              have HB := Lib.hid hb
              have HY := Lib.hid hyv
              have H2 := Lib.hid (H.out.keep (Below.agree HM.out.bel))
              have lo := ho.lt
              clear ho hb hyv
              (obtain ⟨x0, x1, x2, x3⟩ := row4 (Lib.hid HM.out.qc); obtain ⟨o0, o1, o2, o3⟩ := row4 (Lib.hid HM.out.ob); have fo := frz HM.out.ob; have fr := frz HM.out.rc; have lm := HM.out.lt)
              have lz := HB.out.size
              have HOS := Lib.hid (HO.out.toSl (T := fun b => FtS (w.heap.size + 3) (.slice A1 j c1) b ∧ b ≤ wr.heap.size) (fun _ h _ => h.elim) (fun b h1 h2 _ => ⟨⟨by have := HI.out.mb.lt; omega, fun g hg => by have := (HI.out.own.lt g hg).2; omega⟩, Nat.le_of_lt h2⟩))
              by_cases c1' : j < q.fs.length
              · have g1 : (j : Int) < (q.fs.length : Int) := by omega
                obtain ⟨r, hr⟩ : ∃ r, q.fs[j]? = some r := ⟨_, List.getElem?_eq_getElem c1'⟩
                obtain ⟨b1, o1', B1, d1, rfl, -, l1, z1, hs1⟩ := flt_at H2.out hr
                have hm1 := hs1.max
                have HS1 := Lib.hid hs1
                clear hr hs1
                by_cases c2 : k < r.length
                · have g2 : (k : Int) < (r.length : Int) := by omega
                  by_cases c3 : k < 3
                  · have g3 : (k : Int) < 3 := by omega
                    obtain ⟨x, hx⟩ : ∃ x, r[k]? = some x := ⟨_, List.getElem?_eq_getElem c2⟩
                    obtain ⟨b2, o2', rfl, -, l2, y0, y1, y2⟩ := cd_at HS1.out hx
                    clear hx
                    have lb2 := l2
                    go_wp2_with (first
                      | (go_at_call 26; refine (madeCdP x _).mono ?_; rintro e w4 ⟨x', hx', rfl, hb4⟩; have HX := Lib.hid hx'; have HB4 := Lib.hid hb4; have HO4 := Lib.hid (HO.out.call hb4); have lo4 := HO4.out.lt; have lz4 := hb4.size; clear hx' hb4)
                      | (at_builtin; go_must ((refine wpList_append_E (S := fun b => b = w4.heap.size) rfl (.tmp 64) (.tmp 74) rfl cdsT (base := wo.heap.size) (v := .slice B k d) (xs := ys) (ys := [x']) (by rfl) (by rfl) rfl (nz := k + 1) (by simp [hyl]) ((HO4.out.flat cdE_flat).alloc _) (Sl.litAt (S := fun b => b = w4.heap.size) rfl (.single cdE_shut) (by unfold maxLen; simp) (fun _ h _ => h) rfl) (by unfold maxLen; simp [hyl]; omega) (by simp [hyl]; omega) (by simp; omega) (fun g hg (hs : g = w4.heap.size) => absurd (lo4 g hg).2 (by omega)) ?_; intro A6 c6 w6 hown6 hg6 hor6))))
                    go_roundw
                    case rel => exact ⟨k + 1, A6, c6, ys ++ [x'], by omega, by go_num, by simp [hyl], fun u hu => (List.mem_append.1 hu).elim (HY.out u) (fun h => by simp at h; subst h; exact HX.out), rfl, hown6.flat cdE_flat, ((HB.out.trans (HB4.out.mono HB.out.size)).alloc (by omega) _).grown hg6 (by simp; omega) (fun g hg => (lo4 g hg).1)⟩
                    case measure => simp [intOf]; omega
                  · have g3 : ¬ (k : Int) < 3 := by omega
                    (go_wp2_with (at_builtin; go_must ((refine wpList_append_E (S := fun b => FtS (w.heap.size + 3) (.slice A1 j c1) b ∧ b ≤ wr.heap.size) rfl (.tmp 77) (.tmp 79) rfl cfsT (base := w.heap.size + 3) (v := .slice A1 j c1) (xs := fs) (ys := [ys]) (by rfl) (by rfl) rfl (nz := j + 1) (by simp [hfl]) ((Own.sub (HI.out.own.call HB.out) (fun b h1 h2 => ⟨h1, Nat.le_of_lt h2⟩)).alloc _) (Sl.litAt (S := fun b => FtS (w.heap.size + 3) (.slice A1 j c1) b ∧ b ≤ wr.heap.size) rfl (.single ⟨B, d, by rw [hyl], HOS.out⟩) (by unfold maxLen; simp) (fun _ h _ => h) ⟨⟨lm, fun g hg => by have := (HI.out.own.lt g hg).2; omega⟩, Nat.le_refl _⟩) (by unfold maxLen; simp [hfl]; omega) (by simp [hfl]; omega) (by simp; omega) (fun g hg hs => absurd rfl (hs.1.2 g hg)) ?_; intro A6 c6 w6 hown6 hg6 hor6; have lg6 := hg6.size; simp at lg6; have HM6 := Lib.hid (((HM.out.call ((Below.refl _ _).alloc (Nat.le_refl _) _))).grown hg6 (fun g hg => (HI.out.own.lt g hg).1)); clear x0 x1 x2 x3 o0 o1 o2 o3 fo fr; obtain ⟨o0, o1, o2, o3⟩ := row4 (Lib.hid HM6.out.ob); have fo := frz HM6.out.ob))); go_roundw; (case rel => exact ⟨j + 1, fs ++ [ys], A6, c6, by omega, by go_num, by simp [hfl], HI.out.app ⟨by omega, HY.out⟩ HB.out hown6 hg6 hor6⟩); (case measure => simp [intOf]; omega))
                · have g2 : ¬ (k : Int) < (r.length : Int) := by omega
                  (go_wp2_with (at_builtin; go_must ((refine wpList_append_E (S := fun b => FtS (w.heap.size + 3) (.slice A1 j c1) b ∧ b ≤ wr.heap.size) rfl (.tmp 77) (.tmp 79) rfl cfsT (base := w.heap.size + 3) (v := .slice A1 j c1) (xs := fs) (ys := [ys]) (by rfl) (by rfl) rfl (nz := j + 1) (by simp [hfl]) ((Own.sub (HI.out.own.call HB.out) (fun b h1 h2 => ⟨h1, Nat.le_of_lt h2⟩)).alloc _) (Sl.litAt (S := fun b => FtS (w.heap.size + 3) (.slice A1 j c1) b ∧ b ≤ wr.heap.size) rfl (.single ⟨B, d, by rw [hyl], HOS.out⟩) (by unfold maxLen; simp) (fun _ h _ => h) ⟨⟨lm, fun g hg => by have := (HI.out.own.lt g hg).2; omega⟩, Nat.le_refl _⟩) (by unfold maxLen; simp [hfl]; omega) (by simp [hfl]; omega) (by simp; omega) (fun g hg hs => absurd rfl (hs.1.2 g hg)) ?_; intro A6 c6 w6 hown6 hg6 hor6; have lg6 := hg6.size; simp at lg6; have HM6 := Lib.hid (((HM.out.call ((Below.refl _ _).alloc (Nat.le_refl _) _))).grown hg6 (fun g hg => (HI.out.own.lt g hg).1)); clear x0 x1 x2 x3 o0 o1 o2 o3 fo fr; obtain ⟨o0, o1, o2, o3⟩ := row4 (Lib.hid HM6.out.ob); have fo := frz HM6.out.ob))); go_roundw; (case rel => exact ⟨j + 1, fs ++ [ys], A6, c6, by omega, by go_num, by simp [hfl], HI.out.app ⟨by omega, HY.out⟩ HB.out hown6 hg6 hor6⟩); (case measure => simp [intOf]; omega))
              · have g1 : ¬ (j : Int) < (q.fs.length : Int) := by omega
                (go_wp2_with (at_builtin; go_must ((refine wpList_append_E (S := fun b => FtS (w.heap.size + 3) (.slice A1 j c1) b ∧ b ≤ wr.heap.size) rfl (.tmp 77) (.tmp 79) rfl cfsT (base := w.heap.size + 3) (v := .slice A1 j c1) (xs := fs) (ys := [ys]) (by rfl) (by rfl) rfl (nz := j + 1) (by simp [hfl]) ((Own.sub (HI.out.own.call HB.out) (fun b h1 h2 => ⟨h1, Nat.le_of_lt h2⟩)).alloc _) (Sl.litAt (S := fun b => FtS (w.heap.size + 3) (.slice A1 j c1) b ∧ b ≤ wr.heap.size) rfl (.single ⟨B, d, by rw [hyl], HOS.out⟩) (by unfold maxLen; simp) (fun _ h _ => h) ⟨⟨lm, fun g hg => by have := (HI.out.own.lt g hg).2; omega⟩, Nat.le_refl _⟩) (by unfold maxLen; simp [hfl]; omega) (by simp [hfl]; omega) (by simp; omega) (fun g hg hs => absurd rfl (hs.1.2 g hg)) ?_; intro A6 c6 w6 hown6 hg6 hor6; have lg6 := hg6.size; simp at lg6; have HM6 := Lib.hid (((HM.out.call ((Below.refl _ _).alloc (Nat.le_refl _) _))).grown hg6 (fun g hg => (HI.out.own.lt g hg).1)); clear x0 x1 x2 x3 o0 o1 o2 o3 fo fr; obtain ⟨o0, o1, o2, o3⟩ := row4 (Lib.hid HM6.out.ob); have fo := frz HM6.out.ob))); go_roundw; (case rel => exact ⟨j + 1, fs ++ [ys], A6, c6, by omega, by go_num, by simp [hfl], HI.out.app ⟨by omega, HY.out⟩ HB.out hown6 hg6 hor6⟩); (case measure => simp [intOf]; omega))
          · have hj1 : ¬ (j : Int) < (N : Int) := by omega
            obtain rfl : j = N := by omega
            have HM := Lib.hid HI.out.mb
            (obtain ⟨x0, x1, x2, x3⟩ := row4 (Lib.hid HM.out.qc); obtain ⟨o0, o1, o2, o3⟩ := row4 (Lib.hid HM.out.ob); have fo := frz HM.out.ob; have fr := frz HM.out.rc; have lm := HM.out.lt)
            obtain ⟨r0, r1, r2, r3⟩ := row4 (Lib.hid HM.out.rc)
            have hH : HeadOk ⟨kd, cc, kk, fs⟩ := by
              refine ⟨⟨hkd1, hkd7⟩, ⟨by dsimp only; omega, by dsimp only; omega⟩, ?_, by dsimp only; omega, Hkkm.out, fun h => ?_, by rw [HN.out]; exact hfl⟩
              · dsimp only
                cases hc : hasColB kd with
                | true => exact .inr (of_decide_eq_true hc)
                | false => exact .inl (by rw [Hcc.out hc]; rfl)
              · dsimp only at h ⊢
                have := Hkk1.out (by unfold maxKF; rcases h with h | h <;> rw [h] <;> decide)
                omega
            have HH := Lib.hid hH
            clear hH
            go_wp2_with fail
            have hbm := HM.out.bel
            refine bodyPost_ret (v := .agg #[.int .i64 kd, .int .i64 cc, .int .i64 kk, .slice A1 j c1]) (by simp [results, Tryd.results30, go_sem, *]) rfl
              ⟨⟨kd, cc, kk, fs⟩, ⟨HH.out, HI.out.ok⟩, trivial, A1, c1, by dsimp only; rw [hfl], ?_, (by repeat' (first | with_reducible exact Below.refl _ _ | with_reducible assumption | with_reducible refine Below.setCell ?_ ?_ _ | with_reducible refine Below.drew ?_ | with_reducible refine below_drewN ?_ _ | with_reducible refine Below.alloc ?_ ?_ _ | (rintro _ ⟨⟩; simp <;> omega) | omega | (simp <;> omega)))⟩
            dsimp only
            rw [hfl]
            have lo := HI.out.own.lt
            refine Own.sub (S := FtS (w.heap.size + 3) (.slice A1 j c1)) (Own.lower (base := w.heap.size + 3) ?_ (by omega)) (fun b h _ => ⟨by have := h.1; omega, h.2⟩)
            repeat' (first | with_reducible exact HI.out.own | with_reducible refine Own.set ?_ ?_ ?_ _ | (intro e; have := (lo _ e).1; dsimp only at this; omega) | (intro h; have := h.1; dsimp only at this; omega))
theorem made13P {q : Qy} {A : Option Addr} {c : Nat} {S : Nat → Prop} (w : World) (h : Sl cdE.slice S w A c q.fs) : Calls Tryd.prog 30 #[(.agg #[.int .i64 q.kind, .int .i64 q.col, .int .i64 q.k, .slice A q.fs.length c])] w (QyRes (fun _ => True) w) :=
  (made13O w h).mono fun _ _ hh => hh.res
end Go.Proofs.YtmkpaolbejlodaaDoor
