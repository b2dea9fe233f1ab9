/-
  Texts of this claim, merged: Q13, Q14, Q19, Q20, QP. Conditions: as each theorem says.
-/
import Derived.Lib.Mul64
import Derived.Laws.Bits64b
import Derived.Shelf.Bits.Mul64
import Derived.Laws.EntriesVeiled
import Derived.Test.YtmkpaolbejlodaaDoorD1
import Derived.Test.YtmkpaolbejlodaaDoorD2
set_option linter.unusedSimpArgs false
set_option linter.unusedVariables false
namespace Go.Proofs.YtmkpaolbejlodaaDoor
open Go.RowKit

def momV (b : Nat) : Value := .func (.func 76) #[] #[.pointer (some ⟨b, 0, none⟩)]
theorem momentP (f : FuncId) (w : World) : Calls Tryd.prog 64 #[.func (.func f) #[] #[]] w fun e w' =>
    ∃ b, e = .returned (.func (.func 76) #[] #[.pointer (some ⟨b, 0, none⟩)]) ∧ w'.heap[b]? = some (.cells #[.func (.func f) #[] #[]] 73 (0, 0)) ∧ w.heap.size ≤ b ∧ Below w.heap.size w w' := by
  go_enter Tryd.func64, Tryd.ntmps64
  go_wp2_with fail
  go_ret
  exact ⟨_, rfl, heap_alloc_at rfl, Nat.le_refl _, (by repeat' (first | with_reducible exact Below.refl _ _ | with_reducible assumption | with_reducible refine Below.setCell ?_ ?_ _ | with_reducible refine Below.drew ?_ | with_reducible refine below_drewN ?_ _ | with_reducible refine Below.alloc ?_ ?_ _ | (rintro _ ⟨⟩; simp <;> omega) | omega | (simp <;> omega)))⟩
def kindV (s : Int) (n : Bool) (f : Value) : Value := .agg #[.int .i64 s, .bool n, f]
def kindsE (b1 b2 b3 : Nat) : List MapEntry := [keyI 1 (kindV 1 false (momV b1)) 0, keyI 2 (kindV 1 false (momV b2)) 1, keyI 3 (kindV 1 false (momV b3)) 2,
  keyI 4 (kindV 16 true (.func (.func 68) #[] #[])) 3, keyI 5 (kindV 16 true (.func (.func 68) #[] #[])) 4, keyI 6 (kindV 16 true (.func (.func 68) #[] #[])) 5, keyI 7 (kindV 32 false (.func (.func 69) #[] #[])) 6]
/-- A table in the making, and the boxes that its functions keep. -/
structure KSt (w0 : World) (b : Nat) (es : List MapEntry) (bs : List (Nat × FuncId)) (w : World) : Prop where
  map : MapIs w b es
  bel : Below w0.heap.size w0 w
  old : w0.heap.size ≤ b
  box : ∀ p ∈ bs, w.heap[p.1]? = some (.cells #[.func (.func p.2) #[] #[]] 73 (0, 0)) ∧ p.1 ≠ b
  new : ∀ p ∈ bs, w0.heap.size ≤ p.1
section
variable {w0 w w' : World} {b : Nat} {es es' : List MapEntry} {bs : List (Nat × FuncId)}
theorem KSt.insert (h : KSt w0 b es bs w) (hM : MapIs w' b es') (hg : w.grownBy w' (some b)) : KSt w0 b es' bs w' :=
  ⟨hM, h.bel.grown hg h.bel.size (by rintro k ⟨⟩; exact h.old), h.old, fun p hp => ⟨(hg.block p.1 (heap_lt (h.box p hp).1) (fun e => (h.box p hp).2 (by injection e))).trans (h.box p hp).1, (h.box p hp).2⟩, h.new⟩
theorem KSt.call (h : KSt w0 b es bs w) {f : FuncId} {g : Nat} (hb : Below w.heap.size w w') (hg : w.heap.size ≤ g) (hn : w'.heap[g]? = some (.cells #[.func (.func f) #[] #[]] 73 (0, 0))) : KSt w0 b es (bs ++ [(g, f)]) w' :=
  ⟨h.map.below hb, h.bel.trans (hb.mono h.bel.size), h.old, fun p hp => by
    rcases List.mem_append.1 hp with hp | hp
    · exact ⟨(hb.block p.1 (heap_lt (h.box p hp).1)).trans (h.box p hp).1, (h.box p hp).2⟩
    · simp only [List.mem_singleton] at hp
      subst hp
      exact ⟨hn, by have := heap_lt h.map; simp only; omega⟩, fun p hp => by
    rcases List.mem_append.1 hp with hp | hp
    · exact h.new p hp
    · simp only [List.mem_singleton] at hp
      subst hp
      exact Nat.le_trans h.bel.size hg⟩
end
set_option maxRecDepth 100000 in
set_option maxHeartbeats 4000000 in
theorem kindsP (w : World) : Calls Tryd.prog 50 #[] w fun e w' => ∃ b b1 b2 b3, e = .returned (.map (some b)) ∧ KSt w b (kindsE b1 b2 b3) [(b1, 65), (b2, 66), (b3, 67)] w' := by
  have hmm := @run_makeMap Tryd.prog
  have tok1 : True := trivial
  have tok2 : True := trivial
  have tok3 : True := trivial
  have hK : KSt w w.heap.size [] [] (w.alloc (.map #[] 0)) := ⟨MapIs.made w, (by repeat' (first | with_reducible exact Below.refl _ _ | with_reducible assumption | with_reducible refine Below.setCell ?_ ?_ _ | with_reducible refine Below.drew ?_ | with_reducible refine below_drewN ?_ _ | with_reducible refine Below.alloc ?_ ?_ _ | (rintro _ ⟨⟩; simp <;> omega) | omega | (simp <;> omega))), Nat.le_refl _, fun _ h => (by cases h), fun _ h => (by cases h)⟩
  go_enter Tryd.func50, Tryd.ntmps50
  go_wp2_with (first
    | (go_at_call 64; clear tok1; refine (momentP _ _).mono ?_; rintro e w1 ⟨b1, rfl, hn1, hle1, hb1⟩; replace hK := hK.call hb1 hle1 hn1; clear hn1 hle1 hb1)
    | (go_at_call 64; clear tok2; refine (momentP _ _).mono ?_; rintro e w1 ⟨b2, rfl, hn1, hle1, hb1⟩; replace hK := hK.call hb1 hle1 hn1; clear hn1 hle1 hb1)
    | (go_at_call 64; clear tok3; refine (momentP _ _).mono ?_; rintro e w1 ⟨b3, rfl, hn1, hle1, hb1⟩; replace hK := hK.call hb1 hle1 hn1; clear hn1 hle1 hb1)
    | (refine wpList_insert_I (n := 1) (u := kindV 1 false (momV b1)) (by rfl) (.tmp 1) _ _ rfl Tryd.underlying91 Tryd.underlying3 hK.map (by rfl) rfl (by rfl) (by rfl) (by rfl) ?_; intro w2 hM hg; replace hK := hK.insert hM hg; clear hM hg)
    | (refine wpList_insert_I (n := 2) (u := kindV 1 false (momV b2)) (by rfl) (.tmp 1) _ _ rfl Tryd.underlying91 Tryd.underlying3 hK.map (by rfl) rfl (by rfl) (by rfl) (by rfl) ?_; intro w2 hM hg; replace hK := hK.insert hM hg; clear hM hg)
    | (refine wpList_insert_I (n := 3) (u := kindV 1 false (momV b3)) (by rfl) (.tmp 1) _ _ rfl Tryd.underlying91 Tryd.underlying3 hK.map (by rfl) rfl (by rfl) (by rfl) (by rfl) ?_; intro w2 hM hg; replace hK := hK.insert hM hg; clear hM hg)
    | (refine wpList_insert_I (n := 4) (u := kindV 16 true (.func (.func 68) #[] #[])) (by rfl) (.tmp 1) _ _ rfl Tryd.underlying91 Tryd.underlying3 hK.map (by rfl) rfl (by rfl) (by rfl) (by rfl) ?_; intro w2 hM hg; replace hK := hK.insert hM hg; clear hM hg)
    | (refine wpList_insert_I (n := 5) (u := kindV 16 true (.func (.func 68) #[] #[])) (by rfl) (.tmp 1) _ _ rfl Tryd.underlying91 Tryd.underlying3 hK.map (by rfl) rfl (by rfl) (by rfl) (by rfl) ?_; intro w2 hM hg; replace hK := hK.insert hM hg; clear hM hg)
    | (refine wpList_insert_I (n := 6) (u := kindV 16 true (.func (.func 68) #[] #[])) (by rfl) (.tmp 1) _ _ rfl Tryd.underlying91 Tryd.underlying3 hK.map (by rfl) rfl (by rfl) (by rfl) (by rfl) ?_; intro w2 hM hg; replace hK := hK.insert hM hg; clear hM hg)
    | (refine wpList_insert_I (n := 7) (u := kindV 32 false (.func (.func 69) #[] #[])) (by rfl) (.tmp 1) _ _ rfl Tryd.underlying91 Tryd.underlying3 hK.map (by rfl) rfl (by rfl) (by rfl) (by rfl) ?_; intro w2 hM hg; replace hK := hK.insert hM hg; clear hM hg))
  go_ret
  exact ⟨w.heap.size, b1, b2, b3, rfl, hK⟩
/-- What the table says of a kind: by number; of the functions, which. -/
def narrowF (k : Int) : Bool := decide (4 ≤ k ∧ k ≤ 6)
def boundV (b1 b2 b3 : Nat) (k : Int) : Value := if k = 1 then momV b1 else if k = 2 then momV b2 else if k = 3 then momV b3 else if 4 ≤ k ∧ k ≤ 6 then .func (.func 68) #[] #[] else if k = 7 then .func (.func 69) #[] #[] else .nilFunc
theorem kinds_find (b1 b2 b3 : Nat) (k : Int) : (findI k (kindsE b1 b2 b3)).getD (kindV 0 false .nilFunc) = kindV (sumsC k) (narrowF k) (boundV b1 b2 b3 k) := by
  by_cases h : 1 ≤ k ∧ k ≤ 7
  · rcases (by omega : k = 1 ∨ k = 2 ∨ k = 3 ∨ k = 4 ∨ k = 5 ∨ k = 6 ∨ k = 7) with rfl | rfl | rfl | rfl | rfl | rfl | rfl <;> rfl
  · have hn : findI k (kindsE b1 b2 b3) = none := by
      unfold kindsE keyI
      simp only [findI]
      repeat (rw [if_neg (by omega)])
    rw [hn]
    unfold sumsC narrowF boundV
    rw [if_neg (by omega), if_neg (by omega), if_neg (by omega), if_neg (by omega), if_neg (by omega), if_neg (by omega), if_neg (by omega), if_neg (by omega), decide_eq_false (by omega)]
    rfl
theorem kinds_look {W : World} {b b1 b2 b3 : Nat} (h : MapIs W b (kindsE b1 b2 b3)) (k : Int) : (Instr.lookup 91 (.map (some b)) (.int .i64 k) false).run Tryd.prog W = .ok (.agg #[.int .i64 (sumsC k), .bool (narrowF k), boundV b1 b2 b3 k]) W := by
  have := run_lookup_I Tryd.underlying91 Tryd.underlying3 h rfl (z := kindV 0 false .nilFunc) (by kernel_rfl) k false
  rw [kinds_find] at this
  exact this
def q13A : List FRow := [(0, ([], (4, []))), (1, ([], (5, [1]))), (2, ([1], (6, [4]))), (3, ([0, 2], (7, [3, 5]))), (4, ([3], (8, [6]))), (5, ([4, 0, 0, 1, 2, 3, 4], (3, [7])))]
set_option maxRecDepth 100000 in
set_option maxHeartbeats 2000000 in
theorem sumsP {q : Qy} {A : Option Addr} {c : Nat} (w : World) : Calls Tryd.prog 34 #[(.agg #[.int .i64 q.kind, .int .i64 q.col, .int .i64 q.k, .slice A q.fs.length c])] w fun e w' => e = .returned (.int .i64 (sumsC q.kind)) ∧ Below w.heap.size w w' := by
  go_enter Tryd.func34, Tryd.ntmps34
  go_upto_region 1 with fail
  refine wp_world (F := fun wx => Below w.heap.size w wx ∧ Hid (wx.heap[w.heap.size]? = some (.cells #[.int .i64 q.kind, .int .i64 q.col, .int .i64 q.k, .slice A q.fs.length c] 24 (0, 0)))) ⟨(Below.refl _ _).alloc (Nat.le_refl _) _, Lib.hid (heap_alloc_at rfl)⟩ ?_
  rintro wr ⟨bb, gq⟩
  have b0 := Lib.hid bb
  have zq : ∀ W, Below wr.heap.size wr W → _ ∧ _ ∧ _ ∧ _ := fun W hW => row4 (mvQ gq hW)
  have br : Below wr.heap.size wr wr := Below.refl _ _
  have ba : ∀ W o, Below wr.heap.size wr W → Below wr.heap.size wr (W.alloc o) := fun W o h => h.alloc h.size o
  have bc : ∀ W W', Below wr.heap.size wr W → Below W.heap.size W W' → Below wr.heap.size wr W' := fun W W' h k => h.trans (k.mono h.size)
  have hf : ∀ a b c w, (Instr.field 90 (.agg #[.int .i64 a, .bool b, c]) 0).run Tryd.prog w = .ok (.int .i64 a) w := fun _ _ _ _ => by kernel_rfl
  clear bb
  refine wp_region_noPanic ?_
  refine wp_region_held_drew (S := fun X => Below wr.heap.size wr X) (by kernel_rfl) ?_ (fun hHeld => ?_)
  · (first | with_reducible assumption | (with_reducible refine Below.drew ?_; with_reducible assumption) | (with_reducible refine ba _ _ ?_; with_reducible assumption) | (with_reducible refine Below.drew ?_; with_reducible refine ba _ _ ?_; with_reducible assumption) | exact Below.refl _ _ | exact (Below.refl _ _).drew | exact (Below.refl _ _).alloc (Nat.le_refl _) _ | (refine bc _ _ (by assumption) (by assumption)))
  refine RegOk.begin_ (n := 6) (T := q13A) ⟨by kernel_rfl, by kernel_rfl, by kernel_rfl, by kernel_rfl⟩ fun hR => ?_
  refine hR.take (i := 1) (oi := ?ow475_1) (v := ?vw475_1) (m' := 2) ?hw475_1 (by kernel_rfl) (by kernel_rfl) (fun _ _ _ h => h) (Or.inl ⟨?sw475_1, ?yw475_1⟩) (by assumption) ?nw475_1
  case hw475_1 => simp only [List.getElem?_toArray, List.getElem?_cons_succ, List.getElem?_cons_zero]; rfl
  case sw475_1 => rfl
  case yw475_1 => (intro w hSw; (try dsimp only at hSw); go_simp <;> with_reducible rfl)
  try simp only [Act.put, List.setIfInBounds_toArray, List.set_cons_zero, List.set_cons_succ]
  refine hR.take (i := 2) (oi := ?ow476_2) (v := ?vw476_2) (m' := 6) ?hw476_2 (by kernel_rfl) (by kernel_rfl) (fun _ _ _ h => h) (Or.inl ⟨?sw476_2, ?yw476_2⟩) (by assumption) ?nw476_2
  case hw476_2 => simp only [List.getElem?_toArray, List.getElem?_cons_succ, List.getElem?_cons_zero]; rfl
  case sw476_2 => rfl
  case yw476_2 => (intro w hSw; (try dsimp only at hSw); go_simp <;> with_reducible rfl)
  try simp only [Act.put, List.setIfInBounds_toArray, List.set_cons_zero, List.set_cons_succ]
  refine hR.come (rs := [0]) (by kernel_rfl) (by simp) ?_
  refine AllReadyH.cons (o := ?o477_0) ?h477_0 (fun K hK => ?kw477_0) AllReadyH.nil
  case h477_0 => simp only [List.getElem?_toArray, List.getElem?_cons_succ, List.getElem?_cons_zero]; rfl
  go_simp
  go_at_call 50; refine (kindsP _).mono ?_; rintro e w1 ⟨b, b1, b2, b3, rfl, hK1⟩; have hk1 := bc _ _ (by (first | with_reducible assumption | (with_reducible refine Below.drew ?_; with_reducible assumption) | (with_reducible refine ba _ _ ?_; with_reducible assumption) | (with_reducible refine Below.drew ?_; with_reducible refine ba _ _ ?_; with_reducible assumption) | exact Below.refl _ _ | exact (Below.refl _ _).drew | exact (Below.refl _ _).alloc (Nat.le_refl _) _ | (refine bc _ _ (by assumption) (by assumption)))) hK1.bel; have zl := fun W (hW : Below w1.heap.size w1 W) => kinds_look (hK1.map.below hW) q.kind
  refine hK.out _ _ ?_ (fun hHeld => ?_)
  · (first | with_reducible assumption | (with_reducible refine Below.drew ?_; with_reducible assumption) | (with_reducible refine ba _ _ ?_; with_reducible assumption) | (with_reducible refine Below.drew ?_; with_reducible refine ba _ _ ?_; with_reducible assumption) | exact Below.refl _ _ | exact (Below.refl _ _).drew | exact (Below.refl _ _).alloc (Nat.le_refl _) _ | (refine bc _ _ (by assumption) (by assumption)))
  clear hK K
  refine RegOk.put_ (m' := 7) (by kernel_rfl) ?_
  try simp only [Act.put, List.setIfInBounds_toArray, List.set_cons_zero, List.set_cons_succ]
  refine wpAnyH_base hHeld fun hH5 => ?_
  refine hR.take (i := 3) (oi := ?ow478_3) (v := ?vw478_3) (m' := 15) ?hw478_3 (by kernel_rfl) (by kernel_rfl) (fun _ _ _ h => h) (Or.inl ⟨?sw478_3, ?yw478_3⟩) (by assumption) ?nw478_3
  case hw478_3 => simp only [List.getElem?_toArray, List.getElem?_cons_succ, List.getElem?_cons_zero]; rfl
  case sw478_3 => rfl
  case yw478_3 => (intro w hSw; (try dsimp only at hSw); go_simp <;> with_reducible rfl)
  try simp only [Act.put, List.setIfInBounds_toArray, List.set_cons_zero, List.set_cons_succ]
  refine hR.take (i := 4) (oi := ?ow479_4) (v := ?vw479_4) (m' := 31) ?hw479_4 (by kernel_rfl) (by kernel_rfl) (fun _ _ _ h => h) (Or.inl ⟨?sw479_4, ?yw479_4⟩) (by assumption) ?nw479_4
  case hw479_4 => simp only [List.getElem?_toArray, List.getElem?_cons_succ, List.getElem?_cons_zero]; rfl
  case sw479_4 => rfl
  case yw479_4 => (intro w hSw; (try dsimp only at hSw); go_simp <;> with_reducible rfl)
  try simp only [Act.put, List.setIfInBounds_toArray, List.set_cons_zero, List.set_cons_succ]
  refine hR.take (i := 5) (oi := ?ow480_5) (v := ?vw480_5) (m' := 63) ?hw480_5 (by kernel_rfl) (by kernel_rfl) (fun _ _ _ h => h) (Or.inl ⟨?sw480_5, ?yw480_5⟩) (by assumption) ?nw480_5
  case hw480_5 => simp only [List.getElem?_toArray, List.getElem?_cons_succ, List.getElem?_cons_zero]; rfl
  case sw480_5 => rfl
  case yw480_5 => (intro w hSw; (try dsimp only at hSw); go_simp <;> with_reducible rfl)
  try simp only [Act.put, List.setIfInBounds_toArray, List.set_cons_zero, List.set_cons_succ]
  refine hR.all (by kernel_rfl) ?_ _
  refine NoPanic.normal ?_
  go_wp2_with fail
  go_ret
  exact ⟨rfl, b0.out.trans (hk1.mono b0.out.size)⟩
end Go.Proofs.YtmkpaolbejlodaaDoor
namespace Go.Proofs.YtmkpaolbejlodaaDoor
open Go.RowKit

theorem one {W : World} {g : Nat} {u : Value} {t : TypeId} (h : Hid (W.heap[g]? = some (.cells #[u] t (0, 0)))) : W.cell? ⟨g, 0, none⟩ = some u ∧ W.frozen? ⟨g, 0, none⟩ = false ∧ g < W.heap.size :=
  ⟨cell_of_row _ _ 0 _ _ _ h.out, by simp [World.frozen?, h.out], heap_lt h.out⟩
def bF (k : Int) : FuncId := if k ≤ 3 then 76 else if k ≤ 6 then 68 else 69
def bC (b1 b2 b3 : Nat) (k : Int) : Array Value := if k = 1 then #[.pointer (some ⟨b1, 0, none⟩)] else if k = 2 then #[.pointer (some ⟨b2, 0, none⟩)] else if k = 3 then #[.pointer (some ⟨b3, 0, none⟩)] else #[]
end Go.Proofs.YtmkpaolbejlodaaDoor
namespace Go.Proofs.YtmkpaolbejlodaaDoor
open Go.RowKit

/-- 'x & m' lies between 0 and m. -/
theorem and_bd (x : Int) (m : Nat) (hm : m ≤ 65535) : ∃ r : Nat, bits BinOp.and IntKind.i64 x (m : Int) = (r : Int) ∧ r ≤ m := by
  have h2 : (BitVec.ofInt 64 (m : Int)).toNat = m := by
    rw [BitVec.ofInt_natCast, BitVec.toNat_ofNat]; exact Nat.mod_eq_of_lt (by omega)
  obtain ⟨r, hr⟩ : ∃ r, (BitVec.ofInt 64 x &&& BitVec.ofInt 64 (m : Int)).toNat = r := ⟨_, rfl⟩
  have hle : r ≤ m := by rw [← hr, BitVec.toNat_and, h2]; exact Nat.and_le_right
  refine ⟨r, ?_, hle⟩
  show IntKind.i64.wrap ((BitVec.ofInt 64 x &&& BitVec.ofInt 64 (m : Int)).toNat : Int) = _
  rw [hr]
  exact IntWalk.i64_in (r : Int) (by omega)
theorem tmod_bd (a m : Nat) (hm : 0 < m) : ∃ r : Nat, (a : Int).tmod (m : Int) = (r : Int) ∧ r < m := ⟨a % m, rfl, Nat.mod_lt _ hm⟩
set_option maxHeartbeats 2000000 in
theorem same15 {xs ys : List Int} {A B : Option Addr} {c d : Nat} {S T : Nat → Prop} (w : World) (h : Sl .i64 S w A c xs) (k : Sl .i64 T w B d ys) :
    Calls Tryd.prog 17 #[.slice A xs.length c, .slice B ys.length d] w fun e w' => e = .returned (.bool (decide (xs = ys))) ∧ Below w.heap.size w w' := by
  have hmx := h.max
  have hmy := k.max
  have H := Lib.hid h
  have K := Lib.hid k
  clear h k
  by_cases hl : xs.length = ys.length
  · have hlx : ((xs.length : Int) != (ys.length : Int)) = false := by rw [hl]; simp
    have hl0 := Lib.hid hl
    clear hl
    go_enter Tryd.func17, Tryd.ntmps17
    go_wp2_with fail
    go_loopw [5] (fun i wr => ∃ j : Nat, j ≤ xs.length ∧ i = .int .i64 j ∧ Hid (xs.take j = ys.take j) ∧ Below w.heap.size w wr) (fun i _ => xs.length - (intOf i).toNat)
    case atStart => exact ⟨0, Nat.zero_le _, rfl, Lib.hid rfl, Below.refl _ _⟩
    case round =>
      obtain ⟨j, hj, rfl, ht, hb⟩ := hrel
      have B1 := Lib.hid hb
      clear hb
      have hj0 : (0 : Int) ≤ (j : Int) := by omega
      by_cases hlt : j < xs.length
      · obtain ⟨x, hx⟩ : ∃ x, xs[j]? = some x := ⟨_, List.getElem?_eq_getElem hlt⟩
        obtain ⟨y, hy⟩ : ∃ y, ys[j]? = some y := ⟨_, List.getElem?_eq_getElem (by have := hl0.out; omega)⟩
        obtain ⟨b2, o2, rfl, -, hb2, x0⟩ := i64_at (H.out.keep (Below.agree B1.out)) hx
        obtain ⟨b3, o3, rfl, -, hb3, y0⟩ := i64_at (K.out.keep (Below.agree B1.out)) hy
        have hj1 : (j : Int) < (xs.length : Int) := by omega
        have hj2 : (j : Int) < (ys.length : Int) := by have := hl0.out; omega
        have Hx := Lib.hid hx
        have Hy := Lib.hid hy
        clear hx hy
        by_cases hxy : x = y
        · have hn : (x != y) = false := by simp [hxy]
          have Hxy := Lib.hid hxy
          clear hxy
          go_wp2_with fail
          go_quiet (fail)
          go_wp2_with fail
          go_roundw
          case rel => exact ⟨j + 1, by omega, by go_num, Lib.hid (by rw [take_snocR Hx.out, take_snocR Hy.out, ht.out, Hxy.out]), below_drewN B1.out _⟩
          case measure => simp [intOf]; omega
        · have hn : (x != y) = true := by simp [hxy]
          have hf := Lib.hid (show decide (xs = ys) = false from decide_eq_false fun e => hxy (by have h1 := Hx.out; rw [e, Hy.out] at h1; injection h1 with h1; exact h1.symm))
          clear hxy
          go_wp2_with fail
          go_quiet (fail)
          go_wp2_with fail
          go_ret
          exact ⟨ret_b hf.out.symm, below_drewN B1.out _⟩
      · have hj1 : ¬ (j : Int) < (xs.length : Int) := by omega
        have he := Lib.hid (show decide (xs = ys) = true from decide_eq_true (by have h1 := ht.out; rw [List.take_of_length_le (by omega), List.take_of_length_le (by have := hl0.out; omega)] at h1; exact h1))
        go_wp2_with fail
        go_ret
        exact ⟨ret_b he.out.symm, B1.out⟩
  · have hlx : ((xs.length : Int) != (ys.length : Int)) = true := by simp; omega
    have hf : decide (xs = ys) = false := decide_eq_false fun e => hl (by rw [e])
    rw [hf]
    clear hl hf
    go_enter Tryd.func17, Tryd.ntmps17
    go_wp2_with fail
    go_ret
    exact ⟨rfl, Below.refl _ _⟩
set_option maxHeartbeats 2000000 in
theorem madeCdP (c : Cd) (w : World) : Calls Tryd.prog 26 #[(.agg #[.int .i64 c.col, .int .i64 c.lo, .int .i64 c.hi])] w fun e w' => ∃ x : Cd, ValidCd x ∧ e = .returned (.agg #[.int .i64 x.col, .int .i64 x.lo, .int .i64 x.hi]) ∧ Below w.heap.size w w' := by
  obtain ⟨k, hk, hk3⟩ : ∃ r : Nat, bits BinOp.and IntKind.i64 c.col 3 = (r : Int) ∧ r ≤ 3 := and_bd c.col 3 (by omega)
  obtain ⟨a, ha, ha3⟩ : ∃ r : Nat, bits BinOp.and IntKind.i64 c.lo 65535 = (r : Int) ∧ r ≤ 65535 := and_bd c.lo 65535 (by omega)
  obtain ⟨b, hb, hb3⟩ : ∃ r : Nat, bits BinOp.and IntKind.i64 c.hi 65535 = (r : Int) ∧ r ≤ 65535 := and_bd c.hi 65535 (by omega)
  have hM0 := maxC_pos (k : Int)
  obtain ⟨M, hM⟩ : ∃ M : Nat, maxC (k : Int) = M := ⟨(maxC (k : Int)).toNat, by omega⟩
  rw [hM] at hM0
  obtain ⟨r, hr, hrM⟩ := tmod_bd a (M + 1) (by omega)
  obtain ⟨s, hs, hsM⟩ := tmod_bd b (M + 1) (by omega)
  have hr' : (a : Int).tmod ((M : Int) + 1) = (r : Int) := hr
  have hs' : (b : Int).tmod ((M : Int) + 1) = (s : Int) := hs
  have hMM := Lib.hid hM
  clear hM hr hs
  rcases (by omega : s < r ∨ r < s ∨ r = s) with h | h | h
  · have g1 : (s : Int) < (r : Int) := by omega
    have g2 : ¬ (r : Int) < (s : Int) := by omega
    (try subst h)
    go_enter Tryd.func26, Tryd.ntmps26
    go_wp2_with (go_at_call 27; refine (maxRef _ _).mono ?_; rw [hMM.out]; rintro e w2 ⟨rfl, rfl⟩)
    go_quiet (fail)
    go_wp2_with fail
    exact bodyPost_ret (v := .agg #[.int .i64 k, .int .i64 s, .int .i64 r]) (by simp [results, Tryd.results26, go_sem, *]) rfl ⟨⟨k, s, r⟩, ⟨⟨by dsimp only; omega, by dsimp only; omega⟩, by dsimp only; omega, by dsimp only; omega, by dsimp only; rw [hMM.out]; omega⟩, rfl, (by repeat' (first | with_reducible exact Below.refl _ _ | with_reducible assumption | with_reducible refine Below.setCell ?_ ?_ _ | with_reducible refine Below.drew ?_ | with_reducible refine below_drewN ?_ _ | with_reducible refine Below.alloc ?_ ?_ _ | (rintro _ ⟨⟩; simp <;> omega) | omega | (simp <;> omega)))⟩
  · have g1 : (r : Int) < (s : Int) := by omega
    have g2 : ¬ (s : Int) < (r : Int) := by omega
    (try subst h)
    go_enter Tryd.func26, Tryd.ntmps26
    go_wp2_with (go_at_call 27; refine (maxRef _ _).mono ?_; rw [hMM.out]; rintro e w2 ⟨rfl, rfl⟩)
    go_quiet (fail)
    go_wp2_with fail
    exact bodyPost_ret (v := .agg #[.int .i64 k, .int .i64 r, .int .i64 s]) (by simp [results, Tryd.results26, go_sem, *]) rfl ⟨⟨k, r, s⟩, ⟨⟨by dsimp only; omega, by dsimp only; omega⟩, by dsimp only; omega, by dsimp only; omega, by dsimp only; rw [hMM.out]; omega⟩, rfl, (by repeat' (first | with_reducible exact Below.refl _ _ | with_reducible assumption | with_reducible refine Below.setCell ?_ ?_ _ | with_reducible refine Below.drew ?_ | with_reducible refine below_drewN ?_ _ | with_reducible refine Below.alloc ?_ ?_ _ | (rintro _ ⟨⟩; simp <;> omega) | omega | (simp <;> omega)))⟩
  · have g1 : ¬ (r : Int) < (r : Int) := by omega
    have g2 : ¬ (r : Int) < (r : Int) := by omega
    (try subst h)
    go_enter Tryd.func26, Tryd.ntmps26
    go_wp2_with (go_at_call 27; refine (maxRef _ _).mono ?_; rw [hMM.out]; rintro e w2 ⟨rfl, rfl⟩)
    go_quiet (fail)
    go_wp2_with fail
    exact bodyPost_ret (v := .agg #[.int .i64 k, .int .i64 r, .int .i64 r]) (by simp [results, Tryd.results26, go_sem, *]) rfl ⟨⟨k, r, r⟩, ⟨⟨by dsimp only; omega, by dsimp only; omega⟩, by dsimp only; omega, by dsimp only; omega, by dsimp only; rw [hMM.out]; omega⟩, rfl, (by repeat' (first | with_reducible exact Below.refl _ _ | with_reducible assumption | with_reducible refine Below.setCell ?_ ?_ _ | with_reducible refine Below.drew ?_ | with_reducible refine below_drewN ?_ _ | with_reducible refine Below.alloc ?_ ?_ _ | (rintro _ ⟨⟩; simp <;> omega) | omega | (simp <;> omega)))⟩
end Go.Proofs.YtmkpaolbejlodaaDoor
namespace Go.Proofs.YtmkpaolbejlodaaDoor
open Go.RowKit

/-- The three boxes of Made. -/
structure MB (w0 : World) (q : Qy) (A : Option Addr) (c : Nat) (u v x y : Value) (wx : World) : Prop where
  bel : Below w0.heap.size w0 wx
  qc : wx.heap[w0.heap.size]? = some (.cells #[.int .i64 q.kind, .int .i64 q.col, .int .i64 q.k, .slice A q.fs.length c] 24 (0, 0))
  rc : wx.heap[w0.heap.size + 1]? = some (.cells #[.int .i64 0, .int .i64 0, .int .i64 0, .slice none 0 0] 24 (0, 0))
  ob : wx.heap[w0.heap.size + 1 + 1]? = some (.cells #[u, v, x, y] 24 (0, 0))
section
variable {w0 wx w' : World} {q : Qy} {A : Option Addr} {c : Nat} {u v x y z : Value}
theorem MB.lt (h : MB w0 q A c u v x y wx) : w0.heap.size + 3 ≤ wx.heap.size := heap_lt h.ob
theorem MB.keep (h : MB w0 q A c u v x y wx) (hs : wx.heap.size ≤ w'.heap.size) (hb : Below w0.heap.size w0 w') (hk : ∀ b, b < w0.heap.size + 3 → w'.heap[b]? = wx.heap[b]?) : MB w0 q A c u v x y w' :=
  ⟨hb, (hk _ (by omega)).trans h.qc, (hk _ (by omega)).trans h.rc, (hk _ (by omega)).trans h.ob⟩
theorem MB.call (h : MB w0 q A c u v x y wx) (hb : Below wx.heap.size wx w') : MB w0 q A c u v x y w' :=
  h.keep hb.size (h.bel.trans (hb.mono h.bel.size)) fun b hlt => hb.block b (Nat.lt_of_lt_of_le hlt h.lt)
theorem MB.grown (h : MB w0 q A c u v x y wx) {row : Option Nat} (hg : wx.grownBy w' row) (hr : ∀ k, row = some k → w0.heap.size + 3 ≤ k) : MB w0 q A c u v x y w' :=
  h.keep hg.size (h.bel.grown hg h.bel.size fun k hk => by have := hr k hk; omega) fun b hlt => hg.block b (Nat.lt_of_lt_of_le hlt h.lt) fun e => by have := hr b e.symm; omega
theorem MB.set2 (h : MB w0 q A c u v x y wx) : MB w0 q A c u v z y (wx.setCell ⟨w0.heap.size + 1 + 1, 2, none⟩ z) :=
  ⟨h.bel.setCell (by simp; omega) _, (Below.heap_setCell _ _ _ _ (by simp; omega)).trans h.qc, (Below.heap_setCell _ _ _ _ (by simp)).trans h.rc, heap_set (i := 2) h.ob⟩
theorem MB.drew (h : MB w0 q A c u v x y wx) : MB w0 q A c u v x y wx.drew := ⟨h.bel.drew, h.qc, h.rc, h.ob⟩
theorem MB.drewN (h : MB w0 q A c u v x y wx) (n : Nat) : MB w0 q A c u v x y (wx.drewN n) := ⟨below_drewN h.bel n, h.qc, h.rc, h.ob⟩
theorem frz {W : World} {g : Nat} {cs : Array Value} {t : TypeId} (h : W.heap[g]? = some (.cells cs t (0, 0))) (o : Nat) : W.frozen? ⟨g, o, none⟩ = false := by simp [World.frozen?, h]
end
theorem cdsT : SlT Tryd.prog 49 58 cdE 24 := ⟨Tryd.underlying49, by kernel_rfl, by decide⟩
end Go.Proofs.YtmkpaolbejlodaaDoor
namespace Go.Proofs.YtmkpaolbejlodaaDoor
open Go.RowKit

def fldI (r : Rd) (col : Int) : Int := if col = 0 then r.who else if col = 1 then r.whn else if col = 2 then r.knd else r.val
def matchT (r : Rd) (c : Cd) : Bool := decide (c.lo ≤ fldI r c.col ∧ fldI r c.col ≤ c.hi)
def matchB (l : List Cd) (r : Rd) : Bool := l.all (matchT r)
def filtF (q : Qy) (v : Nat) : List Cd := if q.kind = 7 then fl q (v / 16) else fl q 0
def colQ (q : Qy) : Int := if q.kind = 7 then 0 else q.col
/-- What a matching reading adds to sum v. -/
def unitF (q : Qy) (v : Nat) (r : Rd) : Int :=
  if q.kind = 1 then 1 else if q.kind = 2 then fldI r q.col else if q.kind = 3 then fldI r q.col ^ q.k.toNat else if fldI r (colQ q) = ((v % 16 : Nat) : Int) then 1 else 0
def termF (q : Qy) (v : Nat) (r : Rd) : Int := if matchB (filtF q v) r then unitF q v r else 0
def totalF (q : Qy) (l : List Rd) (v : Nat) : Int := (l.map (termF q v)).sum
theorem totalF_snoc (q : Qy) (l : List Rd) (r : Rd) (v : Nat) : totalF q (l ++ [r]) v = totalF q l v + termF q v r := by simp [totalF]
theorem fldI_bd {r : Rd} (h : ValidR r) (c : Int) : 0 ≤ fldI r c ∧ fldI r c ≤ maxC c := by
  obtain ⟨⟨a, b⟩, ⟨e, f⟩, ⟨c', d⟩, ⟨g, i⟩⟩ := h
  unfold fldI maxC
  split
  · rename_i h; rw [if_pos (.inl h)]; exact ⟨a, by omega⟩
  · split
    · rename_i h1 h; rw [if_neg (by omega)]; exact ⟨c', by omega⟩
    · split
      · rename_i h2 h1 h; rw [if_pos (.inr h)]; exact ⟨e, by omega⟩
      · rw [if_neg (by omega)]; exact ⟨g, by omega⟩
theorem fldI_255 {r : Rd} (h : ValidR r) (c : Int) : 0 ≤ fldI r c ∧ fldI r c ≤ 255 := by
  have := fldI_bd h c; have := maxC_pos c; omega
theorem pow_le_255 {x : Int} (h0 : 0 ≤ x) (h1 : x ≤ 255) : ∀ k : Nat, 0 ≤ x ^ k ∧ x ^ k ≤ 255 ^ k
  | 0 => by simp
  | k + 1 => by
    obtain ⟨a, b⟩ := pow_le_255 h0 h1 k
    rw [Int.pow_succ, Int.pow_succ]
    exact ⟨Int.mul_nonneg a h0, Int.le_trans (Int.mul_le_mul_of_nonneg_left h1 a) (Int.mul_le_mul_of_nonneg_right b (by omega))⟩
theorem pow_le_6 {x : Int} (h0 : 0 ≤ x) (h1 : x ≤ 255) {k : Nat} (hk : k ≤ 6) : 0 ≤ x ^ k ∧ x ^ k ≤ 274941996890625 := by
  obtain ⟨a, b⟩ := pow_le_255 h0 h1 k
  refine ⟨a, Int.le_trans b ?_⟩
  match k, hk with
  | 0, _ => decide
  | 1, _ => decide
  | 2, _ => decide
  | 3, _ => decide
  | 4, _ => decide
  | 5, _ => decide
  | 6, _ => decide
theorem termF_bd {q : Qy} {r : Rd} (h : ValidR r) (v : Nat) (hk : q.k ≤ 6 ∨ q.kind ≠ 3) : 0 ≤ termF q v r ∧ termF q v r ≤ 274941996890625 := by
  have hf := fldI_255 h q.col
  unfold termF unitF
  split
  · split
    · omega
    · split
      · omega
      · split
        · rename_i h3
          exact pow_le_6 hf.1 hf.2 (by omega)
        · split <;> omega
  · omega
theorem totalF_bd {q : Qy} (v : Nat) (hk : q.k ≤ 6 ∨ q.kind ≠ 3) : ∀ {l : List Rd}, (∀ r ∈ l, ValidR r) → 0 ≤ totalF q l v ∧ totalF q l v ≤ l.length * 274941996890625
  | [], _ => by simp [totalF]
  | r :: l, h => by
    have h1 := termF_bd (q := q) (h r (by simp)) v hk
    have h2 := totalF_bd v hk (l := l) fun x hx => h x (by simp [hx])
    have h3 : totalF q (r :: l) v = termF q v r + totalF q l v := by simp [totalF]
    rw [h3, List.length_cons]
    omega
end Go.Proofs.YtmkpaolbejlodaaDoor
