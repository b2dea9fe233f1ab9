/-
  Texts of this claim, merged: PaB. Conditions: as each theorem says.
-/
import Derived.Lib.LaidTab
import Derived.Test.YtagadbdbbglddaaGreatDoorU1
import Derived.Test.YtagadbdbbglddaaGreatDoorU2
import Derived.Test.YtagadbdbbglddaaGreatDoorU3
import Derived.Test.YtagadbdbbglddaaGreatDoorU4
import Derived.Test.YtagadbdbbglddaaGreatDoorU5
import Derived.Test.YtagadbdbbglddaaGreatDoorU6
import Derived.Test.YtagadbdbbglddaaGreatDoorU7
import Derived.Test.YtagadbdbbglddaaGreatDoorU8
import Derived.Test.YtagadbdbbglddaaGreatDoorU9
import Derived.Test.YtagadbdbbglddaaGreatDoorU10
import Derived.Test.YtagadbdbbglddaaGreatDoorU11
import Derived.Test.YtagadbdbbglddaaGreatDoorU12
import Derived.Test.YtagadbdbbglddaaGreatDoorU13
import Derived.Test.YtagadbdbbglddaaGreatDoorShelf
import Derived.Test.YtagadbdbbglddaaGreatDoorU22
import Derived.Test.YtagadbdbbglddaaGreatDoorU23
import Derived.Test.YtagadbdbbglddaaGreatDoorU24
import Derived.Test.YtagadbdbbglddaaGreatDoorU25
import Derived.Test.YtagadbdbbglddaaGreatDoorU26
set_option linter.unusedSimpArgs false
set_option linter.unusedVariables false
namespace Go.Proofs.YtagadbdbbglddaaGreatDoor
open Go.RowKit

def strE : Enc (List UInt8) := ⟨1, fun _ _ cs x => cs = [.string ⟨x.toArray⟩], by rintro _ _ _ _ rfl; rfl, fun h _ => h, fun h _ => h, by rintro _ _ _ _ rfl u hu; simp at hu; subst hu; rfl⟩
theorem strE_flat : strE.Flat := fun h => h
theorem strsT : SlT Tryz.prog 86 9 strE 16 := ⟨Tryz.underlying86, by kernel_rfl, by decide⟩
theorem word_at {S : Nat → Prop} {w : World} {A : Option Addr} {c i : Nat} {l : List (List UInt8)} {r : List UInt8} (h : Sl strE S w A c l) (hi : l[i]? = some r) :
    ∃ b o, A = some ⟨b, o, none⟩ ∧ S b ∧ b < w.heap.size ∧ w.cell? ⟨b, o + i, none⟩ = some (.string ⟨r.toArray⟩) := by
  obtain ⟨b, o, cs, hA, hS, hb, hr, hc⟩ := h.at' hi (by decide)
  cases hr
  refine ⟨b, o, hA, hS, hb, ?_⟩
  have := hc 0 _ rfl
  simpa [strE] using this
theorem str_app (l m : List UInt8) : (⟨l.toArray⟩ : ByteArray) ++ ⟨m.toArray⟩ = ⟨(l ++ m).toArray⟩ := by
  apply ByteArray.ext
  simp
/-- The library's table of powers. -/
def TabOk (w : World) : Prop := Go.Lib.TabIs Tryz.prog w "internal/strconv.uint64pow10" .u64 Go.Lib.pow10Tab
theorem TabOk.keep {w w' : World} (h : TabOk w) (hb : Below w.heap.size w w') : TabOk w' := by
  have hgn : Tryz.prog.globalNamed "internal/strconv.uint64pow10" = some 2 := by kernel_rfl
  unfold TabOk Go.Lib.TabIs World.var? at h ⊢
  rw [hgn] at h ⊢
  simp only [Option.bind_some] at h ⊢
  have hlt : 2 < w.heap.size := by
    rcases Nat.lt_or_ge 2 w.heap.size with h' | h'
    · exact h'
    · rw [Array.getElem?_eq_none h'] at h; cases h
  rw [hb.block _ hlt]
  exact h
theorem mvT {w w' : World} (h : Hid (TabOk w)) (hb : Below w.heap.size w w') : Hid (TabOk w') := Lib.hid (h.out.keep hb)
theorem itoaP {n : Nat} (hn : n ≤ 65536) (w : World) (ht : TabOk w) : Calls Tryz.prog 33 #[.int .i64 (n : Int)] w fun e w' => e = .returned (.string ⟨(Go.Lib.decDigits n).toArray⟩) ∧ Below w.heap.size w w' :=
  (Tryz.strconv_Itoa (n : Int) (by omega) (by omega) w ht).mono fun e w' ⟨h1, k, os, h2⟩ => ⟨by rw [h1]; unfold Go.Lib.itoa; rw [if_neg (by omega)]; simp, by
    subst h2
    exact ⟨rfl, rfl, rfl, by simp [Go.Sort.grow, World.drewN], fun b hb => by simp only [Go.Sort.grow, World.drewN]; rw [Array.getElem?_append_left hb]⟩⟩
theorem joinP {ws : List (List UInt8)} {A : Option Addr} {c : Nat} {S : Nat → Prop} {x : List UInt8} (w : World) (h : Sl strE S w A c ws) (hx : ws[0]? = some x) (h40 : ws.length ≤ 1000) (hl : (Go.Lib.join ws [32]).length ≤ 1000) :
    Calls Tryz.prog 34 #[.slice A ws.length c, .string ⟨#[32]⟩] w fun e w' => e = .returned (.string ⟨(Go.Lib.join ws [32]).toArray⟩) ∧ Below w.heap.size w w' := by
  obtain ⟨b, o, rfl, -, hlt, -⟩ := word_at h hx
  have e1 : (ws.map fun l : List UInt8 => (⟨l.toArray⟩ : ByteArray)).map (fun x => x.data.toList) = ws := by simp [Function.comp_def]
  have hc := Tryz.strings_Join b o c (ws.map fun l : List UInt8 => (⟨l.toArray⟩ : ByteArray)) ⟨#[32]⟩ w (fun j y hy => by
    rw [List.getElem?_map] at hy
    cases hr : ws[j]? with
    | none => rw [hr] at hy; cases hy
    | some r =>
      rw [hr] at hy
      simp only [Option.map_some, Option.some.injEq] at hy
      obtain ⟨b', o', e, -, -, hcell⟩ := word_at h hr
      simp only [Option.some.injEq, Addr.mk.injEq] at e
      obtain ⟨rfl, rfl, -⟩ := e
      rw [← hy]; exact hcell) hlt (by simp; omega) (by simpa using h.le) (by rw [e1]; have : (⟨#[32]⟩ : ByteArray).data.toList = [32] := rfl; rw [this]; omega)
  rw [e1, List.length_map] at hc
  exact hc
/-- A literal's row, of the call's own. -/
theorem Own.litN {α : Type} {E : Enc α} {S T : Nat → Prop} {w : World} {base : Nat} {e : TypeId} {cs : List Value} {xs : List α} {n : Nat} (hn : xs.length = n) (h : Elems E S w cs xs) (hm : n ≤ maxLen) (hb : base ≤ w.heap.size) (hs : ∀ b, S b → b < w.heap.size → T b) :
    Own E T (w.alloc (.cells cs.toArray e)) base e (.slice (some ⟨w.heap.size, 0, none⟩) n n) xs := by
  subst hn
  have hl := h.len
  exact ⟨cs, ⟨hl, .inr ⟨w.heap.size, xs.length, cs.toArray, rfl, hb, heap_alloc_new w _, Nat.le_refl _, hm, by simp [hl], by rw [← hl]; simp⟩⟩, (h.sub hs).keep ((Agree.refl T w).alloc _)⟩
/-- The words so far: in a row of the call's own, from w2 on. -/
structure FmSt (w2 : World) (v : Value) (ws : List (List UInt8)) (wx : World) : Prop where
  own : Own strE (fun _ => False) wx w2.heap.size 9 v ws
  bel : Below w2.heap.size w2 wx
theorem FmSt.call {w2 wx w' : World} {v : Value} {ws : List (List UInt8)} (h : FmSt w2 v ws wx) (hb : Below wx.heap.size wx w') : FmSt w2 v ws w' := ⟨h.own.call hb, h.bel.trans (hb.mono h.bel.size)⟩
theorem FmSt.app {w2 wx w6 : World} {v v' : Value} {ws zs : List (List UInt8)} {o : Obj} {S : Nat → Prop} (h : FmSt w2 v ws wx) (ho : Own strE S w6 w2.heap.size 9 v' zs) (hg : (wx.alloc o).grownBy w6 v.ownBlock) : FmSt w2 v' zs w6 :=
  ⟨ho.flat strE_flat, (h.bel.alloc h.bel.size o).grown hg (by have := h.bel.size; simp; omega) fun k hk => (h.own.lt k hk).1⟩
theorem FmSt.drew {w2 wx : World} {v : Value} {ws : List (List UInt8)} (h : FmSt w2 v ws wx) : FmSt w2 v ws wx.drew := ⟨h.own.drew, h.bel.drew⟩
theorem filtW_snoc (c : Cd) : ∀ (cs : List Cd) (n : Nat), filtW (cs ++ [c]) n = filtW cs n ++ condW (n + cs.length) c
  | [], n => by simp [filtW]
  | x :: cs, n => by simp only [List.cons_append, filtW]; rw [filtW_snoc c cs (n + 1), List.append_assoc, List.length_cons]; congr 3; omega
theorem fltsW_snoc (l : List Cd) : ∀ (ls : List (List Cd)) (i : Nat), fltsW (ls ++ [l]) i = fltsW ls i ++ ((if i + ls.length = 0 then [] else [withJ]) ++ filtW l 0)
  | [], i => by simp [fltsW]
  | x :: ls, i => by
    simp only [List.cons_append, fltsW]
    rw [fltsW_snoc l ls (i + 1), List.length_cons, show i + 1 + ls.length = i + (ls.length + 1) by omega]
    simp [List.append_assoc]
/-- A condition's box beside the words. -/
structure B18 (w2 : World) (gc : Nat) (o : Obj) (X : World) : Prop where
  bel : Below w2.heap.size w2 X
  row : X.heap[gc]? = some o
theorem B18.drew {w2 X : World} {gc : Nat} {o : Obj} (h : B18 w2 gc o X) : B18 w2 gc o X.drew := ⟨h.bel.drew, h.row⟩
theorem B18.alloc {w2 X : World} {gc : Nat} {o : Obj} (h : B18 w2 gc o X) (u : Obj) : B18 w2 gc o (X.alloc u) := ⟨h.bel.alloc h.bel.size u, (Below.heap_alloc _ _ _ (heap_lt h.row)).trans h.row⟩
theorem B18.call {w2 X Y : World} {gc : Nat} {o : Obj} (h : B18 w2 gc o X) (hb : Below X.heap.size X Y) : B18 w2 gc o Y := ⟨h.bel.trans (hb.mono h.bel.size), (hb.block _ (heap_lt h.row)).trans h.row⟩
theorem rng_eq (c : Cd) {a b : Nat} (ha : c.lo.toNat = a) (hb : c.hi.toNat = b) : (⟨(Go.Lib.decDigits a).toArray⟩ : ByteArray) ++ ⟨#[46, 46]⟩ ++ ⟨(Go.Lib.decDigits b).toArray⟩ = ⟨(rngW c).toArray⟩ := by
  subst ha; subst hb
  have e := str_app (Go.Lib.decDigits c.lo.toNat) [46, 46]
  rw [show (⟨[46, 46].toArray⟩ : ByteArray) = ⟨#[46, 46]⟩ from rfl] at e
  rw [e, str_app, List.append_assoc]
  rfl
def headW (q : Qy) : List (List UInt8) := kwL q.kind :: (colW q ++ numW q)
theorem headW_len (q : Qy) : (headW q).length ≤ 3 := by
  unfold headW colW numW
  split <;> split <;> simp
def paB1 : List FRow := [(0, ([], (11, []))), (1, ([], (12, [1]))), (2, ([1], (13, [11]))), (3, ([0, 2], (14, [10, 12]))), (4, ([], (4, []))), (5, ([4, 3, 0, 0, 1, 2, 3, 4], (0, [3, 13])))]
def paB4 : List FRow := [(0, ([], (20, [4]))), (1, ([], (21, []))), (2, ([], (22, [1]))), (3, ([2], (23, [21]))), (4, ([1, 3], (24, [20, 22]))), (5, ([4], (25, [23]))), (6, ([5], (26, [24]))), (7, ([0, 6, 1], (27, [19, 25]))), (8, ([7, 7, 0, 1, 2, 3, 4, 5, 6, 7], (5, [26])))]
def paB18 : List FRow := [(0, ([], (59, [4]))), (1, ([], (60, [9]))), (2, ([], (61, []))), (3, ([], (62, [8]))), (4, ([3], (63, [61]))), (5, ([2, 4], (64, [60, 62]))), (6, ([5], (65, [63]))), (7, ([], (66, [8]))), (8, ([7], (67, [65]))), (9, ([8, 2], (68, [66]))), (10, ([9], (69, [67]))), (11, ([], (70, [8]))), (12, ([11], (71, [69]))), (13, ([12, 9], (72, [70]))), (14, ([10, 13], (73, [68, 71]))), (15, ([1, 6, 14], (74, [59, 64, 72]))), (16, ([0, 15, 13], (75, [58, 73]))), (17, ([16, 16, 0, 1, 2, 3, 4, 5, 6, 7, 8, 9, 10, 11, 12, 13, 14, 15, 16], (5, [74])))]
set_option maxRecDepth 100000 in
set_option maxHeartbeats 8000000 in
theorem formatP {q : Qy} {A : Option Addr} {c : Nat} {S : Nat → Prop} (w : World) (ht : TabOk w) (hq : ValidQ q) (h : Sl cdE.slice S w A c q.fs) :
    Calls Tryz.prog 12 #[.agg #[.int .i64 q.kind, .int .i64 q.col, .int .i64 q.k, .slice A q.fs.length c]] w fun e w' => e = .returned (.string ⟨(fmtF q).toArray⟩) ∧ Below w.heap.size w w' := by
  have H := Lib.hid h
  have HV := Lib.hid hq
  have HT := Lib.hid ht
  have hm := h.max
  obtain ⟨hkk, ⟨hc0, hc3⟩, -, hk0, hkm, -, hfl⟩ := hq.head
  have hmk : maxKF q.kind ≤ 65536 := by unfold maxKF; split <;> (try split) <;> decide
  have hf2 : q.fs.length ≤ 2 := by rw [hfl]; unfold nFilF; split <;> omega
  clear h hq ht hfl
  go_enter Tryz.func12, Tryz.ntmps12
  go_upto_region 1 with fail
  refine wp_world (F := fun wx => Below w.heap.size w wx ∧ Hid (wx.heap[w.heap.size]? = some (.cells #[.int .i64 q.kind, .int .i64 q.col, .int .i64 q.k, .slice A q.fs.length c] 24 (0, 0)))) ⟨(by repeat' (first | with_reducible exact Below.refl _ _ | with_reducible assumption | with_reducible refine Below.setCell ?_ ?_ _ | with_reducible refine Below.drew ?_ | with_reducible refine below_drewN ?_ _ | with_reducible refine Below.alloc ?_ ?_ _ | (rintro _ ⟨⟩; simp <;> omega) | omega | (simp <;> omega))), Lib.hid (heap_alloc_at rfl)⟩ ?_
  rintro wr ⟨bb, gq⟩
  have b0 := Lib.hid bb
  replace H := Lib.hid (H.out.keep (Below.agree bb))
  have T0 := mvT HT bb
  clear bb HT
  go_cut [3] (fun p wx => ∃ g, p = .pointer (some ⟨g, 0, none⟩) ∧ wx.heap[g]? = some (.cells #[.string (kwF q.kind), .bool (hasColB q.kind), .int .i64 (maxKF q.kind), .int .i64 (nFormF q.kind)] 83 (0, 0)) ∧ Below wr.heap.size wr wx)
  case first =>
    have zq : ∀ W, Below wr.heap.size wr W → _ ∧ _ ∧ _ ∧ _ := fun W hW => row4 (mvQ gq hW)
    have br : Below wr.heap.size wr wr := Below.refl _ _
    have ba : ∀ W o, Below wr.heap.size wr W → Below wr.heap.size wr (W.alloc o) := fun W o h => h.alloc h.size o
    have bc : ∀ W W', Below wr.heap.size wr W → Below W.heap.size W W' → Below wr.heap.size wr W' := fun W W' h k => h.trans (k.mono h.size)
    refine wp_region_noPanic ?_
    refine wp_region_held_drew (S := fun X => Below wr.heap.size wr X) (by kernel_rfl) ?_ (fun hHeld => ?_)
    · (first | (repeat' (first | with_reducible assumption | exact Nat.le_refl _ | with_reducible refine Below.setCell ?_ ?_ _ | with_reducible refine Below.drew ?_ | with_reducible refine ba _ _ ?_ | omega)) | (first | with_reducible assumption | (with_reducible refine Below.drew ?_; with_reducible assumption) | (with_reducible refine ba _ _ ?_; with_reducible assumption) | (with_reducible refine Below.drew ?_; with_reducible refine ba _ _ ?_; with_reducible assumption) | exact Below.refl _ _ | exact (Below.refl _ _).drew | exact (Below.refl _ _).alloc (Nat.le_refl _) _ | (refine bc _ _ (by assumption) (by assumption))))
    refine RegOk.begin_ (n := 6) (T := paB1) ⟨by kernel_rfl, by kernel_rfl, by kernel_rfl, by kernel_rfl⟩ fun hR => ?_
    refine hR.take (i := 1) (oi := ?ow843_1) (v := ?vw843_1) (m' := 2) ?hw843_1 (by kernel_rfl) (by kernel_rfl) (fun _ _ _ h => h) (Or.inl ⟨?sw843_1, ?yw843_1⟩) (by assumption) ?nw843_1
    case hw843_1 => simp only [List.getElem?_toArray, List.getElem?_cons_succ, List.getElem?_cons_zero]; rfl
    case sw843_1 => rfl
    case yw843_1 => (intro w hSw; (try dsimp only at hSw); go_simp <;> with_reducible rfl)
    try simp only [Act.put, List.setIfInBounds_toArray, List.set_cons_zero, List.set_cons_succ]
    refine hR.take (i := 2) (oi := ?ow844_2) (v := ?vw844_2) (m' := 6) ?hw844_2 (by kernel_rfl) (by kernel_rfl) (fun _ _ _ h => h) (Or.inl ⟨?sw844_2, ?yw844_2⟩) (by assumption) ?nw844_2
    case hw844_2 => simp only [List.getElem?_toArray, List.getElem?_cons_succ, List.getElem?_cons_zero]; rfl
    case sw844_2 => rfl
    case yw844_2 => (intro w hSw; (try dsimp only at hSw); go_simp <;> with_reducible rfl)
    try simp only [Act.put, List.setIfInBounds_toArray, List.set_cons_zero, List.set_cons_succ]
    refine hR.come (rs := [0, 4]) (by kernel_rfl) (by simp) ?_
    refine AllReadyH.cons (o := ?o845_0) ?h845_0 (fun K hK => ?kw845_0) (AllReadyH.cons (o := ?o845_4) ?h845_4 (fun K hK => ?kw845_4) AllReadyH.nil)
    case h845_0 => simp only [List.getElem?_toArray, List.getElem?_cons_succ, List.getElem?_cons_zero]; rfl
    case h845_4 => simp only [List.getElem?_toArray, List.getElem?_cons_succ, List.getElem?_cons_zero]; rfl
    case kw845_0 =>
      go_simp
      go_at_call 31; refine (formsP _).mono ?_; rintro e w1 ⟨b, rfl, hbb, hM, hb1⟩; have hk := bc _ _ (by (first | with_reducible assumption | (with_reducible refine Below.drew ?_; with_reducible assumption) | (with_reducible refine ba _ _ ?_; with_reducible assumption) | (with_reducible refine Below.drew ?_; with_reducible refine ba _ _ ?_; with_reducible assumption) | exact Below.refl _ _ | exact (Below.refl _ _).drew | exact (Below.refl _ _).alloc (Nat.le_refl _) _ | (refine bc _ _ (by assumption) (by assumption)))) hb1; obtain ⟨hc1, hf1⟩ := bcell hb1; have hz1 := hb1.size; (try simp at hz1); (try have hl1 : wr.heap.size < w1.heap.size := (by omega))
      refine hK.out _ _ ?_ (fun hHeld => ?_)
      · (first | (repeat' (first | with_reducible assumption | exact Nat.le_refl _ | with_reducible refine Below.setCell ?_ ?_ _ | with_reducible refine Below.drew ?_ | with_reducible refine ba _ _ ?_ | omega)) | (first | with_reducible assumption | (with_reducible refine Below.drew ?_; with_reducible assumption) | (with_reducible refine ba _ _ ?_; with_reducible assumption) | (with_reducible refine Below.drew ?_; with_reducible refine ba _ _ ?_; with_reducible assumption) | exact Below.refl _ _ | exact (Below.refl _ _).drew | exact (Below.refl _ _).alloc (Nat.le_refl _) _ | (refine bc _ _ (by assumption) (by assumption))))
      clear hK K
      refine RegOk.put_ (m' := 7) (by kernel_rfl) ?_
      try simp only [Act.put, List.setIfInBounds_toArray, List.set_cons_zero, List.set_cons_succ]
      refine hR.come (rs := [3, 4]) (by kernel_rfl) (by simp) ?_
      refine AllReadyH.cons (o := ?o846_3) ?h846_3 (fun K hK => ?kw846_3) (AllReadyH.cons (o := ?o846_4) ?h846_4 (fun K hK => ?kw846_4) AllReadyH.nil)
      case h846_3 => simp only [List.getElem?_toArray, List.getElem?_cons_succ, List.getElem?_cons_zero]; rfl
      case h846_4 => simp only [List.getElem?_toArray, List.getElem?_cons_succ, List.getElem?_cons_zero]; rfl
      case kw846_3 =>
        refine step_lookup (by rfl) (by rfl) (by rfl) (by rfl) (forms_look0 (hM.below (by repeat' (first | exact Below.refl _ _ | with_reducible refine Below.drew ?_ | with_reducible refine Below.alloc ?_ (Nat.le_refl _) _))) q.kind) ?_
        refine hK.out _ _ ?_ (fun hHeld => ?_)
        · (first | (repeat' (first | with_reducible assumption | exact Nat.le_refl _ | with_reducible refine Below.setCell ?_ ?_ _ | with_reducible refine Below.drew ?_ | with_reducible refine ba _ _ ?_ | omega)) | (first | with_reducible assumption | (with_reducible refine Below.drew ?_; with_reducible assumption) | (with_reducible refine ba _ _ ?_; with_reducible assumption) | (with_reducible refine Below.drew ?_; with_reducible refine ba _ _ ?_; with_reducible assumption) | exact Below.refl _ _ | exact (Below.refl _ _).drew | exact (Below.refl _ _).alloc (Nat.le_refl _) _ | (refine bc _ _ (by assumption) (by assumption))))
        clear hK K
        refine RegOk.put_ (m' := 15) (by kernel_rfl) ?_
        try simp only [Act.put, List.setIfInBounds_toArray, List.set_cons_zero, List.set_cons_succ]
        refine hR.come (rs := [4]) (by kernel_rfl) (by simp) ?_
        refine AllReadyH.cons (o := ?o847_4) ?h847_4 (fun K hK => ?kw847_4) AllReadyH.nil
        case h847_4 => simp only [List.getElem?_toArray, List.getElem?_cons_succ, List.getElem?_cons_zero]; rfl
        go_simp <;> (try go_wp2_with fail)
        refine hK.out _ _ ?_ (fun hHeld => ?_)
        · (first | (repeat' (first | with_reducible assumption | exact Nat.le_refl _ | with_reducible refine Below.setCell ?_ ?_ _ | with_reducible refine Below.drew ?_ | with_reducible refine ba _ _ ?_ | omega)) | (first | with_reducible assumption | (with_reducible refine Below.drew ?_; with_reducible assumption) | (with_reducible refine ba _ _ ?_; with_reducible assumption) | (with_reducible refine Below.drew ?_; with_reducible refine ba _ _ ?_; with_reducible assumption) | exact Below.refl _ _ | exact (Below.refl _ _).drew | exact (Below.refl _ _).alloc (Nat.le_refl _) _ | (refine bc _ _ (by assumption) (by assumption))))
        clear hK K
        refine RegOk.put_ (m' := 31) (by kernel_rfl) ?_
        try simp only [Act.put, List.setIfInBounds_toArray, List.set_cons_zero, List.set_cons_succ]
        refine hR.come (rs := [5]) (by kernel_rfl) (by simp) ?_
        refine AllReadyH.cons (o := ?o848_5) ?h848_5 (fun K hK => ?kw848_5) AllReadyH.nil
        case h848_5 => simp only [List.getElem?_toArray, List.getElem?_cons_succ, List.getElem?_cons_zero]; rfl
        go_simp <;> (try go_wp2_with fail)
        refine hK.out _ _ ?_ (fun hHeld => ?_)
        · (first | (repeat' (first | with_reducible assumption | exact Nat.le_refl _ | with_reducible refine Below.setCell ?_ ?_ _ | with_reducible refine Below.drew ?_ | with_reducible refine ba _ _ ?_ | omega)) | (first | with_reducible assumption | (with_reducible refine Below.drew ?_; with_reducible assumption) | (with_reducible refine ba _ _ ?_; with_reducible assumption) | (with_reducible refine Below.drew ?_; with_reducible refine ba _ _ ?_; with_reducible assumption) | exact Below.refl _ _ | exact (Below.refl _ _).drew | exact (Below.refl _ _).alloc (Nat.le_refl _) _ | (refine bc _ _ (by assumption) (by assumption))))
        clear hK K
        refine RegOk.put_ (m' := 63) (by kernel_rfl) ?_
        try simp only [Act.put, List.setIfInBounds_toArray, List.set_cons_zero, List.set_cons_succ]
        refine hR.all (by kernel_rfl) ?_ _
        refine NoPanic.normal ?_
        go_wp2_with fail
        go_meet
        case rel =>
          refine ⟨_, rfl, ?_, by assumption⟩
          first
            | (with_reducible refine heap_alloc_at ?_; rfl)
            | (refine heap_set (i := 3) (heap_set (i := 2) (heap_set (i := 1) (heap_set (i := 0) (u := .string (kwF q.kind)) (cs := #[.string ⟨#[]⟩, .bool false, .int .i64 0, .int .i64 0]) ?_)))
               repeat' (first | (with_reducible refine heap_alloc_at ?_; first | rfl | (simp; done)) | with_reducible refine drew_get_ ?_ | with_reducible refine (hb1.block _ ?_).trans ?_ | with_reducible refine (Below.heap_alloc _ _ _ ?_).trans ?_ | (simp; done) | (simp; omega) | omega))
      case kw846_4 =>
        go_simp <;> (try go_wp2_with fail)
        refine hK.out _ _ ?_ (fun hHeld => ?_)
        · (first | (repeat' (first | with_reducible assumption | exact Nat.le_refl _ | with_reducible refine Below.setCell ?_ ?_ _ | with_reducible refine Below.drew ?_ | with_reducible refine ba _ _ ?_ | omega)) | (first | with_reducible assumption | (with_reducible refine Below.drew ?_; with_reducible assumption) | (with_reducible refine ba _ _ ?_; with_reducible assumption) | (with_reducible refine Below.drew ?_; with_reducible refine ba _ _ ?_; with_reducible assumption) | exact Below.refl _ _ | exact (Below.refl _ _).drew | exact (Below.refl _ _).alloc (Nat.le_refl _) _ | (refine bc _ _ (by assumption) (by assumption))))
        clear hK K
        refine RegOk.put_ (m' := 23) (by kernel_rfl) ?_
        try simp only [Act.put, List.setIfInBounds_toArray, List.set_cons_zero, List.set_cons_succ]
        refine hR.come (rs := [3]) (by kernel_rfl) (by simp) ?_
        refine AllReadyH.cons (o := ?o849_3) ?h849_3 (fun K hK => ?kw849_3) AllReadyH.nil
        case h849_3 => simp only [List.getElem?_toArray, List.getElem?_cons_succ, List.getElem?_cons_zero]; rfl
        refine step_lookup (by rfl) (by rfl) (by rfl) (by rfl) (forms_look0 (hM.below (by repeat' (first | exact Below.refl _ _ | with_reducible refine Below.drew ?_ | with_reducible refine Below.alloc ?_ (Nat.le_refl _) _))) q.kind) ?_
        refine hK.out _ _ ?_ (fun hHeld => ?_)
        · (first | (repeat' (first | with_reducible assumption | exact Nat.le_refl _ | with_reducible refine Below.setCell ?_ ?_ _ | with_reducible refine Below.drew ?_ | with_reducible refine ba _ _ ?_ | omega)) | (first | with_reducible assumption | (with_reducible refine Below.drew ?_; with_reducible assumption) | (with_reducible refine ba _ _ ?_; with_reducible assumption) | (with_reducible refine Below.drew ?_; with_reducible refine ba _ _ ?_; with_reducible assumption) | exact Below.refl _ _ | exact (Below.refl _ _).drew | exact (Below.refl _ _).alloc (Nat.le_refl _) _ | (refine bc _ _ (by assumption) (by assumption))))
        clear hK K
        refine RegOk.put_ (m' := 31) (by kernel_rfl) ?_
        try simp only [Act.put, List.setIfInBounds_toArray, List.set_cons_zero, List.set_cons_succ]
        refine hR.come (rs := [5]) (by kernel_rfl) (by simp) ?_
        refine AllReadyH.cons (o := ?o850_5) ?h850_5 (fun K hK => ?kw850_5) AllReadyH.nil
        case h850_5 => simp only [List.getElem?_toArray, List.getElem?_cons_succ, List.getElem?_cons_zero]; rfl
        go_simp <;> (try go_wp2_with fail)
        refine hK.out _ _ ?_ (fun hHeld => ?_)
        · (first | (repeat' (first | with_reducible assumption | exact Nat.le_refl _ | with_reducible refine Below.setCell ?_ ?_ _ | with_reducible refine Below.drew ?_ | with_reducible refine ba _ _ ?_ | omega)) | (first | with_reducible assumption | (with_reducible refine Below.drew ?_; with_reducible assumption) | (with_reducible refine ba _ _ ?_; with_reducible assumption) | (with_reducible refine Below.drew ?_; with_reducible refine ba _ _ ?_; with_reducible assumption) | exact Below.refl _ _ | exact (Below.refl _ _).drew | exact (Below.refl _ _).alloc (Nat.le_refl _) _ | (refine bc _ _ (by assumption) (by assumption))))
        clear hK K
        refine RegOk.put_ (m' := 63) (by kernel_rfl) ?_
        try simp only [Act.put, List.setIfInBounds_toArray, List.set_cons_zero, List.set_cons_succ]
        refine hR.all (by kernel_rfl) ?_ _
        refine NoPanic.normal ?_
        go_wp2_with fail
        go_meet
        case rel =>
          refine ⟨_, rfl, ?_, by assumption⟩
          first
            | (with_reducible refine heap_alloc_at ?_; rfl)
            | (refine heap_set (i := 3) (heap_set (i := 2) (heap_set (i := 1) (heap_set (i := 0) (u := .string (kwF q.kind)) (cs := #[.string ⟨#[]⟩, .bool false, .int .i64 0, .int .i64 0]) ?_)))
               repeat' (first | (with_reducible refine heap_alloc_at ?_; first | rfl | (simp; done)) | with_reducible refine drew_get_ ?_ | with_reducible refine (hb1.block _ ?_).trans ?_ | with_reducible refine (Below.heap_alloc _ _ _ ?_).trans ?_ | (simp; done) | (simp; omega) | omega))
    case kw845_4 =>
      go_simp <;> (try go_wp2_with fail)
      refine hK.out _ _ ?_ (fun hHeld => ?_)
      · (first | (repeat' (first | with_reducible assumption | exact Nat.le_refl _ | with_reducible refine Below.setCell ?_ ?_ _ | with_reducible refine Below.drew ?_ | with_reducible refine ba _ _ ?_ | omega)) | (first | with_reducible assumption | (with_reducible refine Below.drew ?_; with_reducible assumption) | (with_reducible refine ba _ _ ?_; with_reducible assumption) | (with_reducible refine Below.drew ?_; with_reducible refine ba _ _ ?_; with_reducible assumption) | exact Below.refl _ _ | exact (Below.refl _ _).drew | exact (Below.refl _ _).alloc (Nat.le_refl _) _ | (refine bc _ _ (by assumption) (by assumption))))
      clear hK K
      refine RegOk.put_ (m' := 22) (by kernel_rfl) ?_
      try simp only [Act.put, List.setIfInBounds_toArray, List.set_cons_zero, List.set_cons_succ]
      refine hR.come (rs := [0]) (by kernel_rfl) (by simp) ?_
      refine AllReadyH.cons (o := ?o851_0) ?h851_0 (fun K hK => ?kw851_0) AllReadyH.nil
      case h851_0 => simp only [List.getElem?_toArray, List.getElem?_cons_succ, List.getElem?_cons_zero]; rfl
      go_simp
      go_at_call 31; refine (formsP _).mono ?_; rintro e w1 ⟨b, rfl, hbb, hM, hb1⟩; have hk := bc _ _ (by (first | with_reducible assumption | (with_reducible refine Below.drew ?_; with_reducible assumption) | (with_reducible refine ba _ _ ?_; with_reducible assumption) | (with_reducible refine Below.drew ?_; with_reducible refine ba _ _ ?_; with_reducible assumption) | exact Below.refl _ _ | exact (Below.refl _ _).drew | exact (Below.refl _ _).alloc (Nat.le_refl _) _ | (refine bc _ _ (by assumption) (by assumption)))) hb1; obtain ⟨hc1, hf1⟩ := bcell hb1; have hz1 := hb1.size; (try simp at hz1); (try have hl1 : wr.heap.size < w1.heap.size := (by omega))
      refine hK.out _ _ ?_ (fun hHeld => ?_)
      · (first | (repeat' (first | with_reducible assumption | exact Nat.le_refl _ | with_reducible refine Below.setCell ?_ ?_ _ | with_reducible refine Below.drew ?_ | with_reducible refine ba _ _ ?_ | omega)) | (first | with_reducible assumption | (with_reducible refine Below.drew ?_; with_reducible assumption) | (with_reducible refine ba _ _ ?_; with_reducible assumption) | (with_reducible refine Below.drew ?_; with_reducible refine ba _ _ ?_; with_reducible assumption) | exact Below.refl _ _ | exact (Below.refl _ _).drew | exact (Below.refl _ _).alloc (Nat.le_refl _) _ | (refine bc _ _ (by assumption) (by assumption))))
      clear hK K
      refine RegOk.put_ (m' := 23) (by kernel_rfl) ?_
      try simp only [Act.put, List.setIfInBounds_toArray, List.set_cons_zero, List.set_cons_succ]
      refine hR.come (rs := [3]) (by kernel_rfl) (by simp) ?_
      refine AllReadyH.cons (o := ?o852_3) ?h852_3 (fun K hK => ?kw852_3) AllReadyH.nil
      case h852_3 => simp only [List.getElem?_toArray, List.getElem?_cons_succ, List.getElem?_cons_zero]; rfl
      refine step_lookup (by rfl) (by rfl) (by rfl) (by rfl) (forms_look0 (hM.below (by repeat' (first | exact Below.refl _ _ | with_reducible refine Below.drew ?_ | with_reducible refine Below.alloc ?_ (Nat.le_refl _) _))) q.kind) ?_
      refine hK.out _ _ ?_ (fun hHeld => ?_)
      · (first | (repeat' (first | with_reducible assumption | exact Nat.le_refl _ | with_reducible refine Below.setCell ?_ ?_ _ | with_reducible refine Below.drew ?_ | with_reducible refine ba _ _ ?_ | omega)) | (first | with_reducible assumption | (with_reducible refine Below.drew ?_; with_reducible assumption) | (with_reducible refine ba _ _ ?_; with_reducible assumption) | (with_reducible refine Below.drew ?_; with_reducible refine ba _ _ ?_; with_reducible assumption) | exact Below.refl _ _ | exact (Below.refl _ _).drew | exact (Below.refl _ _).alloc (Nat.le_refl _) _ | (refine bc _ _ (by assumption) (by assumption))))
      clear hK K
      refine RegOk.put_ (m' := 31) (by kernel_rfl) ?_
      try simp only [Act.put, List.setIfInBounds_toArray, List.set_cons_zero, List.set_cons_succ]
      refine hR.come (rs := [5]) (by kernel_rfl) (by simp) ?_
      refine AllReadyH.cons (o := ?o853_5) ?h853_5 (fun K hK => ?kw853_5) AllReadyH.nil
      case h853_5 => simp only [List.getElem?_toArray, List.getElem?_cons_succ, List.getElem?_cons_zero]; rfl
      go_simp <;> (try go_wp2_with fail)
      refine hK.out _ _ ?_ (fun hHeld => ?_)
      · (first | (repeat' (first | with_reducible assumption | exact Nat.le_refl _ | with_reducible refine Below.setCell ?_ ?_ _ | with_reducible refine Below.drew ?_ | with_reducible refine ba _ _ ?_ | omega)) | (first | with_reducible assumption | (with_reducible refine Below.drew ?_; with_reducible assumption) | (with_reducible refine ba _ _ ?_; with_reducible assumption) | (with_reducible refine Below.drew ?_; with_reducible refine ba _ _ ?_; with_reducible assumption) | exact Below.refl _ _ | exact (Below.refl _ _).drew | exact (Below.refl _ _).alloc (Nat.le_refl _) _ | (refine bc _ _ (by assumption) (by assumption))))
      clear hK K
      refine RegOk.put_ (m' := 63) (by kernel_rfl) ?_
      try simp only [Act.put, List.setIfInBounds_toArray, List.set_cons_zero, List.set_cons_succ]
      refine hR.all (by kernel_rfl) ?_ _
      refine NoPanic.normal ?_
      go_wp2_with fail
      go_meet
      case rel =>
        refine ⟨_, rfl, ?_, by assumption⟩
        first
          | (with_reducible refine heap_alloc_at ?_; rfl)
          | (refine heap_set (i := 3) (heap_set (i := 2) (heap_set (i := 1) (heap_set (i := 0) (u := .string (kwF q.kind)) (cs := #[.string ⟨#[]⟩, .bool false, .int .i64 0, .int .i64 0]) ?_)))
             repeat' (first | (with_reducible refine heap_alloc_at ?_; first | rfl | (simp; done)) | with_reducible refine drew_get_ ?_ | with_reducible refine (hb1.block _ ?_).trans ?_ | with_reducible refine (Below.heap_alloc _ _ _ ?_).trans ?_ | (simp; done) | (simp; omega) | omega))
  obtain ⟨g3, rfl, g3h, bb⟩ := hcut
  obtain ⟨w2, hwv⟩ : ∃ x, x = wc := ⟨_, rfl⟩
  subst hwv
  have B2 := Lib.hid (b0.out.trans (bb.mono b0.out.size))
  have H2 := Lib.hid (H.out.keep (Below.agree bb))
  have gq2 := mvQ gq bb
  have T2 := mvT T0 bb
  rw [kw_eq] at g3h
  have gf2 := Lib.hid g3h
  clear bb g3h b0 H gq T0
  have hzq : ∀ W, Below w2.heap.size w2 W → _ ∧ _ ∧ _ ∧ _ := fun W hW => row4 (mvQ gq2 hW)
  have hzf : ∀ W, Below w2.heap.size w2 W → _ ∧ _ ∧ _ ∧ _ := fun W hW => row4 (mvQ gf2 hW)
  have lq := heap_lt gq2.out
  have lf := heap_lt gf2.out
  obtain ⟨cn, hcn⟩ : ∃ n : Nat, q.col = n := ⟨q.col.toNat, by omega⟩
  obtain ⟨kn, hkn⟩ : ∃ n : Nat, q.k = n := ⟨q.k.toNat, by omega⟩
  have hcn4 : cn < 4 := by omega
  have hkn5 : kn ≤ 65536 := by omega
  have HCW := Lib.hid (show colW q = if hasColB q.kind then [nmF cn] else [] by unfold colW; rw [hcn]; rfl)
  have HNW := Lib.hid (show numW q = if 0 < maxKF q.kind then [Go.Lib.decDigits kn] else [] by unfold numW; rw [hkn]; rfl)
  rw [hcn, hkn] at gq2
  clear hcn hkn hc0 hc3 hk0 hkm hzq
  have hzq : ∀ W, Below w2.heap.size w2 W → _ ∧ _ ∧ _ ∧ _ := fun W hW => row4 (mvQ gq2 hW)
  obtain ⟨f0, f1, f2, f3⟩ := hzf w2 (Below.refl _ _)
  go_upto_if 18 with fail
  refine wp_world (F := fun wx => Hid (FmSt w2 (.slice (some ⟨w2.heap.size, 0, none⟩) 1 1) [kwL q.kind] wx)) (Lib.hid ⟨Own.litN (S := fun _ => False) rfl (.single rfl) (by unfold maxLen; omega) (Nat.le_refl _) (fun _ h _ => h), (by repeat' (first | with_reducible exact Below.refl _ _ | with_reducible assumption | with_reducible refine Below.setCell ?_ ?_ _ | with_reducible refine Below.drew ?_ | with_reducible refine below_drewN ?_ _ | with_reducible refine Below.alloc ?_ ?_ _ | (rintro _ ⟨⟩; simp <;> omega) | omega | (simp <;> omega)))⟩) ?_
  intro w3 S3
  go_cut [4] (fun v wx => ∃ A k c, v = .slice A k c ∧ (kwL q.kind :: colW q).length = k ∧ FmSt w2 (.slice A k c) (kwL q.kind :: colW q) wx)
  case first =>
    have hcw := HCW.out
    cases hc : hasColB q.kind with
    | false =>
      rw [hc, if_neg (by simp)] at hcw
      have HE := Lib.hid hcw
      clear hcw
      go_wp2_with fail
      go_meet
      case rel => exact ⟨_, 1, 1, rfl, by rw [HE.out]; rfl, by rw [HE.out]; exact S3.out⟩
    | true =>
      rw [hc, if_pos rfl] at hcw
      have HE := Lib.hid hcw
      clear hcw
      have hci0 : (0 : Int) ≤ (cn : Int) := by omega
      have hci4 : (cn : Int) < 4 := by omega
      have br : Below w2.heap.size w2 w3 := S3.out.bel
      have ba : ∀ W o, Below w2.heap.size w2 W → Below w2.heap.size w2 (W.alloc o) := fun W o h => h.alloc h.size o
      have bc : ∀ W W', Below w2.heap.size w2 W → Below W.heap.size W W' → Below w2.heap.size w2 W' := fun W W' h k => h.trans (k.mono h.size)
      have lo := S3.out.own.lt
      have hz2 := S3.out.bel.size
      go_upto_region 4 with fail
      refine wp_region_noPanic ?_
      refine wp_region_held_drew (S := fun X => Below w2.heap.size w2 X) (by kernel_rfl) ?_ (fun hHeld => ?_)
      · (first | exact hk9 | (with_reducible refine hk9.drew) | (first | with_reducible assumption | (with_reducible refine Below.drew ?_; with_reducible assumption) | (with_reducible refine ba _ _ ?_; with_reducible assumption) | (with_reducible refine Below.drew ?_; with_reducible refine ba _ _ ?_; with_reducible assumption) | exact Below.refl _ _ | exact (Below.refl _ _).drew | exact (Below.refl _ _).alloc (Nat.le_refl _) _ | (refine bc _ _ (by assumption) (by assumption))))
      refine RegOk.begin_ (n := 9) (T := paB4) ⟨by kernel_rfl, by kernel_rfl, by kernel_rfl, by kernel_rfl⟩ fun hR => ?_
      refine hR.take (i := 0) (oi := ?ow854_0) (v := ?vw854_0) (m' := 1) ?hw854_0 (by kernel_rfl) (by kernel_rfl) (fun _ _ _ h => h) (Or.inl ⟨?sw854_0, ?yw854_0⟩) (by assumption) ?nw854_0
      case hw854_0 => simp only [List.getElem?_toArray, List.getElem?_cons_succ, List.getElem?_cons_zero]; rfl
      case sw854_0 => rfl
      case yw854_0 => (intro w hSw; (try dsimp only at hSw); go_simp <;> with_reducible rfl)
      try simp only [Act.put, List.setIfInBounds_toArray, List.set_cons_zero, List.set_cons_succ]
      refine hR.take (i := 2) (oi := ?ow855_2) (v := ?vw855_2) (m' := 5) ?hw855_2 (by kernel_rfl) (by kernel_rfl) (fun _ _ _ h => h) (Or.inl ⟨?sw855_2, ?yw855_2⟩) (by assumption) ?nw855_2
      case hw855_2 => simp only [List.getElem?_toArray, List.getElem?_cons_succ, List.getElem?_cons_zero]; rfl
      case sw855_2 => rfl
      case yw855_2 => (intro w hSw; (try dsimp only at hSw); go_simp <;> with_reducible rfl)
      try simp only [Act.put, List.setIfInBounds_toArray, List.set_cons_zero, List.set_cons_succ]
      refine hR.take (i := 3) (oi := ?ow856_3) (v := ?vw856_3) (m' := 13) ?hw856_3 (by kernel_rfl) (by kernel_rfl) (fun _ _ _ h => h) (Or.inl ⟨?sw856_3, ?yw856_3⟩) (by assumption) ?nw856_3
      case hw856_3 => simp only [List.getElem?_toArray, List.getElem?_cons_succ, List.getElem?_cons_zero]; rfl
      case sw856_3 => rfl
      case yw856_3 => (intro w hSw; (try dsimp only at hSw); go_simp <;> with_reducible rfl)
      try simp only [Act.put, List.setIfInBounds_toArray, List.set_cons_zero, List.set_cons_succ]
      refine hR.come (rs := [1]) (by kernel_rfl) (by simp) ?_
      refine AllReadyH.cons (o := ?o857_1) ?h857_1 (fun K hK => ?kw857_1) AllReadyH.nil
      case h857_1 => simp only [List.getElem?_toArray, List.getElem?_cons_succ, List.getElem?_cons_zero]; rfl
      go_simp
      go_at_call 32; refine (columnsC _).mono ?_; rintro e wA ⟨rfl, hr, hbA⟩; have hk := bc _ _ (by (first | with_reducible assumption | (with_reducible refine Below.drew ?_; with_reducible assumption) | (with_reducible refine ba _ _ ?_; with_reducible assumption) | (with_reducible refine Below.drew ?_; with_reducible refine ba _ _ ?_; with_reducible assumption) | exact Below.refl _ _ | exact (Below.refl _ _).drew | exact (Below.refl _ _).alloc (Nat.le_refl _) _ | (refine bc _ _ (by assumption) (by assumption)))) hbA; have hk3 : Below w3.heap.size w3 wA := (Below.refl _ _).drew.trans hbA; have hcell : wA.cell? ⟨w3.heap.size, cn, none⟩ = some (.string ⟨(nmF cn).toArray⟩) := nm_cell hr hcn4; have hzA := hbA.size; (try simp at hzA); have lA : w3.heap.size < wA.heap.size := heap_lt hr; clear hr
      refine hK.out _ _ ?_ (fun hHeld => ?_)
      · (first | exact hk9 | (with_reducible refine hk9.drew) | (first | with_reducible assumption | (with_reducible refine Below.drew ?_; with_reducible assumption) | (with_reducible refine ba _ _ ?_; with_reducible assumption) | (with_reducible refine Below.drew ?_; with_reducible refine ba _ _ ?_; with_reducible assumption) | exact Below.refl _ _ | exact (Below.refl _ _).drew | exact (Below.refl _ _).alloc (Nat.le_refl _) _ | (refine bc _ _ (by assumption) (by assumption))))
      clear hK K
      refine RegOk.put_ (m' := 15) (by kernel_rfl) ?_
      try simp only [Act.put, List.setIfInBounds_toArray, List.set_cons_zero, List.set_cons_succ]
      refine hR.take (i := 4) (oi := ?ow858_4) (v := ?vw858_4) (m' := 31) ?hw858_4 (by kernel_rfl) (by kernel_rfl) (fun _ _ _ h => h) (Or.inl ⟨?sw858_4, ?yw858_4⟩) (by assumption) ?nw858_4
      case hw858_4 => simp only [List.getElem?_toArray, List.getElem?_cons_succ, List.getElem?_cons_zero]; rfl
      case sw858_4 => rfl
      case yw858_4 => (intro w hSw; (try dsimp only at hSw); go_simp <;> with_reducible rfl)
      try simp only [Act.put, List.setIfInBounds_toArray, List.set_cons_zero, List.set_cons_succ]
      refine hR.come (rs := [5]) (by kernel_rfl) (by simp) ?_
      refine AllReadyH.cons (o := ?o859_5) ?h859_5 (fun K hK => ?kw859_5) AllReadyH.nil
      case h859_5 => simp only [List.getElem?_toArray, List.getElem?_cons_succ, List.getElem?_cons_zero]; rfl
      go_simp <;> (try go_wp2_with fail)
      refine hK.out _ _ ?_ (fun hHeld => ?_)
      · (first | exact hk9 | (with_reducible refine hk9.drew) | (first | with_reducible assumption | (with_reducible refine Below.drew ?_; with_reducible assumption) | (with_reducible refine ba _ _ ?_; with_reducible assumption) | (with_reducible refine Below.drew ?_; with_reducible refine ba _ _ ?_; with_reducible assumption) | exact Below.refl _ _ | exact (Below.refl _ _).drew | exact (Below.refl _ _).alloc (Nat.le_refl _) _ | (refine bc _ _ (by assumption) (by assumption))))
      clear hK K
      refine RegOk.put_ (m' := 63) (by kernel_rfl) ?_
      try simp only [Act.put, List.setIfInBounds_toArray, List.set_cons_zero, List.set_cons_succ]
      refine hR.come (rs := [6]) (by kernel_rfl) (by simp) ?_
      refine AllReadyH.cons (o := ?o860_6) ?h860_6 (fun K hK => ?kw860_6) AllReadyH.nil
      case h860_6 => simp only [List.getElem?_toArray, List.getElem?_cons_succ, List.getElem?_cons_zero]; rfl
      go_simp <;> (try go_wp2_with fail)
      refine hK.out _ _ ?_ (fun hHeld => ?_)
      · (first | exact hk9 | (with_reducible refine hk9.drew) | (first | with_reducible assumption | (with_reducible refine Below.drew ?_; with_reducible assumption) | (with_reducible refine ba _ _ ?_; with_reducible assumption) | (with_reducible refine Below.drew ?_; with_reducible refine ba _ _ ?_; with_reducible assumption) | exact Below.refl _ _ | exact (Below.refl _ _).drew | exact (Below.refl _ _).alloc (Nat.le_refl _) _ | (refine bc _ _ (by assumption) (by assumption))))
      clear hK K
      refine RegOk.put_ (m' := 127) (by kernel_rfl) ?_
      try simp only [Act.put, List.setIfInBounds_toArray, List.set_cons_zero, List.set_cons_succ]
      refine hR.come (rs := [7]) (by kernel_rfl) (by simp) ?_
      refine AllReadyH.cons (o := ?o861_7) ?h861_7 (fun K hK => ?kw861_7) AllReadyH.nil
      case h861_7 => simp only [List.getElem?_toArray, List.getElem?_cons_succ, List.getElem?_cons_zero]; rfl
      refine step_append_E (E := strE) (S := fun b => b = wA.heap.size) rfl (.tmp 19) (.tmp 25) rfl strsT (base := w2.heap.size) (v := .slice (some ⟨w2.heap.size, 0, none⟩) 1 1) (xs := [kwL q.kind]) (ys := [nmF cn]) (by rfl) (by rfl) rfl (nz := 2) (by rfl) (((S3.out.own.flat strE_flat).call hk3).alloc _) (Sl.litAt (S := fun b => b = wA.heap.size) rfl (.single rfl) (by unfold maxLen; simp) (fun _ h _ => h) rfl) (by unfold maxLen; simp) (by simp) (by simp; omega) (fun g' hg' (hs : g' = wA.heap.size) => by have := (lo g' hg').2; omega) ?_; intro A6 c6 w6 hown6 hg6 hor6; have HF := Lib.hid ((S3.out.call hk3).app hown6 hg6); have hk9 := HF.out.bel
      refine hK.out _ _ ?_ (fun hHeld => ?_)
      · (first | exact hk9 | (with_reducible refine hk9.drew) | (first | with_reducible assumption | (with_reducible refine Below.drew ?_; with_reducible assumption) | (with_reducible refine ba _ _ ?_; with_reducible assumption) | (with_reducible refine Below.drew ?_; with_reducible refine ba _ _ ?_; with_reducible assumption) | exact Below.refl _ _ | exact (Below.refl _ _).drew | exact (Below.refl _ _).alloc (Nat.le_refl _) _ | (refine bc _ _ (by assumption) (by assumption))))
      clear hK K
      refine RegOk.put_ (m' := 255) (by kernel_rfl) ?_
      try simp only [Act.put, List.setIfInBounds_toArray, List.set_cons_zero, List.set_cons_succ]
      refine hR.take (i := 8) (oi := ?ow862_8) (v := ?vw862_8) (m' := 511) ?hw862_8 (by kernel_rfl) (by kernel_rfl) (fun _ _ _ h => h) (Or.inl ⟨?sw862_8, ?yw862_8⟩) (by assumption) ?nw862_8
      case hw862_8 => simp only [List.getElem?_toArray, List.getElem?_cons_succ, List.getElem?_cons_zero]; rfl
      case sw862_8 => rfl
      case yw862_8 => (intro w hSw; (try dsimp only at hSw); go_simp <;> with_reducible rfl)
      try simp only [Act.put, List.setIfInBounds_toArray, List.set_cons_zero, List.set_cons_succ]
      refine hR.all (by kernel_rfl) ?_ _
      refine NoPanic.normal ?_
      go_wp2_with fail
      go_meet
      case rel => exact ⟨A6, 2, c6, rfl, by rw [HE.out]; rfl, by rw [HE.out]; exact HF.out⟩
  obtain ⟨A4, k4, c4, rfl, hk4, hst⟩ := hcut
  obtain ⟨w4, hwv⟩ : ∃ x, x = wc := ⟨_, rfl⟩
  subst hwv
  have S4 := Lib.hid hst
  have HK4 := Lib.hid hk4
  have hk42 : k4 ≤ 2 := by rw [← hk4, HCW.out]; split <;> simp
  clear hst hk4 S3 f0 f1 f2 f3
  obtain ⟨f0, f1, f2, f3⟩ := hzf w4 S4.out.bel
  go_upto_if 29 with fail
  go_cut [4] (fun v wx => ∃ A k c, v = .slice A k c ∧ (headW q).length = k ∧ FmSt w2 (.slice A k c) (headW q) wx)
  case first =>
    have hnw := HNW.out
    by_cases h0 : 0 < maxKF q.kind
    · rw [if_pos h0] at hnw
      have HE := Lib.hid (show headW q = (kwL q.kind :: colW q) ++ [Go.Lib.decDigits kn] by unfold headW; rw [hnw]; rfl)
      clear hnw
      obtain ⟨q0, q1, q2, q3⟩ := hzq w4 S4.out.bel
      have T4 := mvT T2 S4.out.bel
      go_wp2_with (first
        | (go_at_call 33; refine (itoaP (n := kn) hkn5 _ T4.out).mono ?_; rintro e w5 ⟨rfl, hb5⟩; have S5 := Lib.hid (S4.out.call hb5); have lo := S5.out.own.lt; have hz5 := S5.out.bel.size; clear hb5)
        | (at_builtin; go_must ((refine wpList_append_E (E := strE) (S := fun b => b = w5.heap.size) rfl (.tmp 30) (.tmp 34) rfl strsT (base := w2.heap.size) (v := .slice A4 k4 c4) (xs := kwL q.kind :: colW q) (ys := [Go.Lib.decDigits kn]) (by rfl) (by rfl) rfl (nz := k4 + 1) (by rw [List.length_append, HK4.out]; rfl) ((S5.out.own.flat strE_flat).alloc _) (Sl.litAt (S := fun b => b = w5.heap.size) rfl (.single rfl) (by unfold maxLen; simp) (fun _ h _ => h) rfl) (by unfold maxLen; rw [HK4.out]; simp; omega) (by rw [HK4.out]; simp; omega) (by simp; omega) (fun g' hg' (hs : g' = w5.heap.size) => absurd (lo g' hg').2 (by omega)) ?_; intro A6 c6 w6 hown6 hg6 hor6))))
      go_meet
      case rel => exact ⟨A6, k4 + 1, c6, rfl, by rw [HE.out, List.length_append, HK4.out]; rfl, by rw [HE.out]; exact S5.out.app hown6 hg6⟩
    · rw [if_neg h0] at hnw
      have HE := Lib.hid (show headW q = kwL q.kind :: colW q by unfold headW; rw [hnw, List.append_nil])
      clear hnw
      go_wp2_with fail
      go_meet
      case rel => exact ⟨A4, k4, c4, rfl, by rw [HE.out, HK4.out], by rw [HE.out]; exact S4.out⟩
  obtain ⟨A5, k5, c5, rfl, hk5, hst⟩ := hcut
  obtain ⟨w5, hwv⟩ : ∃ x, x = wc := ⟨_, rfl⟩
  subst hwv
  have S5 := Lib.hid hst
  have hk53 : k5 ≤ 3 := by rw [← hk5]; exact headW_len q
  have HK5 := Lib.hid hk5
  clear hst S4 f0 f1 f2 f3 HK4 hk5
  obtain ⟨q0, q1, q2, q3⟩ := hzq w5 S5.out.bel
  go_wp2_with fail
  go_loopw [4, 39] (fun v i wr => ∃ (j : Nat) (A1 : Option Addr) (k c1 : Nat), j ≤ q.fs.length ∧ i = .int .i64 j ∧ v = .slice A1 k c1 ∧ k ≤ 3 + 13 * j ∧ Hid ((headW q ++ fltsW (q.fs.take j) 0).length = k) ∧ Hid (FmSt w2 (.slice A1 k c1) (headW q ++ fltsW (q.fs.take j) 0) wr)) (fun _ i _ => q.fs.length - (intOf i).toNat)
  case atStart => exact ⟨0, A5, k5, c5, Nat.zero_le _, rfl, rfl, by omega, Lib.hid (by rw [List.take_zero]; show (headW q ++ []).length = k5; rw [List.append_nil]; exact HK5.out), Lib.hid (by rw [List.take_zero]; show FmSt w2 _ (headW q ++ []) _; rw [List.append_nil]; exact S5.out)⟩
  case round =>
    obtain ⟨j, A1, k, c1, hj, rfl, rfl, hk, HK, HS⟩ := hrel
    have hj0 : (0 : Int) ≤ (j : Int) := by omega
    obtain ⟨ws, hws⟩ : ∃ ws, headW q ++ fltsW (q.fs.take j) 0 = ws := ⟨_, rfl⟩
    rw [hws] at HK HS
    by_cases hlt : j < q.fs.length
    · have hj1 : (j : Int) < (q.fs.length : Int) := by omega
      obtain ⟨l, hl⟩ : ∃ l, q.fs[j]? = some l := ⟨_, List.getElem?_eq_getElem hlt⟩
      have hvl := HV.out.flt l (List.mem_of_getElem? hl)
      have HVL := Lib.hid hvl.2
      have hl3 := hvl.1
      have HNX := Lib.hid (show headW q ++ fltsW (q.fs.take (j + 1)) 0 = ws ++ ((if j = 0 then [] else [withJ]) ++ filtW l 0) by
        rw [take_snocR hl, fltsW_snoc, ← List.append_assoc, hws, List.length_take, Nat.min_eq_left (Nat.le_of_lt hlt), Nat.zero_add])
      obtain ⟨b1, o1, B1, d1, eA, -, l1, z1, hs1⟩ := flt_at H2.out hl
      have HS1 := Lib.hid hs1
      have zb1 := (World.cell?_of_block (a := ⟨b1, o1 + j, none⟩) (HS.out.bel.block b1 l1)).trans z1
      clear hvl hl hs1 z1 hws
      subst eA
      go_upto_if 45 with fail
      go_cut [4] (fun v wx => ∃ A k' c, v = .slice A k' c ∧ (ws ++ (if j = 0 then [] else [withJ])).length = k' ∧ k' ≤ 4 + 13 * j ∧ FmSt w2 (.slice A k' c) (ws ++ (if j = 0 then [] else [withJ])) wx)
      case first =>
        by_cases hj00 : j = 0
        · have g1 : ¬ (0 : Int) < (j : Int) := by omega
          have HE := Lib.hid (show ws ++ (if j = 0 then [] else [withJ]) = ws by rw [if_pos hj00, List.append_nil])
          clear hj00
          go_wp2_with fail
          go_meet
          case rel => exact ⟨A1, k, c1, rfl, by rw [HE.out]; exact HK.out, by omega, by rw [HE.out]; exact HS.out⟩
        · have g1 : (0 : Int) < (j : Int) := by omega
          have HE := Lib.hid (show ws ++ (if j = 0 then [] else [withJ]) = ws ++ [withJ] by rw [if_neg hj00])
          clear hj00
          have lo := HS.out.own.lt
          have hz := HS.out.bel.size
          go_wp2_with (at_builtin; go_must ((refine wpList_append_E (E := strE) (S := fun b => b = wr.heap.size) rfl (.tmp 46) (.tmp 47) rfl strsT (base := w2.heap.size) (v := .slice A1 k c1) (xs := ws) (ys := [withJ]) (by rfl) (by rfl) rfl (nz := k + 1) (by rw [List.length_append, HK.out]; rfl) ((HS.out.own.flat strE_flat).alloc _) (Sl.litAt (S := fun b => b = wr.heap.size) rfl (.single rfl) (by unfold maxLen; simp) (fun _ h _ => h) rfl) (by unfold maxLen; rw [HK.out]; simp; omega) (by rw [HK.out]; simp; omega) (by simp; omega) (fun g' hg' (hs : g' = wr.heap.size) => absurd (lo g' hg').2 (by omega)) ?_; intro A6 c6 w6 hown6 hg6 hor6)))
          go_meet
          case rel => exact ⟨A6, k + 1, c6, rfl, by rw [HE.out, List.length_append, HK.out]; rfl, by omega, by rw [HE.out]; exact HS.out.app hown6 hg6⟩
      obtain ⟨A7, k7, c7, rfl, hk7, hk7b, hst⟩ := hcut
      obtain ⟨w7, hwv⟩ : ∃ x, x = wc := ⟨_, rfl⟩
      subst hwv
      obtain ⟨w7s, hw7s⟩ : ∃ x, ws ++ (if j = 0 then [] else [withJ]) = x := ⟨_, rfl⟩
      rw [hw7s] at hk7 hst
      have HN2 := Lib.hid (show headW q ++ fltsW (q.fs.take (j + 1)) 0 = w7s ++ filtW l 0 by rw [HNX.out, ← List.append_assoc, hw7s])
      have S7 := Lib.hid hst
      have HK7 := Lib.hid hk7
      clear hst hk7 HNX hw7s HS HK zb1
      go_wp2_with fail
      go_loopw [4, 51] (fun v i wr => ∃ (i' : Nat) (A1 : Option Addr) (k c1 : Nat), i' ≤ l.length ∧ i = .int .i64 i' ∧ v = .slice A1 k c1 ∧ k ≤ 4 + 13 * j + 4 * i' ∧ Hid ((w7s ++ filtW (l.take i') 0).length = k) ∧ Hid (FmSt w2 (.slice A1 k c1) (w7s ++ filtW (l.take i') 0) wr)) (fun _ i _ => l.length - (intOf i).toNat)
      case atStart => exact ⟨0, A7, k7, c7, Nat.zero_le _, rfl, rfl, by omega, Lib.hid (by rw [List.take_zero]; show (w7s ++ []).length = k7; rw [List.append_nil]; exact HK7.out), Lib.hid (by rw [List.take_zero]; show FmSt w2 _ (w7s ++ []) _; rw [List.append_nil]; exact S7.out)⟩
      case round =>
        obtain ⟨i, A8, k8, c8, hi, rfl, rfl, hk8, HK8, HS8⟩ := hrel
        have hi0 : (0 : Int) ≤ (i : Int) := by omega
        obtain ⟨vs, hvs⟩ : ∃ vs, w7s ++ filtW (l.take i) 0 = vs := ⟨_, rfl⟩
        rw [hvs] at HK8 HS8
        by_cases hlt2 : i < l.length
        · have hi1 : (i : Int) < (l.length : Int) := by omega
          obtain ⟨x, hx⟩ : ∃ x, l[i]? = some x := ⟨_, List.getElem?_eq_getElem hlt2⟩
          obtain ⟨⟨hxc0, hxc3⟩, hxl, hxh, hxm⟩ := HVL.out x (List.mem_of_getElem? hx)
          have hx255 := maxC_le x.col
          obtain ⟨xn, hxn⟩ : ∃ n : Nat, x.col = n := ⟨x.col.toNat, by omega⟩
          obtain ⟨ln, hln⟩ : ∃ n : Nat, x.lo = n := ⟨x.lo.toNat, by omega⟩
          obtain ⟨hn, hhn⟩ : ∃ n : Nat, x.hi = n := ⟨x.hi.toNat, by omega⟩
          have hxn4 : xn < 4 := by omega
          have hln5 : ln ≤ 65536 := by omega
          have hhn5 : hn ≤ 65536 := by omega
          obtain ⟨b2, o2, rfl, -, l2, y0, y1, y2⟩ := cd_at HS1.out hx
          rw [hxn] at y0
          rw [hln] at y1
          rw [hhn] at y2
          have zc0 := (HS8.out.bel.cell (p := ⟨b2, _, none⟩) l2).trans y0
          have zc1 := (HS8.out.bel.cell (p := ⟨b2, _, none⟩) l2).trans y1
          have zc2 := (HS8.out.bel.cell (p := ⟨b2, _, none⟩) l2).trans y2
          have HRG := Lib.hid (rng_eq x (a := ln) (b := hn) (by omega) (by omega))
          have HVS := Lib.hid (show w7s ++ filtW (l.take (i + 1)) 0 = vs ++ [joinN i, nmF xn, inJ, rngW x] by
            rw [take_snocR hx, filtW_snoc, ← List.append_assoc, hvs, List.length_take, Nat.min_eq_left (Nat.le_of_lt hlt2), Nat.zero_add]
            unfold condW
            rw [show x.col.toNat = xn by omega])
          clear hx hxc0 hxc3 hxl hxh hxm hx255 hxn hln hhn y0 y1 y2 hvs
          have hz8 := HS8.out.bel.size
          have l2r : b2 < wr.heap.size := by omega
          go_upto_region 15 with fail
          refine wp_world (F := fun wx => Hid (FmSt w2 (.slice A8 k8 c8) vs wx) ∧ Hid (B18 w2 wr.heap.size (.cells #[.int .i64 (xn : Int), .int .i64 (ln : Int), .int .i64 (hn : Int)] 90 (0, 0)) wx)) ⟨Lib.hid (HS8.out.call ((Below.refl _ _).alloc (Nat.le_refl _) _)), Lib.hid ⟨HS8.out.bel.alloc HS8.out.bel.size _, heap_alloc_at rfl⟩⟩ ?_
          rintro w9 ⟨S9, X9⟩
          obtain ⟨gc, hgc⟩ : ∃ g, g = wr.heap.size := ⟨_, rfl⟩
          rw [← hgc] at X9 ⊢
          have hlo9 : ∀ k, (Value.slice A8 k8 c8).ownBlock = some k → k ≠ gc := fun k hk => by have := (HS8.out.own.lt k hk).2; omega
          clear hgc l2r hz8 zc0 zc1 zc2 HS8
          go_upto_if 57 with fail
          go_cut [9] (fun u wx => u = .string ⟨(joinN i).toArray⟩ ∧ wx = w9)
          case first =>
            by_cases hi00 : i = 0
            · have g1 : ¬ (0 : Int) < (i : Int) := by omega
              have HE := Lib.hid (show joinN i = whereJ by unfold joinN; rw [if_pos hi00])
              clear hi00
              go_wp2_with fail
              go_meet
              case rel => exact ⟨by rw [HE.out]; rfl, rfl⟩
            · have g1 : (0 : Int) < (i : Int) := by omega
              have HE := Lib.hid (show joinN i = andJ by unfold joinN; rw [if_neg hi00])
              clear hi00
              go_wp2_with fail
              go_meet
              case rel => exact ⟨by rw [HE.out]; rfl, rfl⟩
          obtain ⟨rfl, rfl⟩ := hcut
          obtain ⟨jw, hjw⟩ : ∃ jw, joinN i = jw := ⟨_, rfl⟩
          rw [hjw] at HVS ⊢
          clear hjw
          obtain ⟨w9, hwv⟩ : ∃ x, x = wc := ⟨_, rfl⟩
          subst hwv
          have z8 : ∀ X, B18 w2 gc (.cells #[.int .i64 (xn : Int), .int .i64 (ln : Int), .int .i64 (hn : Int)] 90 (0, 0)) X → _ ∧ _ ∧ _ := fun X hX => row3P (Lib.hid hX.row)
          have br := X9.out
          have dl1 := dec_len 4 (u := ln) (by omega)
          have dl2 := dec_len 4 (u := hn) (by omega)
          have g5 : ¬ 9223372036854775807 < (Go.Lib.decDigits ln).length + 2 := by omega
          have g6 : ¬ 9223372036854775807 < (Go.Lib.decDigits ln).length + 2 + (Go.Lib.decDigits hn).length := by omega
          clear dl1 dl2
          have hci0 : (0 : Int) ≤ (xn : Int) := by omega
          have hci4 : (xn : Int) < 4 := by omega
          have lo := S9.out.own.lt
          have hz9 := S9.out.bel.size
          go_upto_region 18 with fail
          refine wp_region_noPanic ?_
          refine wp_region_held_drew (S := fun X => B18 w2 gc (.cells #[.int .i64 (xn : Int), .int .i64 (ln : Int), .int .i64 (hn : Int)] 90 (0, 0)) X) (by kernel_rfl) ?_ (fun hHeld => ?_)
          · (first | (repeat' (first | with_reducible assumption | with_reducible refine B18.drew ?_ | with_reducible refine B18.alloc ?_ _)) | (first | with_reducible assumption | (with_reducible refine Below.drew ?_; with_reducible assumption) | (with_reducible refine ba _ _ ?_; with_reducible assumption) | (with_reducible refine Below.drew ?_; with_reducible refine ba _ _ ?_; with_reducible assumption) | exact Below.refl _ _ | exact (Below.refl _ _).drew | exact (Below.refl _ _).alloc (Nat.le_refl _) _ | (refine bc _ _ (by assumption) (by assumption))))
          refine RegOk.begin_ (n := 18) (T := paB18) ⟨by kernel_rfl, by kernel_rfl, by kernel_rfl, by kernel_rfl⟩ fun hR => ?_
          refine hR.take (i := 0) (oi := ?ow863_0) (v := ?vw863_0) (m' := 1) ?hw863_0 (by kernel_rfl) (by kernel_rfl) (fun _ _ _ h => h) (Or.inl ⟨?sw863_0, ?yw863_0⟩) (by assumption) ?nw863_0
          case hw863_0 => simp only [List.getElem?_toArray, List.getElem?_cons_succ, List.getElem?_cons_zero]; rfl
          case sw863_0 => rfl
          case yw863_0 => (intro w hSw; (try dsimp only at hSw); go_simp <;> with_reducible rfl)
          try simp only [Act.put, List.setIfInBounds_toArray, List.set_cons_zero, List.set_cons_succ]
          refine hR.take (i := 1) (oi := ?ow864_1) (v := ?vw864_1) (m' := 3) ?hw864_1 (by kernel_rfl) (by kernel_rfl) (fun _ _ _ h => h) (Or.inl ⟨?sw864_1, ?yw864_1⟩) (by assumption) ?nw864_1
          case hw864_1 => simp only [List.getElem?_toArray, List.getElem?_cons_succ, List.getElem?_cons_zero]; rfl
          case sw864_1 => rfl
          case yw864_1 => (intro w hSw; (try dsimp only at hSw); go_simp <;> with_reducible rfl)
          try simp only [Act.put, List.setIfInBounds_toArray, List.set_cons_zero, List.set_cons_succ]
          refine hR.take (i := 3) (oi := ?ow865_3) (v := ?vw865_3) (m' := 11) ?hw865_3 (by kernel_rfl) (by kernel_rfl) (fun _ _ _ h => h) (Or.inl ⟨?sw865_3, ?yw865_3⟩) (by assumption) ?nw865_3
          case hw865_3 => simp only [List.getElem?_toArray, List.getElem?_cons_succ, List.getElem?_cons_zero]; rfl
          case sw865_3 => rfl
          case yw865_3 => (intro w hSw; (try dsimp only at hSw); go_simp <;> with_reducible rfl)
          try simp only [Act.put, List.setIfInBounds_toArray, List.set_cons_zero, List.set_cons_succ]
          refine hR.take (i := 4) (oi := ?ow866_4) (v := ?vw866_4) (m' := 27) ?hw866_4 (by kernel_rfl) (by kernel_rfl) (fun _ _ _ h => h) (Or.inl ⟨?sw866_4, ?yw866_4⟩) (by assumption) ?nw866_4
          case hw866_4 => simp only [List.getElem?_toArray, List.getElem?_cons_succ, List.getElem?_cons_zero]; rfl
          case sw866_4 => rfl
          case yw866_4 => (intro w hSw; (try dsimp only at hSw); go_simp <;> with_reducible rfl)
          try simp only [Act.put, List.setIfInBounds_toArray, List.set_cons_zero, List.set_cons_succ]
          refine hR.take (i := 7) (oi := ?ow867_7) (v := ?vw867_7) (m' := 155) ?hw867_7 (by kernel_rfl) (by kernel_rfl) (fun _ _ _ h => h) (Or.inl ⟨?sw867_7, ?yw867_7⟩) (by assumption) ?nw867_7
          case hw867_7 => simp only [List.getElem?_toArray, List.getElem?_cons_succ, List.getElem?_cons_zero]; rfl
          case sw867_7 => rfl
          case yw867_7 => (intro w hSw; (try dsimp only at hSw); go_simp <;> with_reducible rfl)
          try simp only [Act.put, List.setIfInBounds_toArray, List.set_cons_zero, List.set_cons_succ]
          refine hR.take (i := 8) (oi := ?ow868_8) (v := ?vw868_8) (m' := 411) ?hw868_8 (by kernel_rfl) (by kernel_rfl) (fun _ _ _ h => h) (Or.inl ⟨?sw868_8, ?yw868_8⟩) (by assumption) ?nw868_8
          case hw868_8 => simp only [List.getElem?_toArray, List.getElem?_cons_succ, List.getElem?_cons_zero]; rfl
          case sw868_8 => rfl
          case yw868_8 => (intro w hSw; (try dsimp only at hSw); go_simp <;> with_reducible rfl)
          try simp only [Act.put, List.setIfInBounds_toArray, List.set_cons_zero, List.set_cons_succ]
          refine hR.take (i := 11) (oi := ?ow869_11) (v := ?vw869_11) (m' := 2459) ?hw869_11 (by kernel_rfl) (by kernel_rfl) (fun _ _ _ h => h) (Or.inl ⟨?sw869_11, ?yw869_11⟩) (by assumption) ?nw869_11
          case hw869_11 => simp only [List.getElem?_toArray, List.getElem?_cons_succ, List.getElem?_cons_zero]; rfl
          case sw869_11 => rfl
          case yw869_11 => (intro w hSw; (try dsimp only at hSw); go_simp <;> with_reducible rfl)
          try simp only [Act.put, List.setIfInBounds_toArray, List.set_cons_zero, List.set_cons_succ]
          refine hR.take (i := 12) (oi := ?ow870_12) (v := ?vw870_12) (m' := 6555) ?hw870_12 (by kernel_rfl) (by kernel_rfl) (fun _ _ _ h => h) (Or.inl ⟨?sw870_12, ?yw870_12⟩) (by assumption) ?nw870_12
          case hw870_12 => simp only [List.getElem?_toArray, List.getElem?_cons_succ, List.getElem?_cons_zero]; rfl
          case sw870_12 => rfl
          case yw870_12 => (intro w hSw; (try dsimp only at hSw); go_simp <;> with_reducible rfl)
          try simp only [Act.put, List.setIfInBounds_toArray, List.set_cons_zero, List.set_cons_succ]
          refine hR.come (rs := [2]) (by kernel_rfl) (by simp) ?_
          refine AllReadyH.cons (o := ?o871_2) ?h871_2 (fun K hK => ?kw871_2) AllReadyH.nil
          case h871_2 => simp only [List.getElem?_toArray, List.getElem?_cons_succ, List.getElem?_cons_zero]; rfl
          go_simp
          go_at_call 32; refine (columnsC _).mono ?_; rintro e wA ⟨rfl, hr, hbA⟩; have hk3 : Below w9.heap.size w9 wA := (Below.refl _ _).drew.trans hbA; have hkA := br.call hk3; have hcA : wA.cell? ⟨w9.heap.size, xn, none⟩ = some (.string ⟨(nmF xn).toArray⟩) := nm_cell hr hxn4; have hzA := hbA.size; (try simp at hzA); have lA : w9.heap.size < wA.heap.size := heap_lt hr; have TA := mvT T2 hkA.bel; have SA := Lib.hid (S9.out.call hk3); clear hr
          refine hK.out _ _ ?_ (fun hHeld => ?_)
          · (first | (repeat' (first | with_reducible assumption | with_reducible refine B18.drew ?_ | with_reducible refine B18.alloc ?_ _)) | (first | with_reducible assumption | (with_reducible refine Below.drew ?_; with_reducible assumption) | (with_reducible refine ba _ _ ?_; with_reducible assumption) | (with_reducible refine Below.drew ?_; with_reducible refine ba _ _ ?_; with_reducible assumption) | exact Below.refl _ _ | exact (Below.refl _ _).drew | exact (Below.refl _ _).alloc (Nat.le_refl _) _ | (refine bc _ _ (by assumption) (by assumption))))
          clear hK K
          refine RegOk.put_ (m' := 6559) (by kernel_rfl) ?_
          try simp only [Act.put, List.setIfInBounds_toArray, List.set_cons_zero, List.set_cons_succ]
          refine hR.take (i := 5) (oi := ?ow872_5) (v := ?vw872_5) (m' := 6591) ?hw872_5 (by kernel_rfl) (by kernel_rfl) (fun _ _ _ h => h) (Or.inl ⟨?sw872_5, ?yw872_5⟩) (by assumption) ?nw872_5
          case hw872_5 => simp only [List.getElem?_toArray, List.getElem?_cons_succ, List.getElem?_cons_zero]; rfl
          case sw872_5 => rfl
          case yw872_5 => (intro w hSw; (try dsimp only at hSw); go_simp <;> with_reducible rfl)
          try simp only [Act.put, List.setIfInBounds_toArray, List.set_cons_zero, List.set_cons_succ]
          refine hR.come (rs := [6, 9]) (by kernel_rfl) (by simp) ?_
          refine AllReadyH.cons (o := ?o873_6) ?h873_6 (fun K hK => ?kw873_6) (AllReadyH.cons (o := ?o873_9) ?h873_9 (fun K hK => ?kw873_9) AllReadyH.nil)
          case h873_6 => simp only [List.getElem?_toArray, List.getElem?_cons_succ, List.getElem?_cons_zero]; rfl
          case h873_9 => simp only [List.getElem?_toArray, List.getElem?_cons_succ, List.getElem?_cons_zero]; rfl
          case kw873_6 =>
            go_simp <;> (try go_wp2_with fail)
            refine hK.out _ _ ?_ (fun hHeld => ?_)
            · (first | (repeat' (first | with_reducible assumption | with_reducible refine B18.drew ?_ | with_reducible refine B18.alloc ?_ _)) | (first | with_reducible assumption | (with_reducible refine Below.drew ?_; with_reducible assumption) | (with_reducible refine ba _ _ ?_; with_reducible assumption) | (with_reducible refine Below.drew ?_; with_reducible refine ba _ _ ?_; with_reducible assumption) | exact Below.refl _ _ | exact (Below.refl _ _).drew | exact (Below.refl _ _).alloc (Nat.le_refl _) _ | (refine bc _ _ (by assumption) (by assumption))))
            clear hK K
            refine RegOk.put_ (m' := 6655) (by kernel_rfl) ?_
            try simp only [Act.put, List.setIfInBounds_toArray, List.set_cons_zero, List.set_cons_succ]
            refine hR.come (rs := [9]) (by kernel_rfl) (by simp) ?_
            refine AllReadyH.cons (o := ?o874_9) ?h874_9 (fun K hK => ?kw874_9) AllReadyH.nil
            case h874_9 => simp only [List.getElem?_toArray, List.getElem?_cons_succ, List.getElem?_cons_zero]; rfl
            go_simp
            go_at_call 33; refine (itoaP (n := ln) hln5 _ TA.out).mono ?_; rintro e wB ⟨rfl, hbB⟩; have hkB := hkA.call hbB; have hcB : wB.cell? ⟨w9.heap.size, xn, none⟩ = some (.string ⟨(nmF xn).toArray⟩) := (hbB.cell (p := ⟨w9.heap.size, xn, none⟩) lA).trans hcA; have hzB := hbB.size; have lB : w9.heap.size < wB.heap.size := Nat.lt_of_lt_of_le lA hzB; have TB := mvT TA hbB; have SB := Lib.hid (SA.out.call hbB)
            refine hK.out _ _ ?_ (fun hHeld => ?_)
            · (first | (repeat' (first | with_reducible assumption | with_reducible refine B18.drew ?_ | with_reducible refine B18.alloc ?_ _)) | (first | with_reducible assumption | (with_reducible refine Below.drew ?_; with_reducible assumption) | (with_reducible refine ba _ _ ?_; with_reducible assumption) | (with_reducible refine Below.drew ?_; with_reducible refine ba _ _ ?_; with_reducible assumption) | exact Below.refl _ _ | exact (Below.refl _ _).drew | exact (Below.refl _ _).alloc (Nat.le_refl _) _ | (refine bc _ _ (by assumption) (by assumption))))
            clear hK K
            refine RegOk.put_ (m' := 7167) (by kernel_rfl) ?_
            try simp only [Act.put, List.setIfInBounds_toArray, List.set_cons_zero, List.set_cons_succ]
            refine hR.take (i := 10) (oi := ?ow875_10) (v := ?vw875_10) (m' := 8191) ?hw875_10 (by kernel_rfl) (by kernel_rfl) (fun _ _ _ h => h) (Or.inl ⟨?sw875_10, ?yw875_10⟩) (by assumption) ?nw875_10
            case hw875_10 => simp only [List.getElem?_toArray, List.getElem?_cons_succ, List.getElem?_cons_zero]; rfl
            case sw875_10 => rfl
            case yw875_10 => (intro w hSw; (try dsimp only at hSw); go_simp <;> with_reducible rfl)
            try simp only [Act.put, List.setIfInBounds_toArray, List.set_cons_zero, List.set_cons_succ]
            refine hR.come (rs := [13]) (by kernel_rfl) (by simp) ?_
            refine AllReadyH.cons (o := ?o876_13) ?h876_13 (fun K hK => ?kw876_13) AllReadyH.nil
            case h876_13 => simp only [List.getElem?_toArray, List.getElem?_cons_succ, List.getElem?_cons_zero]; rfl
            go_simp
            go_at_call 33; refine (itoaP (n := hn) hhn5 _ TB.out).mono ?_; rintro e wC ⟨rfl, hbC⟩; have hkC := hkB.call hbC; have hcC : wC.cell? ⟨w9.heap.size, xn, none⟩ = some (.string ⟨(nmF xn).toArray⟩) := (hbC.cell (p := ⟨w9.heap.size, xn, none⟩) lB).trans hcB; have hzC := hbC.size; have SC := Lib.hid (SB.out.call hbC); have loC := SC.out.own.lt
            refine hK.out _ _ ?_ (fun hHeld => ?_)
            · (first | (repeat' (first | with_reducible assumption | with_reducible refine B18.drew ?_ | with_reducible refine B18.alloc ?_ _)) | (first | with_reducible assumption | (with_reducible refine Below.drew ?_; with_reducible assumption) | (with_reducible refine ba _ _ ?_; with_reducible assumption) | (with_reducible refine Below.drew ?_; with_reducible refine ba _ _ ?_; with_reducible assumption) | exact Below.refl _ _ | exact (Below.refl _ _).drew | exact (Below.refl _ _).alloc (Nat.le_refl _) _ | (refine bc _ _ (by assumption) (by assumption))))
            clear hK K
            refine RegOk.put_ (m' := 16383) (by kernel_rfl) ?_
            try simp only [Act.put, List.setIfInBounds_toArray, List.set_cons_zero, List.set_cons_succ]
            refine hR.take (i := 14) (oi := ?ow877_14) (v := ?vw877_14) (m' := 32767) ?hw877_14 (by kernel_rfl) (by kernel_rfl) (fun _ _ _ h => h) (Or.inl ⟨?sw877_14, ?yw877_14⟩) (by assumption) ?nw877_14
            case hw877_14 => simp only [List.getElem?_toArray, List.getElem?_cons_succ, List.getElem?_cons_zero]; rfl
            case sw877_14 => rfl
            case yw877_14 => (intro w hSw; (try dsimp only at hSw); go_simp <;> with_reducible rfl)
            try simp only [Act.put, List.setIfInBounds_toArray, List.set_cons_zero, List.set_cons_succ]
            refine hR.come (rs := [15]) (by kernel_rfl) (by simp) ?_
            refine AllReadyH.cons (o := ?o878_15) ?h878_15 (fun K hK => ?kw878_15) AllReadyH.nil
            case h878_15 => simp only [List.getElem?_toArray, List.getElem?_cons_succ, List.getElem?_cons_zero]; rfl
            go_simp <;> (try go_wp2_with fail)
            refine hK.out _ _ ?_ (fun hHeld => ?_)
            · (first | (repeat' (first | with_reducible assumption | with_reducible refine B18.drew ?_ | with_reducible refine B18.alloc ?_ _)) | (first | with_reducible assumption | (with_reducible refine Below.drew ?_; with_reducible assumption) | (with_reducible refine ba _ _ ?_; with_reducible assumption) | (with_reducible refine Below.drew ?_; with_reducible refine ba _ _ ?_; with_reducible assumption) | exact Below.refl _ _ | exact (Below.refl _ _).drew | exact (Below.refl _ _).alloc (Nat.le_refl _) _ | (refine bc _ _ (by assumption) (by assumption))))
            clear hK K
            refine RegOk.put_ (m' := 65535) (by kernel_rfl) ?_
            try simp only [Act.put, List.setIfInBounds_toArray, List.set_cons_zero, List.set_cons_succ]
            refine hR.come (rs := [16]) (by kernel_rfl) (by simp) ?_
            refine AllReadyH.cons (o := ?o879_16) ?h879_16 (fun K hK => ?kw879_16) AllReadyH.nil
            case h879_16 => simp only [List.getElem?_toArray, List.getElem?_cons_succ, List.getElem?_cons_zero]; rfl
            refine step_append_E (E := strE) (S := fun b => b = wC.heap.size) rfl (.tmp 58) (.tmp 73) rfl strsT (base := w2.heap.size) (v := .slice A8 k8 c8) (xs := vs) (ys := [jw, nmF xn, inJ, rngW x]) (by rfl) (by rfl) rfl (nz := k8 + 4) (by rw [List.length_append, HK8.out]; rfl) ((SC.out.own.flat strE_flat).alloc _) (Sl.litAt (S := fun b => b = wC.heap.size) rfl ⟨[_], _, rfl, rfl, [_], _, rfl, rfl, [_], _, rfl, rfl, .single (congrArg (fun s => [Value.string s]) HRG.out)⟩ (by unfold maxLen; simp) (fun _ h _ => h) rfl) (by unfold maxLen; rw [HK8.out]; simp; omega) (by rw [HK8.out]; simp; omega) (by have := SC.out.bel.size; simp; omega) (fun g' hg' (hs : g' = wC.heap.size) => by have := (loC g' hg').2; omega) ?_; intro A6 c6 w6 hown6 hg6 hor6; have HF := Lib.hid (SC.out.app hown6 hg6); have hk9 : B18 w2 gc (.cells #[.int .i64 (xn : Int), .int .i64 (ln : Int), .int .i64 (hn : Int)] 90 (0, 0)) w6 := ⟨HF.out.bel, (hg6.block gc (by have := heap_lt hkC.row; simp; omega) (fun e => hlo9 gc e.symm rfl)).trans ((hkC.alloc _).row)⟩
            refine hK.out _ _ ?_ (fun hHeld => ?_)
            · (first | (repeat' (first | with_reducible assumption | with_reducible refine B18.drew ?_ | with_reducible refine B18.alloc ?_ _)) | (first | with_reducible assumption | (with_reducible refine Below.drew ?_; with_reducible assumption) | (with_reducible refine ba _ _ ?_; with_reducible assumption) | (with_reducible refine Below.drew ?_; with_reducible refine ba _ _ ?_; with_reducible assumption) | exact Below.refl _ _ | exact (Below.refl _ _).drew | exact (Below.refl _ _).alloc (Nat.le_refl _) _ | (refine bc _ _ (by assumption) (by assumption))))
            clear hK K
            refine RegOk.put_ (m' := 131071) (by kernel_rfl) ?_
            try simp only [Act.put, List.setIfInBounds_toArray, List.set_cons_zero, List.set_cons_succ]
            refine hR.take (i := 17) (oi := ?ow880_17) (v := ?vw880_17) (m' := 262143) ?hw880_17 (by kernel_rfl) (by kernel_rfl) (fun _ _ _ h => h) (Or.inl ⟨?sw880_17, ?yw880_17⟩) (by assumption) ?nw880_17
            case hw880_17 => simp only [List.getElem?_toArray, List.getElem?_cons_succ, List.getElem?_cons_zero]; rfl
            case sw880_17 => rfl
            case yw880_17 => (intro w hSw; (try dsimp only at hSw); go_simp <;> with_reducible rfl)
            try simp only [Act.put, List.setIfInBounds_toArray, List.set_cons_zero, List.set_cons_succ]
            refine hR.all (by kernel_rfl) ?_ _
            refine NoPanic.normal ?_
            go_wp2_with fail
            go_roundw
            case rel => exact ⟨i + 1, A6, k8 + 4, c6, by omega, by go_num, rfl, by omega, Lib.hid (by rw [HVS.out, List.length_append, HK8.out]; rfl), Lib.hid (by rw [HVS.out]; exact HF.out)⟩
            case measure => simp [intOf]; omega
          case kw873_9 =>
            go_simp
            go_at_call 33; refine (itoaP (n := ln) hln5 _ TA.out).mono ?_; rintro e wB ⟨rfl, hbB⟩; have hkB := hkA.call hbB; have hcB : wB.cell? ⟨w9.heap.size, xn, none⟩ = some (.string ⟨(nmF xn).toArray⟩) := (hbB.cell (p := ⟨w9.heap.size, xn, none⟩) lA).trans hcA; have hzB := hbB.size; have lB : w9.heap.size < wB.heap.size := Nat.lt_of_lt_of_le lA hzB; have TB := mvT TA hbB; have SB := Lib.hid (SA.out.call hbB)
            refine hK.out _ _ ?_ (fun hHeld => ?_)
            · (first | (repeat' (first | with_reducible assumption | with_reducible refine B18.drew ?_ | with_reducible refine B18.alloc ?_ _)) | (first | with_reducible assumption | (with_reducible refine Below.drew ?_; with_reducible assumption) | (with_reducible refine ba _ _ ?_; with_reducible assumption) | (with_reducible refine Below.drew ?_; with_reducible refine ba _ _ ?_; with_reducible assumption) | exact Below.refl _ _ | exact (Below.refl _ _).drew | exact (Below.refl _ _).alloc (Nat.le_refl _) _ | (refine bc _ _ (by assumption) (by assumption))))
            clear hK K
            refine RegOk.put_ (m' := 7103) (by kernel_rfl) ?_
            try simp only [Act.put, List.setIfInBounds_toArray, List.set_cons_zero, List.set_cons_succ]
            refine hR.take (i := 10) (oi := ?ow881_10) (v := ?vw881_10) (m' := 8127) ?hw881_10 (by kernel_rfl) (by kernel_rfl) (fun _ _ _ h => h) (Or.inl ⟨?sw881_10, ?yw881_10⟩) (by assumption) ?nw881_10
            case hw881_10 => simp only [List.getElem?_toArray, List.getElem?_cons_succ, List.getElem?_cons_zero]; rfl
            case sw881_10 => rfl
            case yw881_10 => (intro w hSw; (try dsimp only at hSw); go_simp <;> with_reducible rfl)
            try simp only [Act.put, List.setIfInBounds_toArray, List.set_cons_zero, List.set_cons_succ]
            refine hR.come (rs := [6, 13]) (by kernel_rfl) (by simp) ?_
            refine AllReadyH.cons (o := ?o882_6) ?h882_6 (fun K hK => ?kw882_6) (AllReadyH.cons (o := ?o882_13) ?h882_13 (fun K hK => ?kw882_13) AllReadyH.nil)
            case h882_6 => simp only [List.getElem?_toArray, List.getElem?_cons_succ, List.getElem?_cons_zero]; rfl
            case h882_13 => simp only [List.getElem?_toArray, List.getElem?_cons_succ, List.getElem?_cons_zero]; rfl
            case kw882_6 =>
              go_simp <;> (try go_wp2_with fail)
              refine hK.out _ _ ?_ (fun hHeld => ?_)
              · (first | (repeat' (first | with_reducible assumption | with_reducible refine B18.drew ?_ | with_reducible refine B18.alloc ?_ _)) | (first | with_reducible assumption | (with_reducible refine Below.drew ?_; with_reducible assumption) | (with_reducible refine ba _ _ ?_; with_reducible assumption) | (with_reducible refine Below.drew ?_; with_reducible refine ba _ _ ?_; with_reducible assumption) | exact Below.refl _ _ | exact (Below.refl _ _).drew | exact (Below.refl _ _).alloc (Nat.le_refl _) _ | (refine bc _ _ (by assumption) (by assumption))))
              clear hK K
              refine RegOk.put_ (m' := 8191) (by kernel_rfl) ?_
              try simp only [Act.put, List.setIfInBounds_toArray, List.set_cons_zero, List.set_cons_succ]
              refine hR.come (rs := [13]) (by kernel_rfl) (by simp) ?_
              refine AllReadyH.cons (o := ?o883_13) ?h883_13 (fun K hK => ?kw883_13) AllReadyH.nil
              case h883_13 => simp only [List.getElem?_toArray, List.getElem?_cons_succ, List.getElem?_cons_zero]; rfl
              go_simp
              go_at_call 33; refine (itoaP (n := hn) hhn5 _ TB.out).mono ?_; rintro e wC ⟨rfl, hbC⟩; have hkC := hkB.call hbC; have hcC : wC.cell? ⟨w9.heap.size, xn, none⟩ = some (.string ⟨(nmF xn).toArray⟩) := (hbC.cell (p := ⟨w9.heap.size, xn, none⟩) lB).trans hcB; have hzC := hbC.size; have SC := Lib.hid (SB.out.call hbC); have loC := SC.out.own.lt
              refine hK.out _ _ ?_ (fun hHeld => ?_)
              · (first | (repeat' (first | with_reducible assumption | with_reducible refine B18.drew ?_ | with_reducible refine B18.alloc ?_ _)) | (first | with_reducible assumption | (with_reducible refine Below.drew ?_; with_reducible assumption) | (with_reducible refine ba _ _ ?_; with_reducible assumption) | (with_reducible refine Below.drew ?_; with_reducible refine ba _ _ ?_; with_reducible assumption) | exact Below.refl _ _ | exact (Below.refl _ _).drew | exact (Below.refl _ _).alloc (Nat.le_refl _) _ | (refine bc _ _ (by assumption) (by assumption))))
              clear hK K
              refine RegOk.put_ (m' := 16383) (by kernel_rfl) ?_
              try simp only [Act.put, List.setIfInBounds_toArray, List.set_cons_zero, List.set_cons_succ]
              refine hR.take (i := 14) (oi := ?ow884_14) (v := ?vw884_14) (m' := 32767) ?hw884_14 (by kernel_rfl) (by kernel_rfl) (fun _ _ _ h => h) (Or.inl ⟨?sw884_14, ?yw884_14⟩) (by assumption) ?nw884_14
              case hw884_14 => simp only [List.getElem?_toArray, List.getElem?_cons_succ, List.getElem?_cons_zero]; rfl
              case sw884_14 => rfl
              case yw884_14 => (intro w hSw; (try dsimp only at hSw); go_simp <;> with_reducible rfl)
              try simp only [Act.put, List.setIfInBounds_toArray, List.set_cons_zero, List.set_cons_succ]
              refine hR.come (rs := [15]) (by kernel_rfl) (by simp) ?_
              refine AllReadyH.cons (o := ?o885_15) ?h885_15 (fun K hK => ?kw885_15) AllReadyH.nil
              case h885_15 => simp only [List.getElem?_toArray, List.getElem?_cons_succ, List.getElem?_cons_zero]; rfl
              go_simp <;> (try go_wp2_with fail)
              refine hK.out _ _ ?_ (fun hHeld => ?_)
              · (first | (repeat' (first | with_reducible assumption | with_reducible refine B18.drew ?_ | with_reducible refine B18.alloc ?_ _)) | (first | with_reducible assumption | (with_reducible refine Below.drew ?_; with_reducible assumption) | (with_reducible refine ba _ _ ?_; with_reducible assumption) | (with_reducible refine Below.drew ?_; with_reducible refine ba _ _ ?_; with_reducible assumption) | exact Below.refl _ _ | exact (Below.refl _ _).drew | exact (Below.refl _ _).alloc (Nat.le_refl _) _ | (refine bc _ _ (by assumption) (by assumption))))
              clear hK K
              refine RegOk.put_ (m' := 65535) (by kernel_rfl) ?_
              try simp only [Act.put, List.setIfInBounds_toArray, List.set_cons_zero, List.set_cons_succ]
              refine hR.come (rs := [16]) (by kernel_rfl) (by simp) ?_
              refine AllReadyH.cons (o := ?o886_16) ?h886_16 (fun K hK => ?kw886_16) AllReadyH.nil
              case h886_16 => simp only [List.getElem?_toArray, List.getElem?_cons_succ, List.getElem?_cons_zero]; rfl
              refine step_append_E (E := strE) (S := fun b => b = wC.heap.size) rfl (.tmp 58) (.tmp 73) rfl strsT (base := w2.heap.size) (v := .slice A8 k8 c8) (xs := vs) (ys := [jw, nmF xn, inJ, rngW x]) (by rfl) (by rfl) rfl (nz := k8 + 4) (by rw [List.length_append, HK8.out]; rfl) ((SC.out.own.flat strE_flat).alloc _) (Sl.litAt (S := fun b => b = wC.heap.size) rfl ⟨[_], _, rfl, rfl, [_], _, rfl, rfl, [_], _, rfl, rfl, .single (congrArg (fun s => [Value.string s]) HRG.out)⟩ (by unfold maxLen; simp) (fun _ h _ => h) rfl) (by unfold maxLen; rw [HK8.out]; simp; omega) (by rw [HK8.out]; simp; omega) (by have := SC.out.bel.size; simp; omega) (fun g' hg' (hs : g' = wC.heap.size) => by have := (loC g' hg').2; omega) ?_; intro A6 c6 w6 hown6 hg6 hor6; have HF := Lib.hid (SC.out.app hown6 hg6); have hk9 : B18 w2 gc (.cells #[.int .i64 (xn : Int), .int .i64 (ln : Int), .int .i64 (hn : Int)] 90 (0, 0)) w6 := ⟨HF.out.bel, (hg6.block gc (by have := heap_lt hkC.row; simp; omega) (fun e => hlo9 gc e.symm rfl)).trans ((hkC.alloc _).row)⟩
              refine hK.out _ _ ?_ (fun hHeld => ?_)
              · (first | (repeat' (first | with_reducible assumption | with_reducible refine B18.drew ?_ | with_reducible refine B18.alloc ?_ _)) | (first | with_reducible assumption | (with_reducible refine Below.drew ?_; with_reducible assumption) | (with_reducible refine ba _ _ ?_; with_reducible assumption) | (with_reducible refine Below.drew ?_; with_reducible refine ba _ _ ?_; with_reducible assumption) | exact Below.refl _ _ | exact (Below.refl _ _).drew | exact (Below.refl _ _).alloc (Nat.le_refl _) _ | (refine bc _ _ (by assumption) (by assumption))))
              clear hK K
              refine RegOk.put_ (m' := 131071) (by kernel_rfl) ?_
              try simp only [Act.put, List.setIfInBounds_toArray, List.set_cons_zero, List.set_cons_succ]
              refine hR.take (i := 17) (oi := ?ow887_17) (v := ?vw887_17) (m' := 262143) ?hw887_17 (by kernel_rfl) (by kernel_rfl) (fun _ _ _ h => h) (Or.inl ⟨?sw887_17, ?yw887_17⟩) (by assumption) ?nw887_17
              case hw887_17 => simp only [List.getElem?_toArray, List.getElem?_cons_succ, List.getElem?_cons_zero]; rfl
              case sw887_17 => rfl
              case yw887_17 => (intro w hSw; (try dsimp only at hSw); go_simp <;> with_reducible rfl)
              try simp only [Act.put, List.setIfInBounds_toArray, List.set_cons_zero, List.set_cons_succ]
              refine hR.all (by kernel_rfl) ?_ _
              refine NoPanic.normal ?_
              go_wp2_with fail
              go_roundw
              case rel => exact ⟨i + 1, A6, k8 + 4, c6, by omega, by go_num, rfl, by omega, Lib.hid (by rw [HVS.out, List.length_append, HK8.out]; rfl), Lib.hid (by rw [HVS.out]; exact HF.out)⟩
              case measure => simp [intOf]; omega
            case kw882_13 =>
              go_simp
              go_at_call 33; refine (itoaP (n := hn) hhn5 _ TB.out).mono ?_; rintro e wC ⟨rfl, hbC⟩; have hkC := hkB.call hbC; have hcC : wC.cell? ⟨w9.heap.size, xn, none⟩ = some (.string ⟨(nmF xn).toArray⟩) := (hbC.cell (p := ⟨w9.heap.size, xn, none⟩) lB).trans hcB; have hzC := hbC.size; have SC := Lib.hid (SB.out.call hbC); have loC := SC.out.own.lt
              refine hK.out _ _ ?_ (fun hHeld => ?_)
              · (first | (repeat' (first | with_reducible assumption | with_reducible refine B18.drew ?_ | with_reducible refine B18.alloc ?_ _)) | (first | with_reducible assumption | (with_reducible refine Below.drew ?_; with_reducible assumption) | (with_reducible refine ba _ _ ?_; with_reducible assumption) | (with_reducible refine Below.drew ?_; with_reducible refine ba _ _ ?_; with_reducible assumption) | exact Below.refl _ _ | exact (Below.refl _ _).drew | exact (Below.refl _ _).alloc (Nat.le_refl _) _ | (refine bc _ _ (by assumption) (by assumption))))
              clear hK K
              refine RegOk.put_ (m' := 16319) (by kernel_rfl) ?_
              try simp only [Act.put, List.setIfInBounds_toArray, List.set_cons_zero, List.set_cons_succ]
              refine hR.take (i := 14) (oi := ?ow888_14) (v := ?vw888_14) (m' := 32703) ?hw888_14 (by kernel_rfl) (by kernel_rfl) (fun _ _ _ h => h) (Or.inl ⟨?sw888_14, ?yw888_14⟩) (by assumption) ?nw888_14
              case hw888_14 => simp only [List.getElem?_toArray, List.getElem?_cons_succ, List.getElem?_cons_zero]; rfl
              case sw888_14 => rfl
              case yw888_14 => (intro w hSw; (try dsimp only at hSw); go_simp <;> with_reducible rfl)
              try simp only [Act.put, List.setIfInBounds_toArray, List.set_cons_zero, List.set_cons_succ]
              refine hR.come (rs := [6]) (by kernel_rfl) (by simp) ?_
              refine AllReadyH.cons (o := ?o889_6) ?h889_6 (fun K hK => ?kw889_6) AllReadyH.nil
              case h889_6 => simp only [List.getElem?_toArray, List.getElem?_cons_succ, List.getElem?_cons_zero]; rfl
              go_simp <;> (try go_wp2_with fail)
              refine hK.out _ _ ?_ (fun hHeld => ?_)
              · (first | (repeat' (first | with_reducible assumption | with_reducible refine B18.drew ?_ | with_reducible refine B18.alloc ?_ _)) | (first | with_reducible assumption | (with_reducible refine Below.drew ?_; with_reducible assumption) | (with_reducible refine ba _ _ ?_; with_reducible assumption) | (with_reducible refine Below.drew ?_; with_reducible refine ba _ _ ?_; with_reducible assumption) | exact Below.refl _ _ | exact (Below.refl _ _).drew | exact (Below.refl _ _).alloc (Nat.le_refl _) _ | (refine bc _ _ (by assumption) (by assumption))))
              clear hK K
              refine RegOk.put_ (m' := 32767) (by kernel_rfl) ?_
              try simp only [Act.put, List.setIfInBounds_toArray, List.set_cons_zero, List.set_cons_succ]
              refine hR.come (rs := [15]) (by kernel_rfl) (by simp) ?_
              refine AllReadyH.cons (o := ?o890_15) ?h890_15 (fun K hK => ?kw890_15) AllReadyH.nil
              case h890_15 => simp only [List.getElem?_toArray, List.getElem?_cons_succ, List.getElem?_cons_zero]; rfl
              go_simp <;> (try go_wp2_with fail)
              refine hK.out _ _ ?_ (fun hHeld => ?_)
              · (first | (repeat' (first | with_reducible assumption | with_reducible refine B18.drew ?_ | with_reducible refine B18.alloc ?_ _)) | (first | with_reducible assumption | (with_reducible refine Below.drew ?_; with_reducible assumption) | (with_reducible refine ba _ _ ?_; with_reducible assumption) | (with_reducible refine Below.drew ?_; with_reducible refine ba _ _ ?_; with_reducible assumption) | exact Below.refl _ _ | exact (Below.refl _ _).drew | exact (Below.refl _ _).alloc (Nat.le_refl _) _ | (refine bc _ _ (by assumption) (by assumption))))
              clear hK K
              refine RegOk.put_ (m' := 65535) (by kernel_rfl) ?_
              try simp only [Act.put, List.setIfInBounds_toArray, List.set_cons_zero, List.set_cons_succ]
              refine hR.come (rs := [16]) (by kernel_rfl) (by simp) ?_
              refine AllReadyH.cons (o := ?o891_16) ?h891_16 (fun K hK => ?kw891_16) AllReadyH.nil
              case h891_16 => simp only [List.getElem?_toArray, List.getElem?_cons_succ, List.getElem?_cons_zero]; rfl
              refine step_append_E (E := strE) (S := fun b => b = wC.heap.size) rfl (.tmp 58) (.tmp 73) rfl strsT (base := w2.heap.size) (v := .slice A8 k8 c8) (xs := vs) (ys := [jw, nmF xn, inJ, rngW x]) (by rfl) (by rfl) rfl (nz := k8 + 4) (by rw [List.length_append, HK8.out]; rfl) ((SC.out.own.flat strE_flat).alloc _) (Sl.litAt (S := fun b => b = wC.heap.size) rfl ⟨[_], _, rfl, rfl, [_], _, rfl, rfl, [_], _, rfl, rfl, .single (congrArg (fun s => [Value.string s]) HRG.out)⟩ (by unfold maxLen; simp) (fun _ h _ => h) rfl) (by unfold maxLen; rw [HK8.out]; simp; omega) (by rw [HK8.out]; simp; omega) (by have := SC.out.bel.size; simp; omega) (fun g' hg' (hs : g' = wC.heap.size) => by have := (loC g' hg').2; omega) ?_; intro A6 c6 w6 hown6 hg6 hor6; have HF := Lib.hid (SC.out.app hown6 hg6); have hk9 : B18 w2 gc (.cells #[.int .i64 (xn : Int), .int .i64 (ln : Int), .int .i64 (hn : Int)] 90 (0, 0)) w6 := ⟨HF.out.bel, (hg6.block gc (by have := heap_lt hkC.row; simp; omega) (fun e => hlo9 gc e.symm rfl)).trans ((hkC.alloc _).row)⟩
              refine hK.out _ _ ?_ (fun hHeld => ?_)
              · (first | (repeat' (first | with_reducible assumption | with_reducible refine B18.drew ?_ | with_reducible refine B18.alloc ?_ _)) | (first | with_reducible assumption | (with_reducible refine Below.drew ?_; with_reducible assumption) | (with_reducible refine ba _ _ ?_; with_reducible assumption) | (with_reducible refine Below.drew ?_; with_reducible refine ba _ _ ?_; with_reducible assumption) | exact Below.refl _ _ | exact (Below.refl _ _).drew | exact (Below.refl _ _).alloc (Nat.le_refl _) _ | (refine bc _ _ (by assumption) (by assumption))))
              clear hK K
              refine RegOk.put_ (m' := 131071) (by kernel_rfl) ?_
              try simp only [Act.put, List.setIfInBounds_toArray, List.set_cons_zero, List.set_cons_succ]
              refine hR.take (i := 17) (oi := ?ow892_17) (v := ?vw892_17) (m' := 262143) ?hw892_17 (by kernel_rfl) (by kernel_rfl) (fun _ _ _ h => h) (Or.inl ⟨?sw892_17, ?yw892_17⟩) (by assumption) ?nw892_17
              case hw892_17 => simp only [List.getElem?_toArray, List.getElem?_cons_succ, List.getElem?_cons_zero]; rfl
              case sw892_17 => rfl
              case yw892_17 => (intro w hSw; (try dsimp only at hSw); go_simp <;> with_reducible rfl)
              try simp only [Act.put, List.setIfInBounds_toArray, List.set_cons_zero, List.set_cons_succ]
              refine hR.all (by kernel_rfl) ?_ _
              refine NoPanic.normal ?_
              go_wp2_with fail
              go_roundw
              case rel => exact ⟨i + 1, A6, k8 + 4, c6, by omega, by go_num, rfl, by omega, Lib.hid (by rw [HVS.out, List.length_append, HK8.out]; rfl), Lib.hid (by rw [HVS.out]; exact HF.out)⟩
              case measure => simp [intOf]; omega
        · have hi1 : ¬ (i : Int) < (l.length : Int) := by omega
          obtain rfl : i = l.length := by omega
          rw [List.take_length] at hvs
          have HN3 := Lib.hid (show headW q ++ fltsW (q.fs.take (j + 1)) 0 = vs by rw [HN2.out, hvs])
          clear hvs
          go_wp2_with fail
          go_roundw
          case rel => exact ⟨j + 1, A8, k8, c8, by omega, by go_num, rfl, by omega, Lib.hid (by rw [HN3.out]; exact HK8.out), Lib.hid (by rw [HN3.out]; exact HS8.out)⟩
          case measure => simp [intOf]; omega
    · have hj1 : ¬ (j : Int) < (q.fs.length : Int) := by omega
      obtain rfl : j = q.fs.length := by omega
      have HEQ := Lib.hid (show headW q ++ fltsW (q.fs.take q.fs.length) 0 = wordsF q by rw [List.take_length]; unfold headW wordsF; simp)
      rw [HEQ.out] at hws
      subst hws
      have hkl := HK.out
      subst hkl
      have HSL := Lib.hid (HS.out.own.toSl (T := fun _ => True) (fun _ h _ => h.elim) (fun _ _ _ _ => trivial))
      have HLN := Lib.hid (fmt_len HV.out)
      have HBW := Lib.hid (B2.out.trans (HS.out.bel.mono B2.out.size))
      go_wp2_with (go_at_call 34; refine (joinP (ws := wordsF q) (x := kwL q.kind) _ HSL.out rfl (by omega) (Nat.le_trans HLN.out (by omega))).mono ?_; rintro e w9 ⟨rfl, hb9⟩; have HB9 := Lib.hid hb9; clear hb9)
      go_ret
      exact ⟨rfl, HBW.out.trans (HB9.out.mono HBW.out.size)⟩
end Go.Proofs.YtagadbdbbglddaaGreatDoor
