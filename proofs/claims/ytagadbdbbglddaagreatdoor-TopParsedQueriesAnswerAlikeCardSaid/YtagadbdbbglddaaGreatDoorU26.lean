/-
  Texts of this claim, merged: PaA, Tp1, PaP. Conditions: as each theorem says.
-/
import Derived.Lib.ItoaNum
import Derived.Lib.Join
import Derived.Test.YtagadbdbbglddaaGreatDoorU1
import Derived.Test.YtagadbdbbglddaaGreatDoorU2
import Derived.Test.YtagadbdbbglddaaGreatDoorU3
import Derived.Test.YtagadbdbbglddaaGreatDoorU4
import Derived.Test.YtagadbdbbglddaaGreatDoorU5
import Derived.Test.YtagadbdbbglddaaGreatDoorU6
import Derived.Test.YtagadbdbbglddaaGreatDoorU7
import Derived.Test.YtagadbdbbglddaaGreatDoorU8
import Derived.Test.YtagadbdbbglddaaGreatDoorU9
import Derived.Test.YtagadbdbbglddaaGreatDoorU10
import Derived.Test.YtagadbdbbglddaaGreatDoorU11
import Derived.Test.YtagadbdbbglddaaGreatDoorU12
import Derived.Test.YtagadbdbbglddaaGreatDoorU13
import Derived.Test.YtagadbdbbglddaaGreatDoorShelf
import Derived.Test.YtagadbdbbglddaaGreatDoorU22
import Derived.Test.YtagadbdbbglddaaGreatDoorU23
import Derived.Test.YtagadbdbbglddaaGreatDoorU24
import Derived.Test.YtagadbdbbglddaaGreatDoorU25
import Derived.Test.YtagadbdbbglddaaGreatDoorU14
import Derived.Test.YtagadbdbbglddaaGreatDoorU15
import Derived.Test.YtagadbdbbglddaaGreatDoorU16
import Derived.Test.YtagadbdbbglddaaGreatDoorU17
import Derived.Test.YtagadbdbbglddaaGreatDoorU18
import Derived.Test.YtagadbdbbglddaaGreatDoorU19
import Derived.Test.YtagadbdbbglddaaGreatDoorU20
set_option linter.unusedSimpArgs false
set_option linter.unusedVariables false
namespace Go.Proofs.YtagadbdbbglddaaGreatDoor
open Go.RowKit

/-- How Parse stands behind the query. -/
structure RSt (w : World) (bs lf : List UInt8) (q : Qy) (A : Option Addr) (c gq : Nat) (wx : World) : Prop where
  bel : Below w.heap.size w wx
  res : wx.heap[w.heap.size]? = some (.cells #[.int .i64 0, .int .i64 0, .int .i64 0, .slice none 0 0] 24 (0, 0))
  p : PAt bs (w.heap.size + 1) lf wx
  row : wx.heap[gq]? = some (.cells #[.int .i64 q.kind, .int .i64 q.col, .int .i64 q.k, .slice A q.fs.length c] 24 (0, 0))
  sl : Sl cdE.slice (fun b => w.heap.size + 2 ≤ b) wx A c q.fs
  hq : w.heap.size + 2 ≤ gq
theorem RSt.call {w wx w' : World} {bs lf l' : List UInt8} {q : Qy} {A : Option Addr} {c gq : Nat} (h : RSt w bs lf q A c gq wx) (hp : PAt bs (w.heap.size + 1) l' w') (hG : Gk (w.heap.size + 1) wx w') : RSt w bs l' q A c gq w' :=
  ⟨hG.below h.bel (by omega) h.bel.size, hG.row h.res (by omega), hp, hG.row h.row (by have := h.hq; omega), hG.slKeep h.sl (by omega), h.hq⟩
theorem PAt.row0 {bs : List UInt8} {g : Nat} {l : List UInt8} {w : World} (h : PAt bs g l w) : ∃ v, w.cell? ⟨g, 0, none⟩ = some (.string ⟨bs.toArray⟩) ∧ w.cell? ⟨g, 1, none⟩ = some v ∧ w.cell? ⟨g, 2, none⟩ = some (.int .i64 0) ∧ w.cell? ⟨g, 3, none⟩ = some (.int .i64 0) := by
  obtain ⟨i, h1, h2, h3⟩ := h
  obtain ⟨a, b, c, d⟩ := row4 (Lib.hid h3)
  exact ⟨_, a, b, c, d⟩
set_option maxRecDepth 100000 in
set_option maxHeartbeats 4000000 in
theorem parseP {bs l1 l2 l3 l4 l' : List UInt8} {q : Qy} (w : World) (hl : bs.length ≤ 400) (h : QTx q bs l1 l2 l3 l4 l') (hend : skipW l' = []) :
    Calls Tryz.prog 11 #[.string ⟨bs.toArray⟩] w fun e w' => ∃ A c, e = .returned (.tuple #[.agg #[.int .i64 q.kind, .int .i64 q.col, .int .i64 q.k, .slice A q.fs.length c], .int .i64 0, .int .i64 0]) ∧ Sl cdE.slice (fun b => w.heap.size ≤ b) w' A c q.fs ∧ Below w.heap.size w w' := by
  have HX := Lib.hid h
  have HE := Lib.hid hend
  have hl0 : bs.length ≤ 1000 := by omega
  have hg4 : ¬ (400 : Int) < (bs.length : Int) := by omega
  clear h hend
  go_enter Tryz.func11, Tryz.ntmps11
  go_upto_region 4 with fail
  refine wp_world (F := fun wx => Hid (Below w.heap.size w wx) ∧ Hid (wx.heap[w.heap.size]? = some (.cells #[.int .i64 0, .int .i64 0, .int .i64 0, .slice none 0 0] 24 (0, 0))) ∧ Hid (PAt bs (w.heap.size + 1) bs wx)) ⟨Lib.hid (by repeat' (first | with_reducible exact Below.refl _ _ | with_reducible assumption | with_reducible refine Below.setCell ?_ ?_ _ | with_reducible refine Below.drew ?_ | with_reducible refine below_drewN ?_ _ | with_reducible refine Below.alloc ?_ ?_ _ | (rintro _ ⟨⟩; simp <;> omega) | omega | (simp <;> omega))), Lib.hid ((Below.heap_alloc _ _ _ (by simp)).trans (heap_alloc_at rfl)), Lib.hid ⟨0, Nat.zero_le _, rfl, heap_alloc_at (by simp)⟩⟩ ?_
  rintro w2 ⟨HB, HR, HP⟩
  have lg := HP.out.lt
  go_upto_region 5 with (go_at_call 28; refine (queryP _ HP.out hl0 HX.out).mono ?_; rintro e w3 ⟨A, c, rfl, hs, ⟨lf, hlf, hP3⟩, hG3⟩; have HS := Lib.hid hs; have HLF := Lib.hid hlf; have HP3 := Lib.hid hP3; have HG3 := Lib.hid hG3; have hz3 := hG3.g.size; clear hs hlf hP3 hG3)
  refine wp_world (F := fun wx => Hid (RSt w bs lf q A c w3.heap.size wx)) (by
    have hb : Below w3.heap.size w3 (w3.alloc (.cells #[.int .i64 q.kind, .int .i64 q.col, .int .i64 q.k, .slice A q.fs.length c] 24)) := (Below.refl _ _).alloc (Nat.le_refl _) _
    have hG := HG3.out.call hb
    exact Lib.hid ⟨hG.below HB.out (by omega) HB.out.size, hG.row HR.out (by omega), HP3.out.below hb, heap_alloc_at rfl, (HS.out.keep (Below.agree hb)).sub (fun b h1 _ => by omega), by omega⟩) ?_
  intro w4 S4
  obtain ⟨gq, hgq⟩ : ∃ x, x = w3.heap.size := ⟨_, rfl⟩
  rw [← hgq] at S4 ⊢
  clear hgq
  obtain ⟨v, p0, p1, p2, p3⟩ := S4.out.p.row0
  have lp := S4.out.p.lt
  go_cut [5, 6, 26] (fun p r v wx => p = .pointer (some ⟨w.heap.size + 1, 0, none⟩) ∧ r = .pointer (some ⟨gq, 0, none⟩) ∧ v = .bool false ∧ RSt w bs (skipW lf) q A c gq wx)
  case first =>
    go_wp2_with (go_at_call 29; refine (peekP (k := 0) (t := []) _ S4.out.p hl0 (by rw [HLF.out, HE.out]; rfl)).mono ?_; rintro e w5 ⟨rfl, hP5, hG5⟩; have HC5 := Lib.hid (S4.out.call hP5 hG5); clear hP5 hG5)
    go_meet
    case rel => exact ⟨rfl, rfl, rfl, HC5.out⟩
  obtain ⟨rfl, rfl, rfl, hst⟩ := hcut
  obtain ⟨w5, hwv⟩ : ∃ x, x = wc := ⟨_, rfl⟩
  subst hwv
  have S5 := Lib.hid hst
  clear hst p0 p1 p2 p3 lp
  obtain ⟨v', p0, p1, p2, p3⟩ := S5.out.p.row0
  have lp := S5.out.p.lt
  obtain ⟨q0, q1, q2, q3⟩ := row4 (Lib.hid S5.out.row)
  obtain ⟨r0, r1, r2, r3⟩ := row4 (Lib.hid S5.out.res)
  have fr := frz S5.out.res
  have lq := heap_lt S5.out.row
  have lr := heap_lt S5.out.res
  have hqr : gq ≠ w.heap.size := by have := S5.out.hq; omega
  go_wp2_with fail
  have hset : ((((w5.setCell ⟨w.heap.size, 0, none⟩ (.int .i64 q.kind)).setCell ⟨w.heap.size, 1, none⟩ (.int .i64 q.col)).setCell ⟨w.heap.size, 2, none⟩ (.int .i64 q.k)).setCell ⟨w.heap.size, 3, none⟩ (.slice A q.fs.length c)).heap[w.heap.size]? = some (.cells #[.int .i64 q.kind, .int .i64 q.col, .int .i64 q.k, .slice A q.fs.length c] 24 (0, 0)) := heap_set (i := 3) (heap_set (i := 2) (heap_set (i := 1) (heap_set (i := 0) S5.out.res)))
  obtain ⟨t0, t1, t2, t3⟩ := row4 (Lib.hid hset)
  refine bodyPost_ret (v := .tuple #[.agg #[.int .i64 q.kind, .int .i64 q.col, .int .i64 q.k, .slice A q.fs.length c], .int .i64 0, .int .i64 0]) (by simp [results, Tryz.results11, go_sem, *]) rfl ⟨A, c, rfl, ?_, ?_⟩
  · have hn : ¬ w.heap.size + 2 ≤ w.heap.size := by omega
    exact (S5.out.sl.keep (((((Agree.refl _ _).set hn _).set hn _).set hn _).set hn _)).sub (fun b hb _ => by omega)
  · have hb := S5.out.bel
    exact (by repeat' (first | with_reducible exact Below.refl _ _ | with_reducible assumption | with_reducible refine Below.setCell ?_ ?_ _ | with_reducible refine Below.drew ?_ | with_reducible refine below_drewN ?_ _ | with_reducible refine Below.alloc ?_ ?_ _ | (rintro _ ⟨⟩; simp <;> omega) | omega | (simp <;> omega)))
end Go.Proofs.YtagadbdbbglddaaGreatDoor
namespace Go.Proofs.YtagadbdbbglddaaGreatDoor
open Go.RowKit

def qS : Qy := ⟨3, 3, 2, [[⟨2, 5, 5⟩]]⟩
def sS : Str := ⟨[⟨0, 0, 5, 3⟩, ⟨0, 0, 4, 9⟩, ⟨0, 0, 5, 4⟩], [false, false, false]⟩
def txS : List UInt8 := [109, 111, 109, 101, 110, 116, 32, 118, 97, 108, 117, 101, 32, 50, 32, 119, 104, 101, 114, 101, 32, 107, 105, 110, 100, 32, 61, 32, 53]
theorem okS : OkStr sS := ⟨rfl, by simp [sS, ValidR]⟩
theorem qS_valid : ValidQ qS := (validQB_iff _).1 (by kernel_rfl)
theorem qS_wide : wideB qS = false := by kernel_rfl
theorem qS_sums : sumsF qS (liveF sS) = [25] := by kernel_rfl
theorem qS_check : checkTF qS 3 = ([195075], 0) := by kernel_rfl
set_option maxRecDepth 10000 in
theorem qS_text : QTx qS txS (txS.drop 6) (txS.drop 12) (txS.drop 14) [] [] where
  hk := by decide
  n1 := ⟨by decide, by decide⟩
  c := by
    rw [if_pos (by decide)]
    exact ⟨3, rfl, by decide, by decide, by decide⟩
  k := by
    rw [if_pos (by decide)]
    exact ⟨[50], ⟨by decide, by decide⟩, ⟨by decide, by decide⟩, by decide, by decide⟩
  f := ⟨by decide, txS.drop 20, [], ⟨by decide, by decide⟩, .inr ⟨2, [53], txS.drop 25, txS.drop 27, rfl, rfl, ⟨⟨by decide, by decide⟩, ⟨by decide, by decide⟩, ⟨by decide, by decide⟩, ⟨by decide, by decide⟩, by decide, by decide, by decide⟩⟩, fun _ => ⟨0, [], by decide, fun h => by cases h⟩, rfl⟩
  g := by
    rw [if_neg (by decide)]
    exact ⟨rfl, rfl⟩
/-- A bound's box. -/
def Bnd (w : World) (g : Nat) (xs : List Int) (n : Nat) : Prop := ∃ B d, w.heap[g]? = some (.cells #[.slice B n d] 35 (0, 0)) ∧ Sl .i64 (fun _ => True) w B d xs
theorem checkN {q : Qy} {A : Option Addr} {c f n : Nat} {S : Nat → Prop} {xs : List Int} {e : Int} (hf : q.fs.length = f) (rows : Int) (hp : checkTF q rows = (xs, e)) (hn : xs.length = n) (w : World) (hw : WidOk w) (h : Sl cdE.slice S w A c q.fs) :
    Calls Tryz.prog 8 #[.agg #[.int .i64 q.kind, .int .i64 q.col, .int .i64 q.k, .slice A f c], .int .i64 rows] w fun r w' => ∃ B d, r = .returned (.tuple #[.agg #[.slice B n d], .int .i64 e]) ∧ Sl .i64 (fun b => w.heap.size ≤ b) w' B d xs ∧ Below w.heap.size w w' := by
  subst hf; subst hn
  exact checkP rows w hw h hp
theorem topSame {xs : List Int} {A B : Option Addr} {c d n : Nat} {S T : Nat → Prop} (hn : xs.length = n) (w : World) (h : Sl .i64 S w A c xs) (k : Sl .i64 T w B d xs) :
    Calls Tryz.prog 16 #[.slice A n c, .slice B n d] w fun e w' => e = .returned (.bool true) ∧ Below w.heap.size w w' := by
  go_enter Tryz.func16, Tryz.ntmps16
  go_wp2_with (go_at_call 36; refine (same15N hn _ h k).mono ?_; rintro e w1 ⟨rfl, hb1⟩)
  go_ret
  exact ⟨rfl, hb1⟩
set_option maxRecDepth 100000 in
set_option maxHeartbeats 8000000 in
theorem sanity15P (w0 : World) (hw : WidOk w0) : Calls Tryz.prog 5 #[] w0 fun e w' => e = .returned (.bool true) ∧ Below w0.heap.size w0 w' := by
  have W0 := Lib.hid hw
  clear hw
  go_enter Tryz.func5, Tryz.ntmps5
  go_upto_region 1 with fail
  go_cut [1, 3] (fun p e wx => ∃ g A c, p = .pointer (some ⟨g, 0, none⟩) ∧ e = .int .i64 0 ∧ wx.heap[g]? = some (.cells #[.int .i64 3, .int .i64 3, .int .i64 2, .slice A 1 c] 24 (0, 0)) ∧ Sl cdE.slice (fun _ => True) wx A c qS.fs ∧ Below w0.heap.size w0 wx)
  case first =>
    go_wp2_with (go_at_call 11; refine (parseP (bs := txS) (q := qS) _ (by decide) qS_text rfl).mono ?_; rintro e wC ⟨A, c, rfl, h1, hbC⟩; have H1 := Lib.hid h1; have bC := Lib.hid hbC; clear h1 hbC)
    go_meet
    case rel => exact ⟨_, A, c, rfl, rfl, heap_alloc_at rfl, (H1.out.alloc_ _).sub (fun _ _ _ => trivial), bC.out.alloc bC.out.size _⟩
  obtain ⟨g, A, c, rfl, rfl, gq, hs, hb⟩ := hcut
  obtain ⟨w1, hwv⟩ : ∃ x, x = wc := ⟨_, rfl⟩
  subst hwv
  have G1 := Lib.hid gq
  have F1 := Lib.hid hs
  have W1 := mvW W0 hb
  have b1 := Lib.hid hb
  clear gq hs hb W0
  go_upto_region 2 with fail
  go_cut [4] (fun p wx => ∃ g, p = .pointer (some ⟨g, 0, none⟩) ∧ StB wx g sS 3 3 ∧ Below w1.heap.size w1 wx)
  case first =>
    go_wp2_with fail
    go_meet
    case rel =>
      refine ⟨_, rfl, ⟨_, _, _, _, heap_alloc_at (by simp), ?_, ?_⟩, (by repeat' (first | with_reducible exact Below.refl _ _ | with_reducible assumption | with_reducible refine Below.setCell ?_ ?_ _ | with_reducible refine Below.drew ?_ | with_reducible refine below_drewN ?_ _ | with_reducible refine Below.alloc ?_ ?_ _ | (rintro _ ⟨⟩; simp <;> omega) | omega | (simp <;> omega)))⟩
      · exact Sl.ofRow (cs := [.int .i64 0, .int .i64 0, .int .i64 5, .int .i64 3, .int .i64 0, .int .i64 0, .int .i64 4, .int .i64 9, .int .i64 0, .int .i64 0, .int .i64 5, .int .i64 4]) ((Below.heap_alloc _ _ _ (by simp; omega)).trans ((Below.heap_alloc _ _ _ (by simp)).trans (heap_alloc_at rfl))) ⟨[_, _, _, _], _, rfl, rdE_shut (r := ⟨0, 0, 5, 3⟩), [_, _, _, _], _, rfl, rdE_shut (r := ⟨0, 0, 4, 9⟩), [_, _, _, _], [], rfl, rdE_shut (r := ⟨0, 0, 5, 4⟩), rfl⟩ trivial (by unfold maxLen; simp [sS])
      · exact Sl.ofRow (cs := [.bool false, .bool false, .bool false]) ((Below.heap_alloc _ _ _ (by simp)).trans (heap_alloc_at (by simp))) ⟨[_], _, rfl, rfl, [_], _, rfl, rfl, [_], [], rfl, rfl, rfl⟩ trivial (by unfold maxLen; simp [sS])
  obtain ⟨gs, rfl, hst, hb⟩ := hcut
  obtain ⟨w2, hwv⟩ : ∃ x, x = wc := ⟨_, rfl⟩
  subst hwv
  have S2 := Lib.hid hst
  replace G1 := mvQ G1 hb
  replace F1 := mvF F1 hb
  have W2 := mvW W1 hb
  have b2 := Lib.hid (b1.out.trans (hb.mono b1.out.size))
  clear hst hb W1 b1
  go_upto_region 3 with fail
  obtain ⟨x0, x1, x2, x3⟩ := row4 G1
  go_cut [5, 6] (fun p e wx => ∃ g, p = .pointer (some ⟨g, 0, none⟩) ∧ e = .int .i64 0 ∧ Bnd wx g [195075] 1 ∧ Below w2.heap.size w2 wx)
  case first =>
    go_wp2_with (go_at_call 8; refine (checkN (q := qS) (f := 1) (n := 1) rfl 3 qS_check rfl _ W2.out F1.out).mono ?_; rintro e wC ⟨B, d, rfl, h1, hbC⟩; have H1 := Lib.hid h1; have bC := Lib.hid hbC; clear h1 hbC)
    go_meet
    case rel => exact ⟨_, rfl, rfl, ⟨B, d, heap_alloc_at rfl, (H1.out.alloc_ _).sub (fun _ _ _ => trivial)⟩, bC.out.alloc bC.out.size _⟩
  obtain ⟨gb, rfl, rfl, hbx, hb⟩ := hcut
  obtain ⟨w3, hwv⟩ : ∃ x, x = wc := ⟨_, rfl⟩
  subst hwv
  have X3 := Lib.hid hbx
  replace G1 := mvQ G1 hb
  replace F1 := mvF F1 hb
  replace S2 := mvSt S2 hb
  have b3 := Lib.hid (b2.out.trans (hb.mono b2.out.size))
  clear hbx hb W2 b2 x0 x1 x2 x3
  obtain ⟨x0, x1, x2, x3⟩ := row4 G1
  obtain ⟨L, cl, G, cg, hg, hsL, hsG⟩ := S2.out
  obtain ⟨s0, s1⟩ := two2 (Lib.hid hg)
  have HGS := Lib.hid hg
  have HSL := Lib.hid hsL
  have HSG := Lib.hid hsG
  obtain ⟨B, d, hgb, hsB⟩ := X3.out
  obtain ⟨y0, -, ly⟩ := one (Lib.hid hgb)
  obtain ⟨b0, o0, rfl, -, lb0, yv⟩ := i64_at hsB (i := 0) (r := 195075) rfl
  simp only [Nat.add_zero] at yv
  clear hg hsL hsG hgb hsB
  have lx := heap_lt G1.out
  have ls := heap_lt HGS.out
  go_upto_region 6 with fail
  go_wp2_with (first
    | (go_at_call 9; refine (sumsN (q := qS) (s := sS) (f := 1) (n := 1) (nl := 3) (ng := 3) qS_sums rfl rfl rfl rfl _ qS_valid qS_wide okS (by decide) F1.out HSL.out HSG.out).mono ?_; rintro e w4 ⟨A4, c4, rfl, h4, hb4⟩; have H4 := Lib.hid h4; have B4 := Lib.hid hb4; have l4 := hb4.size; obtain ⟨hc4, hf4⟩ := bcell hb4; have l6 : gb < w4.heap.size := (by omega); have l7 : b0 < w4.heap.size := (by omega); clear h4 hb4)
    | (go_at_call 16; refine (topSame (xs := [25]) (n := 1) rfl _ (H4.out.alloc_ _) (Sl.litAt (S := fun _ => True) rfl (.single rfl) (by unfold maxLen; simp) (fun _ _ _ => trivial) trivial)).mono ?_; rintro e w5 ⟨rfl, hb5⟩; have B5 := Lib.hid hb5; have l5 := hb5.size; obtain ⟨hc5, hf5⟩ := bcellk (k := w4.heap.size) hb5 (by simp); clear hb5))
  go_ret
  refine ⟨rfl, ?_⟩
  have hb3 := b3.out
  have hb4 := B4.out
  have hb5 := B5.out
  have z3 := hb3.size
  have z4 := hb4.size
  exact (by repeat' (first | with_reducible exact Below.refl _ _ | with_reducible assumption | with_reducible refine Below.trans ?_ (Below.mono hb5 ?_) | with_reducible refine Below.trans ?_ (Below.mono hb4 ?_) | with_reducible refine Below.setCell ?_ ?_ _ | with_reducible refine Below.drew ?_ | with_reducible refine below_drewN ?_ _ | with_reducible refine Below.alloc ?_ ?_ _ | (rintro _ ⟨⟩; simp <;> omega) | omega | (simp <;> omega)))
end Go.Proofs.YtagadbdbbglddaaGreatDoor
namespace Go.Proofs.YtagadbdbbglddaaGreatDoor
open Go.RowKit Go.Lib

def withJ : List UInt8 := [119, 105, 116, 104]
def inJ : List UInt8 := [105, 110]
def joinN (n : Nat) : List UInt8 := if n = 0 then whereJ else andJ
def rngW (c : Cd) : List UInt8 := decDigits c.lo.toNat ++ ([46, 46] ++ decDigits c.hi.toNat)
def condW (n : Nat) (c : Cd) : List (List UInt8) := [joinN n, nmF c.col.toNat, inJ, rngW c]
def filtW : List Cd → Nat → List (List UInt8)
  | [], _ => []
  | c :: cs, n => condW n c ++ filtW cs (n + 1)
def fltsW : List (List Cd) → Nat → List (List UInt8)
  | [], _ => []
  | l :: ls, i => (if i = 0 then [] else [withJ]) ++ (filtW l 0 ++ fltsW ls (i + 1))
def colW (q : Qy) : List (List UInt8) := if hasColB q.kind then [nmF q.col.toNat] else []
def numW (q : Qy) : List (List UInt8) := if 0 < maxKF q.kind then [decDigits q.k.toNat] else []
def wordsF (q : Qy) : List (List UInt8) := kwL q.kind :: (colW q ++ (numW q ++ fltsW q.fs 0))
def fmtF (q : Qy) : List UInt8 := join (wordsF q) [32]
def T (r : List (List UInt8)) : List UInt8 := joinTail [32] r
theorem T_nil : T [] = [] := rfl
theorem T_cons (w : List UInt8) (r : List (List UInt8)) : T (w :: r) = 32 :: (w ++ T r) := by simp [T, joinTail]
theorem T_app (a b : List (List UInt8)) : T (a ++ b) = T a ++ T b := by simp [T, joinTail]
theorem T_head {r : List (List UInt8)} {c : UInt8} {t : List UInt8} (h : T r = c :: t) : c = 32 := by
  cases r with
  | nil => cases h
  | cons w r => rw [T_cons] at h; injection h with h _; exact h.symm

/-! Digits. -/
theorem of_toNat {n : Nat} (h : n < 256) : (UInt8.ofNat n).toNat = n := by simp [UInt8.toNat_ofNat']; omega
theorem dec_digit (u : Nat) : ∀ c ∈ decDigits u, 48 ≤ c.toNat ∧ c.toNat ≤ 57 := by
  induction u using Nat.strongRecOn with
  | _ u ih =>
    intro c hc
    rw [decDigits] at hc
    split at hc
    · simp only [List.mem_singleton] at hc
      subst hc
      rw [of_toNat (by omega)]; omega
    · rcases List.mem_append.1 hc with h | h
      · exact ih (u / 10) (by omega) c h
      · simp only [List.mem_singleton] at h
        subst h
        rw [of_toNat (by omega)]; omega
theorem dec_inR (u : Nat) : ∀ c ∈ decDigits u, inR 48 57 c = true := fun c hc => (inR_iff _ _ _).2 (dec_digit u c hc)
theorem dec_ne (u : Nat) : decDigits u ≠ [] := by
  rw [decDigits]
  split <;> simp
theorem digitVal_of {d : Nat} (h : d < 10) : digitVal (UInt8.ofNat (48 + d)) = some d := by
  unfold digitVal
  rw [of_toNat (by omega), if_pos (by omega)]
  congr 1; omega
theorem decFrom_app : ∀ (l m : List UInt8) (a : Nat), decFrom a (l ++ m) = (decFrom a l).bind fun n => decFrom n m
  | [], m, a => rfl
  | b :: l, m, a => by
    simp only [List.cons_append, decFrom]
    cases digitVal b with
    | none => rfl
    | some d => exact decFrom_app l m _
theorem decFrom_dec (u : Nat) : decFrom 0 (decDigits u) = some u := by
  induction u using Nat.strongRecOn with
  | _ u ih =>
    rw [decDigits]
    split
    · rename_i h
      simp only [decFrom, digitVal_of h]
      congr 1; omega
    · rename_i h
      rw [decFrom_app, ih (u / 10) (by omega)]
      simp only [Option.bind_some, decFrom, digitVal_of (Nat.mod_lt u (by omega))]
      congr 1; omega
theorem nDigits_le : ∀ (k u : Nat), u < 10 ^ (k + 1) → nDigits u ≤ k + 1
  | 0, u, h => by rw [nDigits_small (by simpa using h)]; omega
  | k + 1, u, h => by
    by_cases h1 : u < 10
    · rw [nDigits_small h1]; omega
    · rw [nDigits_big h1]
      have := nDigits_le k (u / 10) (by rw [Nat.div_lt_iff_lt_mul (by omega), ← Nat.pow_succ]; exact h)
      omega
theorem dec_len (k : Nat) {u : Nat} (h : u < 10 ^ (k + 1)) : (decDigits u).length ≤ k + 1 := by rw [decDigits_length]; exact nDigits_le k u h
theorem num_dec {u : Nat} (h : u < 10 ^ 18) : Num (decDigits u) u := by
  refine ⟨dec_len 17 h, ?_⟩
  have hd := dec_digit u
  have hf := decFrom_dec u
  cases hc : decDigits u with
  | nil => exact absurd hc (dec_ne u)
  | cons b r =>
    rw [hc] at hd hf
    have hb := hd b (by simp)
    have n1 : (b == 45) = false := by rw [beq_eq_false_iff_ne]; rintro rfl; have := hb.1; revert this; decide
    have n2 : (b == 43) = false := by rw [beq_eq_false_iff_ne]; rintro rfl; have := hb.1; revert this; decide
    simp only [atoi, n1, n2]
    unfold decNat
    simp [hf]

/-! Tokens. -/
theorem ws_cases {c : UInt8} (h : isWs c = true) : c = 32 ∨ c = 9 ∨ c = 13 ∨ c = 10 := by
  unfold isWs at h
  simp only [Bool.or_eq_true, beq_iff_eq] at h
  rcases h with ((h | h) | h) | h
  · exact .inl h
  · exact .inr (.inl h)
  · exact .inr (.inr (.inl h))
  · exact .inr (.inr (.inr h))
theorem letter_ws {c : UInt8} (h : inR 97 122 c = true) : isWs c = false := by
  rw [Bool.eq_false_iff]
  intro hw
  rcases ws_cases hw with rfl | rfl | rfl | rfl <;> revert h <;> decide
theorem digit_ws {c : UInt8} (h : inR 48 57 c = true) : isWs c = false := by
  rw [Bool.eq_false_iff]
  intro hw
  rcases ws_cases hw with rfl | rfl | rfl | rfl <;> revert h <;> decide
theorem digit_letter {c : UInt8} (h : inR 48 57 c = true) : inR 97 122 c = false := by
  rw [Bool.eq_false_iff]
  intro hl
  have h1 := (inR_iff _ _ _).1 h
  have h2 := (inR_iff _ _ _).1 hl
  have e1 : (57 : UInt8).toNat = 57 := rfl
  have e2 : (97 : UInt8).toNat = 97 := rfl
  omega
theorem skip_no {c : UInt8} {t : List UInt8} (h : isWs c = false) : skipW (c :: t) = c :: t := by unfold skipW; rw [List.dropWhile_cons_of_neg (by rw [h]; simp)]
theorem span_all {lo hi : UInt8} {rest : List UInt8} (hr : ∀ c t, rest = c :: t → inR lo hi c = false) : ∀ {w : List UInt8}, (∀ c ∈ w, inR lo hi c = true) → spanF lo hi (w ++ rest) = w
  | [], _ => by
    cases rest with
    | nil => rfl
    | cons c t => exact span_no (hr c t rfl)
  | c :: w, hw => by
    rw [List.cons_append, span_yes (hw c (by simp)), span_all hr (fun d hd => hw d (by simp [hd]))]
theorem nx_word {w rest : List UInt8} (hne : w ≠ []) (hw : ∀ c ∈ w, inR 97 122 c = true) (hr : ∀ c t, rest = c :: t → inR 97 122 c = false) : Nx 1 w (w ++ rest) rest := by
  have hs := span_all hr hw
  cases w with
  | nil => exact absurd rfl hne
  | cons c w =>
    have hc := hw c (by simp)
    have e : skipW (c :: w ++ rest) = c :: w ++ rest := skip_no (letter_ws hc)
    unfold Nx
    rw [e]
    refine ⟨?_, by simp⟩
    rw [List.cons_append] at hs ⊢
    unfold tokF
    simp only [hc, if_true]
    rw [hs]
theorem nx_num {w rest : List UInt8} (hne : w ≠ []) (hw : ∀ c ∈ w, inR 48 57 c = true) (hr : ∀ c t, rest = c :: t → inR 48 57 c = false) : Nx 2 w (w ++ rest) rest := by
  have hs := span_all hr hw
  cases w with
  | nil => exact absurd rfl hne
  | cons c w =>
    have hc := hw c (by simp)
    have e : skipW (c :: w ++ rest) = c :: w ++ rest := skip_no (digit_ws hc)
    unfold Nx
    rw [e]
    refine ⟨?_, by simp⟩
    rw [List.cons_append] at hs ⊢
    unfold tokF
    simp only [hc, digit_letter hc, if_true]
    rw [hs]
    simp
theorem nx_sp {k : Int} {t l l' : List UInt8} (h : Nx k t l l') : Nx k t (32 :: l) l' := h
theorem T_next {lo hi : UInt8} (h : inR lo hi 32 = false) (r : List (List UInt8)) : ∀ c t, T r = c :: t → inR lo hi c = false := fun c t e => by rw [T_head e]; exact h
theorem nx_T {w : List UInt8} (hne : w ≠ []) (hw : ∀ c ∈ w, inR 97 122 c = true) (r : List (List UInt8)) : Nx 1 w (T (w :: r)) (T r) := by
  rw [T_cons]; exact nx_sp (nx_word hne hw (T_next (by decide) r))
theorem nx_Tn {u : Nat} (r : List (List UInt8)) : Nx 2 (decDigits u) (T (decDigits u :: r)) (T r) := by
  rw [T_cons]; exact nx_sp (nx_num (dec_ne u) (dec_inR u) (T_next (by decide) r))
theorem nm_word {n : Nat} (h : n < 4) : nmF n ≠ [] ∧ (∀ c ∈ nmF n, inR 97 122 c = true) ∧ (nmF n).length ≤ 5 := by
  rcases (by omega : n = 0 ∨ n = 1 ∨ n = 2 ∨ n = 3) with rfl | rfl | rfl | rfl <;> decide
theorem kw_word {k : Int} (h : 1 ≤ k ∧ k ≤ 7) : kwL k ≠ [] ∧ (∀ c ∈ kwL k, inR 97 122 c = true) ∧ (kwL k).length ≤ 8 := by
  rcases (by omega : k = 1 ∨ k = 2 ∨ k = 3 ∨ k = 4 ∨ k = 5 ∨ k = 6 ∨ k = 7) with rfl | rfl | rfl | rfl | rfl | rfl | rfl <;> decide
theorem join_word (n : Nat) : joinN n ≠ [] ∧ (∀ c ∈ joinN n, inR 97 122 c = true) ∧ (joinN n).length ≤ 5 := by
  unfold joinN
  split <;> decide
theorem cond_text {c : Cd} (hc : ValidCd c) (r : List (List UInt8)) : CondTx c (T (nmF c.col.toNat :: inJ :: rngW c :: r)) (T r) := by
  obtain ⟨⟨h0, h3⟩, hlo, hle, hhi⟩ := hc
  obtain ⟨n, hn⟩ : ∃ n : Nat, c.col = n := ⟨c.col.toNat, by omega⟩
  have hn4 : n < 4 := by omega
  obtain ⟨k1, k2, k3⟩ := nm_word hn4
  have hm := maxC_le c.col
  have e : T (rngW c :: r) = 32 :: (decDigits c.lo.toNat ++ ([46, 46] ++ (decDigits c.hi.toNat ++ T r))) := by rw [T_cons]; simp [rngW]
  have et : c.col.toNat = n := by omega
  rw [et]
  refine .inl ⟨n, decDigits c.lo.toNat, decDigits c.hi.toNat, T (inJ :: rngW c :: r), T (rngW c :: r), [46, 46] ++ (decDigits c.hi.toNat ++ T r), decDigits c.hi.toNat ++ T r, hn, ?_⟩
  refine ⟨nx_T k1 k2 _, nx_T (by decide) (by decide) _, ?_, ⟨rfl, rfl⟩, nx_num (dec_ne _) (dec_inR _) (T_next (by decide) r), ?_, ?_, hn4, hlo, hle, by rw [hn] at hhi; exact hhi⟩
  · rw [e]
    exact nx_sp (nx_num (dec_ne _) (dec_inR _) (fun c t h => by injection h with h _; subst h; decide))
  · have := num_dec (u := c.lo.toNat) (by omega)
    rw [show ((c.lo.toNat : Nat) : Int) = c.lo by omega] at this
    exact this
  · have := num_dec (u := c.hi.toNat) (by omega)
    rw [show ((c.hi.toNat : Nat) : Int) = c.hi by omega] at this
    exact this
theorem filt_text {r : List (List UInt8)} (hr : ∀ jt, jt = whereJ ∨ jt = andJ → NoTx jt (T r)) : ∀ (cs : List Cd) (n : Nat), (∀ c ∈ cs, ValidCd c) → n + cs.length ≤ 3 → FTx (joinN n) cs n (T (filtW cs n ++ r)) (T r)
  | [], n, _, _ => ⟨fun _ => hr _ (by unfold joinN; split; exact .inl rfl; exact .inr rfl), rfl⟩
  | c :: cs, n, hv, hl => by
    simp only [List.length_cons] at hl
    obtain ⟨k1, k2, k3⟩ := join_word n
    have e : filtW (c :: cs) n ++ r = joinN n :: nmF c.col.toNat :: inJ :: rngW c :: (filtW cs (n + 1) ++ r) := by simp [filtW, condW]
    rw [e]
    refine ⟨by omega, _, _, nx_T k1 k2 _, cond_text (hv c (by simp)) _, ?_⟩
    have := filt_text hr cs (n + 1) (fun x hx => hv x (by simp [hx])) (by omega)
    have ej : joinN (n + 1) = andJ := rfl
    rw [ej] at this
    exact this
theorem no_nil (jt : List UInt8) (h : jt = whereJ ∨ jt = andJ) : NoTx jt (T []) := ⟨0, [], rfl, fun h => by cases h⟩
theorem no_with (r : List (List UInt8)) (jt : List UInt8) (h : jt = whereJ ∨ jt = andJ) : NoTx jt (T (withJ :: r)) := by
  refine ⟨1, withJ, (nx_T (w := withJ) (by decide) (by decide) r).1, fun _ => ?_⟩
  rcases h with rfl | rfl <;> decide
def restW (q : Qy) : List (List UInt8) := if q.kind = 7 then withJ :: filtW (fl q 1) 0 else []
theorem flts_rest {q : Qy} (hq : ValidQ q) : fltsW q.fs 0 = filtW (fl q 0) 0 ++ restW q := by
  have hl := hq.head.2.2.2.2.2.2
  unfold nFilF at hl
  unfold restW fl
  by_cases h7 : q.kind = 7
  · rw [if_pos h7] at hl ⊢
    match hf : q.fs, hl with
    | [a, b], _ => simp [fltsW]
  · rw [if_neg h7] at hl ⊢
    match hf : q.fs, hl with
    | [a], _ => simp [fltsW]
theorem fl_valid {q : Qy} (hq : ValidQ q) {i : Nat} (hi : i < nFilF q.kind) : ValidFlt (fl q i) := by
  have hl := hq.head.2.2.2.2.2.2
  refine hq.flt _ ?_
  unfold fl
  rw [List.getD_eq_getElem?_getD, List.getElem?_eq_getElem (by omega)]
  exact List.getElem_mem _
/-- The canonical text reads as the query. -/
theorem text_q {q : Qy} (hq : ValidQ q) : QTx q (fmtF q) (T (colW q ++ (numW q ++ fltsW q.fs 0))) (T (numW q ++ fltsW q.fs 0)) (T (fltsW q.fs 0)) (T (restW q)) [] := by
  obtain ⟨hk, ⟨hc0, hc3⟩, hcol, hk0, hkm, hk36, hfl⟩ := hq.head
  obtain ⟨k1, k2, k3⟩ := kw_word hk
  have hm : maxKF q.kind ≤ 65536 := by unfold maxKF; split <;> (try split) <;> decide
  refine ⟨hk, ?_, ?_, ?_, ?_, ?_⟩
  · unfold fmtF wordsF
    rw [join_cons]
    exact nx_word k1 k2 (T_next (by decide) _)
  · cases hc : hasColB q.kind with
    | true =>
      rw [if_pos rfl]
      obtain ⟨j1, j2, j3⟩ := nm_word (n := q.col.toNat) (by omega)
      refine ⟨q.col.toNat, by omega, by omega, ?_⟩
      unfold colW
      rw [hc, if_pos rfl]
      exact nx_T j1 j2 _
    | false =>
      rw [if_neg (by simp)]
      unfold colW
      rw [hc]
      refine ⟨?_, rfl⟩
      rcases hcol with h | h
      · exact h
      · have : hasColB q.kind = true := decide_eq_true h
        rw [hc] at this; cases this
  · by_cases h0 : 0 < maxKF q.kind
    · rw [if_pos h0]
      refine ⟨decDigits q.k.toNat, ?_, ?_, ?_, hkm⟩
      · unfold numW
        rw [if_pos h0]
        exact nx_Tn _
      · have := num_dec (u := q.k.toNat) (by omega)
        rw [show ((q.k.toNat : Nat) : Int) = q.k by omega] at this
        exact this
      · refine hk36 ?_
        unfold maxKF at h0
        rcases (by omega : q.kind = 3 ∨ q.kind = 6 ∨ (q.kind ≠ 3 ∧ q.kind ≠ 6)) with h | h | ⟨h, h'⟩
        · exact .inl h
        · exact .inr h
        · rw [if_neg h, if_neg h'] at h0; omega
    · rw [if_neg h0]
      unfold numW
      rw [if_neg h0]
      exact ⟨by omega, rfl⟩
  · rw [flts_rest hq]
    have hv := fl_valid hq (i := 0) (by unfold nFilF; split <;> omega)
    refine filt_text (fun jt h => ?_) (fl q 0) 0 hv.2 (by have := hv.1; omega)
    unfold restW
    split
    · exact no_with _ _ h
    · exact no_nil _ h
  · by_cases h7 : q.kind = 7
    · rw [if_pos (by unfold nFormF; rw [if_pos h7])]
      have hv := fl_valid hq (i := 1) (by unfold nFilF; rw [if_pos h7]; omega)
      refine ⟨by rw [hfl]; unfold nFilF; rw [if_pos h7], T (filtW (fl q 1) 0), fun lf hlf => ?_, ?_⟩
      · have := nx_T (w := withJ) (by decide) (by decide) (filtW (fl q 1) 0)
        unfold restW at hlf
        rw [if_pos h7] at hlf
        unfold Nx at this ⊢
        rw [hlf]; exact this
      · have := filt_text (r := []) no_nil (fl q 1) 0 hv.2 (by have := hv.1; omega)
        rw [List.append_nil] at this
        exact this
    · rw [if_neg (by unfold nFormF; rw [if_neg h7]; split <;> omega)]
      refine ⟨by rw [hfl]; unfold nFilF; rw [if_neg h7], ?_⟩
      unfold restW
      rw [if_neg h7]; rfl
theorem filt_len : ∀ (cs : List Cd) (n : Nat), (∀ c ∈ cs, ValidCd c) → (T (filtW cs n)).length ≤ 24 * cs.length
  | [], _, _ => by simp [filtW, T_nil]
  | c :: cs, n, hv => by
    obtain ⟨⟨h0, h3⟩, hlo, hle, hhi⟩ := hv c (by simp)
    have hm := maxC_le c.col
    have ih := filt_len cs (n + 1) (fun x hx => hv x (by simp [hx]))
    have k1 := (join_word n).2.2
    have k2 := (nm_word (n := c.col.toNat) (by omega)).2.2
    have d1 := dec_len 2 (u := c.lo.toNat) (by omega)
    have d2 := dec_len 2 (u := c.hi.toNat) (by omega)
    simp only [filtW, condW, T_app, T_cons, T_nil, rngW, inJ, List.length_append, List.length_cons, List.length_nil]
    omega
theorem fmt_len {q : Qy} (hq : ValidQ q) : (fmtF q).length ≤ 400 := by
  obtain ⟨hk, ⟨hc0, hc3⟩, hcol, hk0, hkm, hk36, hfl⟩ := hq.head
  have hm : maxKF q.kind ≤ 65536 := by unfold maxKF; split <;> (try split) <;> decide
  have k1 := (kw_word hk).2.2
  have k2 := (nm_word (n := q.col.toNat) (by omega)).2.2
  have d1 := dec_len 4 (u := q.k.toNat) (by omega)
  have h0 := fl_valid hq (i := 0) (by unfold nFilF; split <;> omega)
  have f0 := filt_len (fl q 0) 0 h0.2
  have hcW : (T (colW q)).length ≤ 6 := by
    unfold colW
    split
    · simp only [T_cons, T_nil, List.length_append, List.length_cons, List.length_nil]; omega
    · simp [T_nil]
  have hnW : (T (numW q)).length ≤ 6 := by
    unfold numW
    split
    · simp only [T_cons, T_nil, List.length_append, List.length_cons, List.length_nil]; omega
    · simp [T_nil]
  have hrW : (T (restW q)).length ≤ 77 := by
    unfold restW
    split
    · rename_i h7
      have h1 := fl_valid hq (i := 1) (by unfold nFilF; rw [if_pos h7]; omega)
      have f1 := filt_len (fl q 1) 0 h1.2
      have := h1.1
      simp only [T_cons, withJ, List.length_append, List.length_cons, List.length_nil]; omega
    · simp [T_nil]
  have hl0 := h0.1
  have e : fmtF q = kwL q.kind ++ (T (colW q) ++ (T (numW q) ++ (T (filtW (fl q 0) 0) ++ T (restW q)))) := by
    unfold fmtF wordsF
    rw [join_cons, flts_rest hq, ← T_app, ← T_app, ← T_app]; rfl
  rw [e]
  simp only [List.length_append]
  omega
end Go.Proofs.YtagadbdbbglddaaGreatDoor
