/-
  Texts of this claim, merged: PaA, Tp1, Tp2. Conditions: as each theorem says.
-/
import Derived.Deep.Upon
import Derived.Test.YtagadbdbbglddaaGreatDoorT1
import Derived.Test.YtagadbdbbglddaaGreatDoorT2
import Derived.Test.YtagadbdbbglddaaGreatDoorT3
import Derived.Test.YtagadbdbbglddaaGreatDoorT4
import Derived.Test.YtagadbdbbglddaaGreatDoorT5
import Derived.Test.YtagadbdbbglddaaGreatDoorT6
import Derived.Test.YtagadbdbbglddaaGreatDoorT7
import Derived.Test.YtagadbdbbglddaaGreatDoorT8
import Derived.Test.YtagadbdbbglddaaGreatDoorT9
import Derived.Test.YtagadbdbbglddaaGreatDoorT10
import Derived.Test.YtagadbdbbglddaaGreatDoorT11
import Derived.Test.YtagadbdbbglddaaGreatDoorT12
import Derived.Test.YtagadbdbbglddaaGreatDoorT13
import Derived.Test.YtagadbdbbglddaaGreatDoorShelf
import Derived.Test.YtagadbdbbglddaaGreatDoorT21
import Derived.Test.YtagadbdbbglddaaGreatDoorT22
import Derived.Test.YtagadbdbbglddaaGreatDoorT23
import Derived.Test.YtagadbdbbglddaaGreatDoorT24
import Derived.Test.YtagadbdbbglddaaGreatDoorT14
import Derived.Test.YtagadbdbbglddaaGreatDoorT15
import Derived.Test.YtagadbdbbglddaaGreatDoorT16
import Derived.Test.YtagadbdbbglddaaGreatDoorT17
import Derived.Test.YtagadbdbbglddaaGreatDoorT18
import Derived.Test.YtagadbdbbglddaaGreatDoorT19
import Derived.Test.YtagadbdbbglddaaGreatDoorT20
set_option linter.unusedSimpArgs false
set_option linter.unusedVariables false
namespace Go.Proofs.YtagadbdbbglddaaGreatDoor
open Go.RowKit

/-- How Parse stands behind the query. -/
structure RSt (w : World) (bs lf : List UInt8) (q : Qy) (A : Option Addr) (c gq : Nat) (wx : World) : Prop where
  bel : Below w.heap.size w wx
  res : wx.heap[w.heap.size]? = some (.cells #[.int .i64 0, .int .i64 0, .int .i64 0, .slice none 0 0] 24 (0, 0))
  p : PAt bs (w.heap.size + 1) lf wx
  row : wx.heap[gq]? = some (.cells #[.int .i64 q.kind, .int .i64 q.col, .int .i64 q.k, .slice A q.fs.length c] 24 (0, 0))
  sl : Sl cdE.slice (fun b => w.heap.size + 2 ≤ b) wx A c q.fs
  hq : w.heap.size + 2 ≤ gq
theorem RSt.call {w wx w' : World} {bs lf l' : List UInt8} {q : Qy} {A : Option Addr} {c gq : Nat} (h : RSt w bs lf q A c gq wx) (hp : PAt bs (w.heap.size + 1) l' w') (hG : Gk (w.heap.size + 1) wx w') : RSt w bs l' q A c gq w' :=
  ⟨hG.below h.bel (by omega) h.bel.size, hG.row h.res (by omega), hp, hG.row h.row (by have := h.hq; omega), hG.slKeep h.sl (by omega), h.hq⟩
theorem PAt.row0 {bs : List UInt8} {g : Nat} {l : List UInt8} {w : World} (h : PAt bs g l w) : ∃ v, w.cell? ⟨g, 0, none⟩ = some (.string ⟨bs.toArray⟩) ∧ w.cell? ⟨g, 1, none⟩ = some v ∧ w.cell? ⟨g, 2, none⟩ = some (.int .i64 0) ∧ w.cell? ⟨g, 3, none⟩ = some (.int .i64 0) := by
  obtain ⟨i, h1, h2, h3⟩ := h
  obtain ⟨a, b, c, d⟩ := row4 (Lib.hid h3)
  exact ⟨_, a, b, c, d⟩
set_option maxRecDepth 100000 in
set_option maxHeartbeats 4000000 in
theorem parseP {bs l1 l2 l3 l4 l' : List UInt8} {q : Qy} (w : World) (hl : bs.length ≤ 400) (h : QTx q bs l1 l2 l3 l4 l') (hend : skipW l' = []) :
    Calls Tryz.prog 11 #[.string ⟨bs.toArray⟩] w fun e w' => ∃ A c, e = .returned (.tuple #[.agg #[.int .i64 q.kind, .int .i64 q.col, .int .i64 q.k, .slice A q.fs.length c], .int .i64 0, .int .i64 0]) ∧ Sl cdE.slice (fun b => w.heap.size ≤ b) w' A c q.fs ∧ Below w.heap.size w w' := by
  have HX := Lib.hid h
  have HE := Lib.hid hend
  have hl0 : bs.length ≤ 1000 := by omega
  have hg4 : ¬ (400 : Int) < (bs.length : Int) := by omega
  clear h hend
  go_enter Tryz.func11, Tryz.ntmps11
  go_upto_region 4 with fail
  refine wp_world (F := fun wx => Hid (Below w.heap.size w wx) ∧ Hid (wx.heap[w.heap.size]? = some (.cells #[.int .i64 0, .int .i64 0, .int .i64 0, .slice none 0 0] 24 (0, 0))) ∧ Hid (PAt bs (w.heap.size + 1) bs wx)) ⟨Lib.hid (by repeat' (first | with_reducible exact Below.refl _ _ | with_reducible assumption | with_reducible refine Below.setCell ?_ ?_ _ | with_reducible refine Below.drew ?_ | with_reducible refine below_drewN ?_ _ | with_reducible refine Below.alloc ?_ ?_ _ | (rintro _ ⟨⟩; simp <;> omega) | omega | (simp <;> omega))), Lib.hid ((Below.heap_alloc _ _ _ (by simp)).trans (heap_alloc_at rfl)), Lib.hid ⟨0, Nat.zero_le _, rfl, heap_alloc_at (by simp)⟩⟩ ?_
  rintro w2 ⟨HB, HR, HP⟩
  have lg := HP.out.lt
  go_upto_region 5 with (go_at_call 28; refine (queryP _ HP.out hl0 HX.out).mono ?_; rintro e w3 ⟨A, c, rfl, hs, ⟨lf, hlf, hP3⟩, hG3⟩; have HS := Lib.hid hs; have HLF := Lib.hid hlf; have HP3 := Lib.hid hP3; have HG3 := Lib.hid hG3; have hz3 := hG3.g.size; clear hs hlf hP3 hG3)
  refine wp_world (F := fun wx => Hid (RSt w bs lf q A c w3.heap.size wx)) (by
    have hb : Below w3.heap.size w3 (w3.alloc (.cells #[.int .i64 q.kind, .int .i64 q.col, .int .i64 q.k, .slice A q.fs.length c] 24)) := (Below.refl _ _).alloc (Nat.le_refl _) _
    have hG := HG3.out.call hb
    exact Lib.hid ⟨hG.below HB.out (by omega) HB.out.size, hG.row HR.out (by omega), HP3.out.below hb, heap_alloc_at rfl, (HS.out.keep (Below.agree hb)).sub (fun b h1 _ => by omega), by omega⟩) ?_
  intro w4 S4
  obtain ⟨gq, hgq⟩ : ∃ x, x = w3.heap.size := ⟨_, rfl⟩
  rw [← hgq] at S4 ⊢
  clear hgq
  obtain ⟨v, p0, p1, p2, p3⟩ := S4.out.p.row0
  have lp := S4.out.p.lt
  go_cut [5, 6, 26] (fun p r v wx => p = .pointer (some ⟨w.heap.size + 1, 0, none⟩) ∧ r = .pointer (some ⟨gq, 0, none⟩) ∧ v = .bool false ∧ RSt w bs (skipW lf) q A c gq wx)
  case first =>
    go_wp2_with (go_at_call 29; refine (peekP (k := 0) (t := []) _ S4.out.p hl0 (by rw [HLF.out, HE.out]; rfl)).mono ?_; rintro e w5 ⟨rfl, hP5, hG5⟩; have HC5 := Lib.hid (S4.out.call hP5 hG5); clear hP5 hG5)
    go_meet
    case rel => exact ⟨rfl, rfl, rfl, HC5.out⟩
  obtain ⟨rfl, rfl, rfl, hst⟩ := hcut
  obtain ⟨w5, hwv⟩ : ∃ x, x = wc := ⟨_, rfl⟩
  subst hwv
  have S5 := Lib.hid hst
  clear hst p0 p1 p2 p3 lp
  obtain ⟨v', p0, p1, p2, p3⟩ := S5.out.p.row0
  have lp := S5.out.p.lt
  obtain ⟨q0, q1, q2, q3⟩ := row4 (Lib.hid S5.out.row)
  obtain ⟨r0, r1, r2, r3⟩ := row4 (Lib.hid S5.out.res)
  have fr := frz S5.out.res
  have lq := heap_lt S5.out.row
  have lr := heap_lt S5.out.res
  have hqr : gq ≠ w.heap.size := by have := S5.out.hq; omega
  go_wp2_with fail
  have hset : ((((w5.setCell ⟨w.heap.size, 0, none⟩ (.int .i64 q.kind)).setCell ⟨w.heap.size, 1, none⟩ (.int .i64 q.col)).setCell ⟨w.heap.size, 2, none⟩ (.int .i64 q.k)).setCell ⟨w.heap.size, 3, none⟩ (.slice A q.fs.length c)).heap[w.heap.size]? = some (.cells #[.int .i64 q.kind, .int .i64 q.col, .int .i64 q.k, .slice A q.fs.length c] 24 (0, 0)) := heap_set (i := 3) (heap_set (i := 2) (heap_set (i := 1) (heap_set (i := 0) S5.out.res)))
  obtain ⟨t0, t1, t2, t3⟩ := row4 (Lib.hid hset)
  refine bodyPost_ret (v := .tuple #[.agg #[.int .i64 q.kind, .int .i64 q.col, .int .i64 q.k, .slice A q.fs.length c], .int .i64 0, .int .i64 0]) (by simp [results, Tryz.results11, go_sem, *]) rfl ⟨A, c, rfl, ?_, ?_⟩
  · have hn : ¬ w.heap.size + 2 ≤ w.heap.size := by omega
    exact (S5.out.sl.keep (((((Agree.refl _ _).set hn _).set hn _).set hn _).set hn _)).sub (fun b hb _ => by omega)
  · have hb := S5.out.bel
    exact (by repeat' (first | with_reducible exact Below.refl _ _ | with_reducible assumption | with_reducible refine Below.setCell ?_ ?_ _ | with_reducible refine Below.drew ?_ | with_reducible refine below_drewN ?_ _ | with_reducible refine Below.alloc ?_ ?_ _ | (rintro _ ⟨⟩; simp <;> omega) | omega | (simp <;> omega)))
end Go.Proofs.YtagadbdbbglddaaGreatDoor
namespace Go.Proofs.YtagadbdbbglddaaGreatDoor
open Go.RowKit

def qS : Qy := ⟨3, 3, 2, [[⟨2, 5, 5⟩]]⟩
def sS : Str := ⟨[⟨0, 0, 5, 3⟩, ⟨0, 0, 4, 9⟩, ⟨0, 0, 5, 4⟩], [false, false, false]⟩
def txS : List UInt8 := [109, 111, 109, 101, 110, 116, 32, 118, 97, 108, 117, 101, 32, 50, 32, 119, 104, 101, 114, 101, 32, 107, 105, 110, 100, 32, 61, 32, 53]
theorem okS : OkStr sS := ⟨rfl, by simp [sS, ValidR]⟩
theorem qS_valid : ValidQ qS := (validQB_iff _).1 (by kernel_rfl)
theorem qS_wide : wideB qS = false := by kernel_rfl
theorem qS_sums : sumsF qS (liveF sS) = [25] := by kernel_rfl
theorem qS_check : checkTF qS 3 = ([195075], 0) := by kernel_rfl
set_option maxRecDepth 10000 in
theorem qS_text : QTx qS txS (txS.drop 6) (txS.drop 12) (txS.drop 14) [] [] where
  hk := by decide
  n1 := ⟨by decide, by decide⟩
  c := by
    rw [if_pos (by decide)]
    exact ⟨3, rfl, by decide, by decide, by decide⟩
  k := by
    rw [if_pos (by decide)]
    exact ⟨[50], ⟨by decide, by decide⟩, ⟨by decide, by decide⟩, by decide, by decide⟩
  f := ⟨by decide, txS.drop 20, [], ⟨by decide, by decide⟩, .inr ⟨2, [53], txS.drop 25, txS.drop 27, rfl, rfl, ⟨⟨by decide, by decide⟩, ⟨by decide, by decide⟩, ⟨by decide, by decide⟩, ⟨by decide, by decide⟩, by decide, by decide, by decide⟩⟩, fun _ => ⟨0, [], by decide, fun h => by cases h⟩, rfl⟩
  g := by
    rw [if_neg (by decide)]
    exact ⟨rfl, rfl⟩
/-- A bound's box. -/
def Bnd (w : World) (g : Nat) (xs : List Int) (n : Nat) : Prop := ∃ B d, w.heap[g]? = some (.cells #[.slice B n d] 35 (0, 0)) ∧ Sl .i64 (fun _ => True) w B d xs
theorem mvBnd {w w' : World} {g n : Nat} {xs : List Int} (h : Hid (Bnd w g xs n)) (hb : Below w.heap.size w w') : Hid (Bnd w' g xs n) := by
  obtain ⟨B, d, h1, h2⟩ := h.out
  exact Lib.hid ⟨B, d, (hb.block g (heap_lt h1)).trans h1, h2.keep (Below.agree hb)⟩
theorem checkN {q : Qy} {A : Option Addr} {c f n : Nat} {S : Nat → Prop} {xs : List Int} {e : Int} (hf : q.fs.length = f) (rows : Int) (hp : checkTF q rows = (xs, e)) (hn : xs.length = n) (w : World) (hw : WidOk w) (h : Sl cdE.slice S w A c q.fs) :
    Calls Tryz.prog 8 #[.agg #[.int .i64 q.kind, .int .i64 q.col, .int .i64 q.k, .slice A f c], .int .i64 rows] w fun r w' => ∃ B d, r = .returned (.tuple #[.agg #[.slice B n d], .int .i64 e]) ∧ Sl .i64 (fun b => w.heap.size ≤ b) w' B d xs ∧ Below w.heap.size w w' := by
  subst hf; subst hn
  exact checkP rows w hw h hp
theorem topSame {xs : List Int} {A B : Option Addr} {c d n : Nat} {S T : Nat → Prop} (hn : xs.length = n) (w : World) (h : Sl .i64 S w A c xs) (k : Sl .i64 T w B d xs) :
    Calls Tryz.prog 16 #[.slice A n c, .slice B n d] w fun e w' => e = .returned (.bool true) ∧ Below w.heap.size w w' := by
  go_enter Tryz.func16, Tryz.ntmps16
  go_wp2_with (go_at_call 36; refine (same15N hn _ h k).mono ?_; rintro e w1 ⟨rfl, hb1⟩)
  go_ret
  exact ⟨rfl, hb1⟩
set_option maxRecDepth 100000 in
set_option maxHeartbeats 8000000 in
theorem sanity15P (w0 : World) (hw : WidOk w0) : Calls Tryz.prog 5 #[] w0 fun e w' => e = .returned (.bool true) ∧ Below w0.heap.size w0 w' := by
  have W0 := Lib.hid hw
  clear hw
  go_enter Tryz.func5, Tryz.ntmps5
  go_upto_region 1 with fail
  go_cut [1, 3] (fun p e wx => ∃ g A c, p = .pointer (some ⟨g, 0, none⟩) ∧ e = .int .i64 0 ∧ wx.heap[g]? = some (.cells #[.int .i64 3, .int .i64 3, .int .i64 2, .slice A 1 c] 24 (0, 0)) ∧ Sl cdE.slice (fun _ => True) wx A c qS.fs ∧ Below w0.heap.size w0 wx)
  case first =>
    go_wp2_with (go_at_call 11; refine (parseP (bs := txS) (q := qS) _ (by decide) qS_text rfl).mono ?_; rintro e wC ⟨A, c, rfl, h1, hbC⟩; have H1 := Lib.hid h1; have bC := Lib.hid hbC; clear h1 hbC)
    go_meet
    case rel => exact ⟨_, A, c, rfl, rfl, heap_alloc_at rfl, (H1.out.alloc_ _).sub (fun _ _ _ => trivial), bC.out.alloc bC.out.size _⟩
  obtain ⟨g, A, c, rfl, rfl, gq, hs, hb⟩ := hcut
  obtain ⟨w1, hwv⟩ : ∃ x, x = wc := ⟨_, rfl⟩
  subst hwv
  have G1 := Lib.hid gq
  have F1 := Lib.hid hs
  have W1 := mvW W0 hb
  have b1 := Lib.hid hb
  clear gq hs hb W0
  go_upto_region 2 with fail
  go_cut [4] (fun p wx => ∃ g, p = .pointer (some ⟨g, 0, none⟩) ∧ StB wx g sS 3 3 ∧ Below w1.heap.size w1 wx)
  case first =>
    go_wp2_with fail
    go_meet
    case rel =>
      refine ⟨_, rfl, ⟨_, _, _, _, heap_alloc_at (by simp), ?_, ?_⟩, (by repeat' (first | with_reducible exact Below.refl _ _ | with_reducible assumption | with_reducible refine Below.setCell ?_ ?_ _ | with_reducible refine Below.drew ?_ | with_reducible refine below_drewN ?_ _ | with_reducible refine Below.alloc ?_ ?_ _ | (rintro _ ⟨⟩; simp <;> omega) | omega | (simp <;> omega)))⟩
      · exact Sl.ofRow (cs := [.int .i64 0, .int .i64 0, .int .i64 5, .int .i64 3, .int .i64 0, .int .i64 0, .int .i64 4, .int .i64 9, .int .i64 0, .int .i64 0, .int .i64 5, .int .i64 4]) ((Below.heap_alloc _ _ _ (by simp; omega)).trans ((Below.heap_alloc _ _ _ (by simp)).trans (heap_alloc_at rfl))) ⟨[_, _, _, _], _, rfl, rdE_shut (r := ⟨0, 0, 5, 3⟩), [_, _, _, _], _, rfl, rdE_shut (r := ⟨0, 0, 4, 9⟩), [_, _, _, _], [], rfl, rdE_shut (r := ⟨0, 0, 5, 4⟩), rfl⟩ trivial (by unfold maxLen; simp [sS])
      · exact Sl.ofRow (cs := [.bool false, .bool false, .bool false]) ((Below.heap_alloc _ _ _ (by simp)).trans (heap_alloc_at (by simp))) ⟨[_], _, rfl, rfl, [_], _, rfl, rfl, [_], [], rfl, rfl, rfl⟩ trivial (by unfold maxLen; simp [sS])
  obtain ⟨gs, rfl, hst, hb⟩ := hcut
  obtain ⟨w2, hwv⟩ : ∃ x, x = wc := ⟨_, rfl⟩
  subst hwv
  have S2 := Lib.hid hst
  replace G1 := mvQ G1 hb
  replace F1 := mvF F1 hb
  have W2 := mvW W1 hb
  have b2 := Lib.hid (b1.out.trans (hb.mono b1.out.size))
  clear hst hb W1 b1
  go_upto_region 3 with fail
  obtain ⟨x0, x1, x2, x3⟩ := row4 G1
  go_cut [5, 6] (fun p e wx => ∃ g, p = .pointer (some ⟨g, 0, none⟩) ∧ e = .int .i64 0 ∧ Bnd wx g [195075] 1 ∧ Below w2.heap.size w2 wx)
  case first =>
    go_wp2_with (go_at_call 8; refine (checkN (q := qS) (f := 1) (n := 1) rfl 3 qS_check rfl _ W2.out F1.out).mono ?_; rintro e wC ⟨B, d, rfl, h1, hbC⟩; have H1 := Lib.hid h1; have bC := Lib.hid hbC; clear h1 hbC)
    go_meet
    case rel => exact ⟨_, rfl, rfl, ⟨B, d, heap_alloc_at rfl, (H1.out.alloc_ _).sub (fun _ _ _ => trivial)⟩, bC.out.alloc bC.out.size _⟩
  obtain ⟨gb, rfl, rfl, hbx, hb⟩ := hcut
  obtain ⟨w3, hwv⟩ : ∃ x, x = wc := ⟨_, rfl⟩
  subst hwv
  have X3 := Lib.hid hbx
  replace G1 := mvQ G1 hb
  replace F1 := mvF F1 hb
  replace S2 := mvSt S2 hb
  have b3 := Lib.hid (b2.out.trans (hb.mono b2.out.size))
  clear hbx hb W2 b2 x0 x1 x2 x3
  obtain ⟨x0, x1, x2, x3⟩ := row4 G1
  obtain ⟨L, cl, G, cg, hg, hsL, hsG⟩ := S2.out
  obtain ⟨s0, s1⟩ := two2 (Lib.hid hg)
  have HGS := Lib.hid hg
  have HSL := Lib.hid hsL
  have HSG := Lib.hid hsG
  obtain ⟨B, d, hgb, hsB⟩ := X3.out
  obtain ⟨y0, -, ly⟩ := one (Lib.hid hgb)
  obtain ⟨b0, o0, rfl, -, lb0, yv⟩ := i64_at hsB (i := 0) (r := 195075) rfl
  simp only [Nat.add_zero] at yv
  clear hg hsL hsG hgb hsB
  have lx := heap_lt G1.out
  have ls := heap_lt HGS.out
  go_upto_region 6 with fail
  go_wp2_with (first
    | (go_at_call 9; refine (sumsN (q := qS) (s := sS) (f := 1) (n := 1) (nl := 3) (ng := 3) qS_sums rfl rfl rfl rfl _ qS_valid qS_wide okS (by decide) F1.out HSL.out HSG.out).mono ?_; rintro e w4 ⟨A4, c4, rfl, h4, hb4⟩; have H4 := Lib.hid h4; have B4 := Lib.hid hb4; have l4 := hb4.size; obtain ⟨hc4, hf4⟩ := bcell hb4; have l6 : gb < w4.heap.size := (by omega); have l7 : b0 < w4.heap.size := (by omega); clear h4 hb4)
    | (go_at_call 16; refine (topSame (xs := [25]) (n := 1) rfl _ (H4.out.alloc_ _) (Sl.litAt (S := fun _ => True) rfl (.single rfl) (by unfold maxLen; simp) (fun _ _ _ => trivial) trivial)).mono ?_; rintro e w5 ⟨rfl, hb5⟩; have B5 := Lib.hid hb5; have l5 := hb5.size; obtain ⟨hc5, hf5⟩ := bcellk (k := w4.heap.size) hb5 (by simp); clear hb5))
  go_ret
  refine ⟨rfl, ?_⟩
  have hb3 := b3.out
  have hb4 := B4.out
  have hb5 := B5.out
  have z3 := hb3.size
  have z4 := hb4.size
  exact (by repeat' (first | with_reducible exact Below.refl _ _ | with_reducible assumption | with_reducible refine Below.trans ?_ (Below.mono hb5 ?_) | with_reducible refine Below.trans ?_ (Below.mono hb4 ?_) | with_reducible refine Below.setCell ?_ ?_ _ | with_reducible refine Below.drew ?_ | with_reducible refine below_drewN ?_ _ | with_reducible refine Below.alloc ?_ ?_ _ | (rintro _ ⟨⟩; simp <;> omega) | omega | (simp <;> omega)))
end Go.Proofs.YtagadbdbbglddaaGreatDoor
namespace Go.Proofs.YtagadbdbbglddaaGreatDoor
open Go.RowKit

/-- At most 24 readings: the bounds are below the limit. -/
theorem bound_24 {q : Qy} (hq : ValidQ q) {n : Int} (h0 : 0 ≤ n) (h1 : n ≤ 24) : (boundF q n).2 = true := by
  obtain ⟨⟨hk1, hk7⟩, -⟩ := hq.head
  have hn := cap_nn hq (v := 0) (by omega)
  unfold boundF
  by_cases h3 : q.kind ≤ 3
  · have hf : filtF q 0 = fl q 0 := by unfold filtF; rw [if_neg (by omega)]
    rw [if_pos h3]
    unfold capF at hn
    rw [if_pos h3, hf] at hn
    cases hsat : satB (fl q 0) with
    | false => rfl
    | true =>
      rw [hsat] at hn
      simp only [if_true] at hn ⊢
      refine decide_eq_true ?_
      unfold powF two62
      have h2 := Int.mul_le_mul h1 hn.2 hn.1 (by decide)
      omega
  · rw [if_neg h3]
    split <;> rfl
def tp2A : List FRow := [(0, ([], (52, [10]))), (1, ([], (53, [11]))), (2, ([0, 1], (54, [51, 52]))), (3, ([2], (55, [53]))), (4, ([3], (56, [54]))), (5, ([4], (57, [55]))), (6, ([5], (58, [10, 56]))), (7, ([5], (59, [11, 56]))), (8, ([6, 7, 5], (60, [57, 58, 56]))), (9, ([8, 5], (61, [59, 56]))), (10, ([5], (62, [8, 56]))), (11, ([10, 5], (63, [61, 56]))), (12, ([5], (64, [11, 56]))), (13, ([11, 12, 5], (65, [62, 63, 56]))), (14, ([13, 5], (66, [64, 56]))), (15, ([9, 14, 5], (67, [60, 65, 56]))), (16, ([5, 15], (68, [56, 66])))]
set_option maxRecDepth 100000 in
set_option maxHeartbeats 8000000 in
theorem walk_TopBoundsHold {q : Qy} {l : List ROp} {A L : Option Addr} {c cl : Nat} (w : World) (hw : WidOk w) (h : Sl cdE.slice (fun _ => True) w A c q.fs) (hl : Sl ropE (fun _ => True) w L cl l) :
    Calls Tryz.prog 3 #[(.agg #[.int .i64 q.kind, .int .i64 q.col, .int .i64 q.k, .slice A q.fs.length c]), .slice L l.length cl] w fun e w' => e = .returned (.bool true) ∧ Below w.heap.size w w' := by
  have HW := Lib.hid hw
  have H := Lib.hid h
  have HL := Lib.hid hl
  have hm := h.max
  have hml := hl.max
  clear hw h hl
  go_enter Tryz.func3, Tryz.ntmps3
  go_upto_region 1 with fail
  refine wp_world (F := fun wx => Below w.heap.size w wx ∧ Hid (wx.heap[w.heap.size]? = some (.cells #[.int .i64 q.kind, .int .i64 q.col, .int .i64 q.k, .slice A q.fs.length c] 24 (0, 0)))) ⟨(by repeat' (first | with_reducible exact Below.refl _ _ | with_reducible assumption | with_reducible refine Below.setCell ?_ ?_ _ | with_reducible refine Below.drew ?_ | with_reducible refine below_drewN ?_ _ | with_reducible refine Below.alloc ?_ ?_ _ | (rintro _ ⟨⟩; simp <;> omega) | omega | (simp <;> omega))), Lib.hid (heap_alloc_at rfl)⟩ ?_
  rintro w1 ⟨bb, gq⟩
  have b1 := Lib.hid bb
  have W1 := mvW HW bb
  clear bb HW
  go_upto_region 2 with (go_at_call 5; refine (sanity15P _ W1.out).mono ?_; rintro e w2 ⟨rfl, hb2⟩; have b2 := Lib.hid (b1.out.trans (hb2.mono b1.out.size)); have gq2 := mvQ gq hb2; have W2 := mvW W1 hb2; clear hb2)
  obtain ⟨x0, x1, x2, x3⟩ := row4 gq2
  have H2 := Lib.hid (H.out.keep (Below.agree b2.out))
  have HL2 := Lib.hid (HL.out.keep (Below.agree b2.out))
  clear gq b1 H HL W1
  go_cut [6] (fun p wx => ∃ (g : Nat) (x : Qy) (B : Option Addr) (d : Nat), p = .pointer (some ⟨g, 0, none⟩) ∧ ValidQ x ∧ wideB x = false ∧ Hid (wx.heap[g]? = some (.cells #[.int .i64 x.kind, .int .i64 x.col, .int .i64 x.k, .slice B x.fs.length d] 24 (0, 0))) ∧ Sl cdE.slice (fun _ => True) wx B d x.fs ∧ Below w2.heap.size w2 wx)
  case first =>
    go_wp2_with (go_at_call 6; refine (made15P (q := q) _ H2.out).mono ?_; rintro e wC ⟨x, hv, hnw, B, d, rfl, hs, hbC⟩; have HC := Lib.hid hs; have bC := Lib.hid hbC; have HV := Lib.hid hv; have HN := Lib.hid hnw; clear hs hbC hv hnw)
    go_meet
    case rel => exact ⟨_, x, B, d, rfl, HV.out, HN.out, Lib.hid (heap_alloc_at rfl), (HC.out.sub (fun _ _ _ => trivial)).keep ((Agree.refl _ _).alloc _), bC.out.alloc bC.out.size _⟩
  obtain ⟨g, x, B, d, rfl, hv, hnw, gx, hs, hb⟩ := hcut
  obtain ⟨w3, hwv⟩ : ∃ x, x = wc := ⟨_, rfl⟩
  subst hwv
  have HV := Lib.hid hv
  have HNW := Lib.hid hnw
  have b3 := Lib.hid (b2.out.trans (hb.mono b2.out.size))
  have F3 := Lib.hid hs
  have W3 := mvW W2 hb
  have HL3 := Lib.hid (HL2.out.keep (Below.agree hb))
  clear hv hnw hs hb x0 x1 x2 x3 gq2 b2 H2 HL2 W2
  obtain ⟨s, hs⟩ : ∃ s, madeF 24 l = s := ⟨_, rfl⟩
  have hok := madeF_ok 24 l
  rw [hs] at hok
  have HMS := Lib.hid hs
  have HOK := Lib.hid hok.1
  have hl24 := hok.2
  have hl1000 : s.l.length ≤ 1000 := by omega
  clear hs hok
  go_upto_region 3 with fail
  go_cut [7] (fun p wx => ∃ g, p = .pointer (some ⟨g, 0, none⟩) ∧ StB wx g s s.l.length s.g.length ∧ Below w3.heap.size w3 wx)
  case first =>
    go_wp2_with (go_at_call 7; refine (madeR (most := 24) (l := l) _ HL3.out (by omega)).mono ?_; rw [HMS.out]; rintro e wC ⟨A', c', B', d', rfl, h1, h2, hbC⟩; have H1 := Lib.hid h1; have H2 := Lib.hid h2; have bC := Lib.hid hbC; clear h1 h2 hbC)
    go_meet
    case rel => exact ⟨_, rfl, ⟨A', c', B', d', heap_alloc_at rfl, (H1.out.alloc_ _).sub (fun _ _ _ => trivial), (H2.out.alloc_ _).sub (fun _ _ _ => trivial)⟩, bC.out.alloc bC.out.size _⟩
  obtain ⟨gs, rfl, hst, hb⟩ := hcut
  obtain ⟨w4, hwv⟩ : ∃ x, x = wc := ⟨_, rfl⟩
  subst hwv
  have S4 := Lib.hid hst
  have b4 := Lib.hid (b3.out.trans (hb.mono b3.out.size))
  have F4 := Lib.hid (F3.out.keep (Below.agree hb))
  have W4 := mvW W3 hb
  replace gx := mvQ gx hb
  clear hst hb b3 F3 HL3 W3
  obtain ⟨n, hn⟩ : ∃ n, s.l.length = n := ⟨_, rfl⟩
  obtain ⟨K, hK⟩ : ∃ K, (boundF x n).1.length = K := ⟨_, rfl⟩
  have HP := Lib.hid (show checkTF x n = ((boundF x n).1, 0) by rw [check_val HV.out HNW.out (by omega) (by omega), bound_24 HV.out (by omega) (by omega)]; rfl)
  have HKK := Lib.hid hK
  have HKS := Lib.hid (show (K : Int) = sumsC x.kind by rw [← hK]; exact bound_len HV.out.head.1.1 HV.out.head.1.2)
  have hK32 : K ≤ 32 := by have := sums_le HV.out.head.1.1 HV.out.head.1.2; have := HKS.out; omega
  have HNN := Lib.hid hn
  clear hK
  obtain ⟨x0, x1, x2, x3⟩ := row4 gx
  obtain ⟨L5, cl5, G5, cg5, hg, hsL, hsG⟩ := S4.out
  rw [hn] at hg
  obtain ⟨s0, s1⟩ := two2 (Lib.hid hg)
  clear hn hg hsL hsG
  go_upto_region 4 with fail
  go_cut [8, 9] (fun p e wx => ∃ g, p = .pointer (some ⟨g, 0, none⟩) ∧ e = .int .i64 0 ∧ Bnd wx g (boundF x n).1 K ∧ Below w4.heap.size w4 wx)
  case first =>
    go_wp2_with (go_at_call 8; refine (checkN (q := x) (f := x.fs.length) (n := K) rfl n HP.out HKK.out _ W4.out F4.out).mono ?_; rintro e wC ⟨B, d, rfl, h1, hbC⟩; have H1 := Lib.hid h1; have bC := Lib.hid hbC; clear h1 hbC)
    go_meet
    case rel => exact ⟨_, rfl, rfl, ⟨B, d, heap_alloc_at rfl, (H1.out.alloc_ _).sub (fun _ _ _ => trivial)⟩, bC.out.alloc bC.out.size _⟩
  obtain ⟨gb, rfl, rfl, hbx, hb⟩ := hcut
  obtain ⟨w5, hwv⟩ : ∃ x, x = wc := ⟨_, rfl⟩
  subst hwv
  have X5 := Lib.hid hbx
  have S5 := mvSt S4 hb
  have b5 := Lib.hid (b4.out.trans (hb.mono b4.out.size))
  have F5 := Lib.hid (F4.out.keep (Below.agree hb))
  replace gx := mvQ gx hb
  clear hbx hb b4 F4 W4 S4 s0 s1 x0 x1 x2 x3 HP
  obtain ⟨xs, hxs⟩ : ∃ xs, sumsF x (liveF s) = xs := ⟨_, rfl⟩
  have HXS := Lib.hid hxs
  have HXL := Lib.hid (show xs.length = K by rw [← hxs, sumsF_len]; have h1 := (nSums_le HV.out).2; have h2 := HKS.out; omega)
  clear hxs
  obtain ⟨x0, x1, x2, x3⟩ := row4 gx
  obtain ⟨L6, cl6, G6, cg6, hg, hsL, hsG⟩ := S5.out
  obtain ⟨s0, s1⟩ := two2 (Lib.hid hg)
  have HSL := Lib.hid hsL
  have HSG := Lib.hid hsG
  clear hg hsL hsG
  go_upto_region 5 with fail
  go_cut [10] (fun v wx => ∃ A c, v = .slice A K c ∧ Sl .i64 (fun _ => True) wx A c xs ∧ Below w5.heap.size w5 wx)
  case first =>
    go_wp2_with (go_at_call 9; refine (sumsN (q := x) (s := s) HXS.out rfl HXL.out rfl rfl _ HV.out HNW.out HOK.out hl1000 F5.out HSL.out HSG.out).mono ?_; rintro e wC ⟨A, c, rfl, h1, hbC⟩; have H1 := Lib.hid h1; have bC := Lib.hid hbC; clear h1 hbC)
    go_meet
    case rel => exact ⟨_, _, rfl, H1.out.sub (fun _ _ _ => trivial), bC.out⟩
  obtain ⟨A6, c6, rfl, hs6, hb⟩ := hcut
  obtain ⟨w6, hwv⟩ : ∃ x, x = wc := ⟨_, rfl⟩
  subst hwv
  have H6 := Lib.hid hs6
  have X6 := mvBnd X5 hb
  have b6 := Lib.hid (b5.out.trans (hb.mono b5.out.size))
  replace gx := mvQ gx hb
  clear hs6 hb b5 HSL HSG s0 s1 x0 x1 x2 x3 S5 F5 X5
  obtain ⟨x0, x1, x2, x3⟩ := row4 gx
  obtain ⟨B7, d7, g7, s7⟩ := X6.out
  have G7 := Lib.hid g7
  have S7 := Lib.hid s7
  obtain ⟨y0, -, ly⟩ := one G7
  have hne : ((K : Int) != sumsC x.kind) = false := by rw [HKS.out]; simp
  clear g7 s7
  go_upto_region 6 with fail
  go_cut [44] (fun v wx => v = .bool false ∧ Below w6.heap.size w6 wx)
  case first =>
    go_wp2_with (go_at_call 10; refine (sumsP (q := x) _).mono ?_; rintro e wA ⟨rfl, hA⟩; have HA := Lib.hid hA; clear hA)
    go_meet
    case rel => exact ⟨rfl, HA.out⟩
  obtain ⟨rfl, hb⟩ := hcut
  obtain ⟨w7, hwv⟩ : ∃ x, x = wc := ⟨_, rfl⟩
  subst hwv
  have HB7 := Lib.hid hb
  clear hb x0 x1 x2 x3 y0 ly
  go_upto_region 8 with fail
  go_wp2_with fail
  go_loopw [11] (fun i wr => ∃ v : Nat, v ≤ K ∧ i = .int .i64 v ∧ Hid (Below w7.heap.size w7 wr)) (fun i _ => K - (intOf i).toNat)
  case atStart => exact ⟨0, Nat.zero_le _, rfl, Lib.hid (Below.refl _ _)⟩
  case round =>
    obtain ⟨v, hv, rfl, hbr⟩ := hrel
    have HBR := Lib.hid (HB7.out.trans (hbr.out.mono HB7.out.size))
    have hv0 : (0 : Int) ≤ (v : Int) := by omega
    by_cases hlt : v < K
    · have hv1 : (v : Int) < (K : Int) := by omega
      have hvs : (v : Int) < sumsC x.kind := by rw [← HKS.out]; exact hv1
      have hvn : v < nSums x := by have h1 := (nSums_le HV.out).2; omega
      have hll : (liveF s).length ≤ n := by have := live_len s; have := HNN.out; omega
      obtain ⟨bv, hbv⟩ : ∃ bv, (n : Int) * capF x v = bv := ⟨_, rfl⟩
      obtain ⟨sv, hsv⟩ : ∃ sv, totalF x (liveF s) v = sv := ⟨_, rfl⟩
      obtain ⟨b8, o8, rfl, -, l8, v8⟩ := i64_at (S7.out.keep (Below.agree HBR.out)) (i := v) (r := bv) (by rw [bound_at HV.out.head.1.1 HV.out.head.1.2 hvs, hbv])
      obtain ⟨b9, o9, rfl, -, l9, v9⟩ := i64_at (H6.out.keep (Below.agree HBR.out)) (i := v) (r := sv) (by rw [← HXS.out, sumsF_get hvn, hsv])
      have htl := total_le HV.out (v := v) (by omega) (live_valid HOK.out)
      have ht0 := (totalF_bd (q := x) v (k6_of HV.out) (live_valid HOK.out)).1
      have hcap := (cap_nn HV.out (v := v) (by omega)).1
      have hjj : ((liveF s).length : Int) * capF x v ≤ (n : Int) * capF x v := Int.mul_le_mul_of_nonneg_right (by omega) hcap
      rw [hbv] at hjj
      rw [hsv] at htl ht0
      have n1 : ¬ sv < 0 := by omega
      have n2 : ¬ bv < sv := by omega
      have m8 : ∀ W, Below wr.heap.size wr W → W.cell? ⟨b8, o8 + v, none⟩ = some (.int .i64 bv) := fun W hW => (hW.cell (p := ⟨b8, _, none⟩) l8).trans v8
      have m9 : ∀ W, Below wr.heap.size wr W → W.cell? ⟨b9, o9 + v, none⟩ = some (.int .i64 sv) := fun W hW => (hW.cell (p := ⟨b9, _, none⟩) l9).trans v9
      have m7 : ∀ W, Below wr.heap.size wr W → _ ∧ _ ∧ _ := fun W hW => one (mvQ (mvQ G7 HBR.out) hW)
      clear htl ht0 hcap hjj hsv hbv hvs hvn hll
      go_upto_region 11 with fail
      refine wp_region_noPanic ?_
      refine wp_region_held_drew (S := fun X => Below wr.heap.size wr X) (by kernel_rfl) ?_ (fun hHeld => ?_)
      · (first | with_reducible assumption | (with_reducible refine Below.drew ?_; with_reducible assumption) | (with_reducible refine ba _ _ ?_; with_reducible assumption) | (with_reducible refine Below.drew ?_; with_reducible refine ba _ _ ?_; with_reducible assumption) | exact Below.refl _ _ | exact (Below.refl _ _).drew | exact (Below.refl _ _).alloc (Nat.le_refl _) _ | (refine bc _ _ (by assumption) (by assumption)))
      refine RegOk.begin_ (n := 17) (T := tp2A) ⟨by kernel_rfl, by kernel_rfl, by kernel_rfl, by kernel_rfl⟩ fun hR => ?_
      refine hR.take (i := 0) (oi := ?ow843_0) (v := ?vw843_0) (m' := 1) ?hw843_0 (by kernel_rfl) (by kernel_rfl) (fun _ _ _ h => h) (Or.inl ⟨?sw843_0, ?yw843_0⟩) (by assumption) ?nw843_0
      case hw843_0 => simp only [List.getElem?_toArray, List.getElem?_cons_succ, List.getElem?_cons_zero]; rfl
      case sw843_0 => rfl
      case yw843_0 => (intro w hSw; (try dsimp only at hSw); go_simp <;> with_reducible rfl)
      try simp only [Act.put, List.setIfInBounds_toArray, List.set_cons_zero, List.set_cons_succ]
      refine hR.take (i := 1) (oi := ?ow844_1) (v := ?vw844_1) (m' := 3) ?hw844_1 (by kernel_rfl) (by kernel_rfl) (fun _ _ _ h => h) (Or.inl ⟨?sw844_1, ?yw844_1⟩) (by assumption) ?nw844_1
      case hw844_1 => simp only [List.getElem?_toArray, List.getElem?_cons_succ, List.getElem?_cons_zero]; rfl
      case sw844_1 => rfl
      case yw844_1 => (intro w hSw; (try dsimp only at hSw); go_simp <;> with_reducible rfl)
      try simp only [Act.put, List.setIfInBounds_toArray, List.set_cons_zero, List.set_cons_succ]
      refine hR.take (i := 2) (oi := ?ow845_2) (v := ?vw845_2) (m' := 7) ?hw845_2 (by kernel_rfl) (by kernel_rfl) (fun _ _ _ h => h) (Or.inl ⟨?sw845_2, ?yw845_2⟩) (by assumption) ?nw845_2
      case hw845_2 => simp only [List.getElem?_toArray, List.getElem?_cons_succ, List.getElem?_cons_zero]; rfl
      case sw845_2 => rfl
      case yw845_2 => (intro w hSw; (try dsimp only at hSw); go_simp <;> with_reducible rfl)
      try simp only [Act.put, List.setIfInBounds_toArray, List.set_cons_zero, List.set_cons_succ]
      refine hR.take (i := 3) (oi := ?ow846_3) (v := ?vw846_3) (m' := 15) ?hw846_3 (by kernel_rfl) (by kernel_rfl) (fun _ _ _ h => h) (Or.inl ⟨?sw846_3, ?yw846_3⟩) (by assumption) ?nw846_3
      case hw846_3 => simp only [List.getElem?_toArray, List.getElem?_cons_succ, List.getElem?_cons_zero]; rfl
      case sw846_3 => rfl
      case yw846_3 => (intro w hSw; (try dsimp only at hSw); go_simp <;> with_reducible rfl)
      try simp only [Act.put, List.setIfInBounds_toArray, List.set_cons_zero, List.set_cons_succ]
      refine hR.take (i := 4) (oi := ?ow847_4) (v := ?vw847_4) (m' := 31) ?hw847_4 (by kernel_rfl) (by kernel_rfl) (fun _ _ _ h => h) (Or.inl ⟨?sw847_4, ?yw847_4⟩) (by assumption) ?nw847_4
      case hw847_4 => simp only [List.getElem?_toArray, List.getElem?_cons_succ, List.getElem?_cons_zero]; rfl
      case sw847_4 => rfl
      case yw847_4 => (intro w hSw; (try dsimp only at hSw); go_simp <;> with_reducible rfl)
      try simp only [Act.put, List.setIfInBounds_toArray, List.set_cons_zero, List.set_cons_succ]
      refine hR.take (i := 5) (oi := ?ow848_5) (v := ?vw848_5) (m' := 63) ?hw848_5 (by kernel_rfl) (by kernel_rfl) (fun _ _ _ h => h) (Or.inl ⟨?sw848_5, ?yw848_5⟩) (by assumption) ?nw848_5
      case hw848_5 => simp only [List.getElem?_toArray, List.getElem?_cons_succ, List.getElem?_cons_zero]; rfl
      case sw848_5 => rfl
      case yw848_5 => (intro w hSw; (try dsimp only at hSw); go_simp <;> with_reducible rfl)
      try simp only [Act.put, List.setIfInBounds_toArray, List.set_cons_zero, List.set_cons_succ]
      refine hR.take (i := 6) (oi := ?ow849_6) (v := ?vw849_6) (m' := 127) ?hw849_6 (by kernel_rfl) (by kernel_rfl) (fun _ _ _ h => h) (Or.inl ⟨?sw849_6, ?yw849_6⟩) (by assumption) ?nw849_6
      case hw849_6 => simp only [List.getElem?_toArray, List.getElem?_cons_succ, List.getElem?_cons_zero]; rfl
      case sw849_6 => rfl
      case yw849_6 => (intro w hSw; (try dsimp only at hSw); go_simp <;> with_reducible rfl)
      try simp only [Act.put, List.setIfInBounds_toArray, List.set_cons_zero, List.set_cons_succ]
      refine hR.take (i := 7) (oi := ?ow850_7) (v := ?vw850_7) (m' := 255) ?hw850_7 (by kernel_rfl) (by kernel_rfl) (fun _ _ _ h => h) (Or.inl ⟨?sw850_7, ?yw850_7⟩) (by assumption) ?nw850_7
      case hw850_7 => simp only [List.getElem?_toArray, List.getElem?_cons_succ, List.getElem?_cons_zero]; rfl
      case sw850_7 => rfl
      case yw850_7 => (intro w hSw; (try dsimp only at hSw); go_simp <;> with_reducible rfl)
      try simp only [Act.put, List.setIfInBounds_toArray, List.set_cons_zero, List.set_cons_succ]
      refine hR.take (i := 8) (oi := ?ow851_8) (v := ?vw851_8) (m' := 511) ?hw851_8 (by kernel_rfl) (by kernel_rfl) (fun _ _ _ h => h) (Or.inl ⟨?sw851_8, ?yw851_8⟩) (by assumption) ?nw851_8
      case hw851_8 => simp only [List.getElem?_toArray, List.getElem?_cons_succ, List.getElem?_cons_zero]; rfl
      case sw851_8 => rfl
      case yw851_8 => (intro w hSw; (try dsimp only at hSw); go_simp <;> with_reducible rfl)
      try simp only [Act.put, List.setIfInBounds_toArray, List.set_cons_zero, List.set_cons_succ]
      refine hR.take (i := 9) (oi := ?ow852_9) (v := ?vw852_9) (m' := 1023) ?hw852_9 (by kernel_rfl) (by kernel_rfl) (fun _ _ _ h => h) (Or.inl ⟨?sw852_9, ?yw852_9⟩) (by assumption) ?nw852_9
      case hw852_9 => simp only [List.getElem?_toArray, List.getElem?_cons_succ, List.getElem?_cons_zero]; rfl
      case sw852_9 => rfl
      case yw852_9 => (intro w hSw; (try dsimp only at hSw); go_simp <;> with_reducible rfl)
      try simp only [Act.put, List.setIfInBounds_toArray, List.set_cons_zero, List.set_cons_succ]
      refine hR.take (i := 10) (oi := ?ow853_10) (v := ?vw853_10) (m' := 2047) ?hw853_10 (by kernel_rfl) (by kernel_rfl) (fun _ _ _ h => h) (Or.inl ⟨?sw853_10, ?yw853_10⟩) (by assumption) ?nw853_10
      case hw853_10 => simp only [List.getElem?_toArray, List.getElem?_cons_succ, List.getElem?_cons_zero]; rfl
      case sw853_10 => rfl
      case yw853_10 => (intro w hSw; (try dsimp only at hSw); go_simp <;> with_reducible rfl)
      try simp only [Act.put, List.setIfInBounds_toArray, List.set_cons_zero, List.set_cons_succ]
      refine hR.take (i := 11) (oi := ?ow854_11) (v := ?vw854_11) (m' := 4095) ?hw854_11 (by kernel_rfl) (by kernel_rfl) (fun _ _ _ h => h) (Or.inl ⟨?sw854_11, ?yw854_11⟩) (by assumption) ?nw854_11
      case hw854_11 => simp only [List.getElem?_toArray, List.getElem?_cons_succ, List.getElem?_cons_zero]; rfl
      case sw854_11 => rfl
      case yw854_11 => (intro w hSw; (try dsimp only at hSw); go_simp <;> with_reducible rfl)
      try simp only [Act.put, List.setIfInBounds_toArray, List.set_cons_zero, List.set_cons_succ]
      refine hR.take (i := 12) (oi := ?ow855_12) (v := ?vw855_12) (m' := 8191) ?hw855_12 (by kernel_rfl) (by kernel_rfl) (fun _ _ _ h => h) (Or.inl ⟨?sw855_12, ?yw855_12⟩) (by assumption) ?nw855_12
      case hw855_12 => simp only [List.getElem?_toArray, List.getElem?_cons_succ, List.getElem?_cons_zero]; rfl
      case sw855_12 => rfl
      case yw855_12 => (intro w hSw; (try dsimp only at hSw); go_simp <;> with_reducible rfl)
      try simp only [Act.put, List.setIfInBounds_toArray, List.set_cons_zero, List.set_cons_succ]
      refine hR.take (i := 13) (oi := ?ow856_13) (v := ?vw856_13) (m' := 16383) ?hw856_13 (by kernel_rfl) (by kernel_rfl) (fun _ _ _ h => h) (Or.inl ⟨?sw856_13, ?yw856_13⟩) (by assumption) ?nw856_13
      case hw856_13 => simp only [List.getElem?_toArray, List.getElem?_cons_succ, List.getElem?_cons_zero]; rfl
      case sw856_13 => rfl
      case yw856_13 => (intro w hSw; (try dsimp only at hSw); go_simp <;> with_reducible rfl)
      try simp only [Act.put, List.setIfInBounds_toArray, List.set_cons_zero, List.set_cons_succ]
      refine hR.take (i := 14) (oi := ?ow857_14) (v := ?vw857_14) (m' := 32767) ?hw857_14 (by kernel_rfl) (by kernel_rfl) (fun _ _ _ h => h) (Or.inl ⟨?sw857_14, ?yw857_14⟩) (by assumption) ?nw857_14
      case hw857_14 => simp only [List.getElem?_toArray, List.getElem?_cons_succ, List.getElem?_cons_zero]; rfl
      case sw857_14 => rfl
      case yw857_14 => (intro w hSw; (try dsimp only at hSw); go_simp <;> with_reducible rfl)
      try simp only [Act.put, List.setIfInBounds_toArray, List.set_cons_zero, List.set_cons_succ]
      refine hR.take (i := 15) (oi := ?ow858_15) (v := ?vw858_15) (m' := 65535) ?hw858_15 (by kernel_rfl) (by kernel_rfl) (fun _ _ _ h => h) (Or.inl ⟨?sw858_15, ?yw858_15⟩) (by assumption) ?nw858_15
      case hw858_15 => simp only [List.getElem?_toArray, List.getElem?_cons_succ, List.getElem?_cons_zero]; rfl
      case sw858_15 => rfl
      case yw858_15 => (intro w hSw; (try dsimp only at hSw); go_simp <;> with_reducible rfl)
      try simp only [Act.put, List.setIfInBounds_toArray, List.set_cons_zero, List.set_cons_succ]
      refine hR.take (i := 16) (oi := ?ow859_16) (v := ?vw859_16) (m' := 131071) ?hw859_16 (by kernel_rfl) (by kernel_rfl) (fun _ _ _ h => h) (Or.inl ⟨?sw859_16, ?yw859_16⟩) (by assumption) ?nw859_16
      case hw859_16 => simp only [List.getElem?_toArray, List.getElem?_cons_succ, List.getElem?_cons_zero]; rfl
      case sw859_16 => rfl
      case yw859_16 => (intro w hSw; (try dsimp only at hSw); go_simp <;> with_reducible rfl)
      try simp only [Act.put, List.setIfInBounds_toArray, List.set_cons_zero, List.set_cons_succ]
      refine hR.all (by kernel_rfl) ?_ _
      refine NoPanic.normal ?_
      go_wp2_with fail
      go_roundw
      case rel => exact ⟨v + 1, by omega, by go_num, Lib.hid hbr.out.drew⟩
      case measure => simp [intOf]; omega
    · have hv1 : ¬ (v : Int) < (K : Int) := by omega
      go_wp2_with fail
      go_ret
      exact ⟨rfl, b6.out.trans (HBR.out.mono b6.out.size)⟩
end Go.Proofs.YtagadbdbbglddaaGreatDoor
