/-
  Texts of this claim, merged: Q19, Q20, QP, Q21, QP2. Conditions: as each theorem says.
-/
import Derived.Test.YtagadbdbbglddaaGreatDoorU1
import Derived.Test.YtagadbdbbglddaaGreatDoorU2
import Derived.Test.YtagadbdbbglddaaGreatDoorU3
import Derived.Test.YtagadbdbbglddaaGreatDoorU4
import Derived.Test.YtagadbdbbglddaaGreatDoorU5
import Derived.Test.YtagadbdbbglddaaGreatDoorU6
import Derived.Test.YtagadbdbbglddaaGreatDoorU7
import Derived.Test.YtagadbdbbglddaaGreatDoorU8
import Derived.Test.YtagadbdbbglddaaGreatDoorU9
import Derived.Test.YtagadbdbbglddaaGreatDoorU10
import Derived.Test.YtagadbdbbglddaaGreatDoorU11
import Derived.Test.YtagadbdbbglddaaGreatDoorU12
set_option linter.unusedSimpArgs false
set_option linter.unusedVariables false
namespace Go.Proofs.YtagadbdbbglddaaGreatDoor
open Go.RowKit

/-- 'x & m' lies between 0 and m. -/
theorem and_bd (x : Int) (m : Nat) (hm : m ≤ 65535) : ∃ r : Nat, bits BinOp.and IntKind.i64 x (m : Int) = (r : Int) ∧ r ≤ m := by
  have h2 : (BitVec.ofInt 64 (m : Int)).toNat = m := by
    rw [BitVec.ofInt_natCast, BitVec.toNat_ofNat]; exact Nat.mod_eq_of_lt (by omega)
  obtain ⟨r, hr⟩ : ∃ r, (BitVec.ofInt 64 x &&& BitVec.ofInt 64 (m : Int)).toNat = r := ⟨_, rfl⟩
  have hle : r ≤ m := by rw [← hr, BitVec.toNat_and, h2]; exact Nat.and_le_right
  refine ⟨r, ?_, hle⟩
  show IntKind.i64.wrap ((BitVec.ofInt 64 x &&& BitVec.ofInt 64 (m : Int)).toNat : Int) = _
  rw [hr]
  exact IntWalk.i64_in (r : Int) (by omega)
theorem tmod_bd (a m : Nat) (hm : 0 < m) : ∃ r : Nat, (a : Int).tmod (m : Int) = (r : Int) ∧ r < m := ⟨a % m, rfl, Nat.mod_lt _ hm⟩
set_option maxHeartbeats 2000000 in
theorem same15 {xs ys : List Int} {A B : Option Addr} {c d : Nat} {S T : Nat → Prop} (w : World) (h : Sl .i64 S w A c xs) (k : Sl .i64 T w B d ys) :
    Calls Tryz.prog 36 #[.slice A xs.length c, .slice B ys.length d] w fun e w' => e = .returned (.bool (decide (xs = ys))) ∧ Below w.heap.size w w' := by
  have hmx := h.max
  have hmy := k.max
  have H := Lib.hid h
  have K := Lib.hid k
  clear h k
  by_cases hl : xs.length = ys.length
  · have hlx : ((xs.length : Int) != (ys.length : Int)) = false := by rw [hl]; simp
    have hl0 := Lib.hid hl
    clear hl
    go_enter Tryz.func36, Tryz.ntmps36
    go_wp2_with fail
    go_loopw [5] (fun i wr => ∃ j : Nat, j ≤ xs.length ∧ i = .int .i64 j ∧ Hid (xs.take j = ys.take j) ∧ Below w.heap.size w wr) (fun i _ => xs.length - (intOf i).toNat)
    case atStart => exact ⟨0, Nat.zero_le _, rfl, Lib.hid rfl, Below.refl _ _⟩
    case round =>
      obtain ⟨j, hj, rfl, ht, hb⟩ := hrel
      have B1 := Lib.hid hb
      clear hb
      have hj0 : (0 : Int) ≤ (j : Int) := by omega
      by_cases hlt : j < xs.length
      · obtain ⟨x, hx⟩ : ∃ x, xs[j]? = some x := ⟨_, List.getElem?_eq_getElem hlt⟩
        obtain ⟨y, hy⟩ : ∃ y, ys[j]? = some y := ⟨_, List.getElem?_eq_getElem (by have := hl0.out; omega)⟩
        obtain ⟨b2, o2, rfl, -, hb2, x0⟩ := i64_at (H.out.keep (Below.agree B1.out)) hx
        obtain ⟨b3, o3, rfl, -, hb3, y0⟩ := i64_at (K.out.keep (Below.agree B1.out)) hy
        have hj1 : (j : Int) < (xs.length : Int) := by omega
        have hj2 : (j : Int) < (ys.length : Int) := by have := hl0.out; omega
        have Hx := Lib.hid hx
        have Hy := Lib.hid hy
        clear hx hy
        by_cases hxy : x = y
        · have hn : (x != y) = false := by simp [hxy]
          have Hxy := Lib.hid hxy
          clear hxy
          go_wp2_with fail
          go_quiet (fail)
          go_wp2_with fail
          go_roundw
          case rel => exact ⟨j + 1, by omega, by go_num, Lib.hid (by rw [take_snocR Hx.out, take_snocR Hy.out, ht.out, Hxy.out]), below_drewN B1.out _⟩
          case measure => simp [intOf]; omega
        · have hn : (x != y) = true := by simp [hxy]
          have hf := Lib.hid (show decide (xs = ys) = false from decide_eq_false fun e => hxy (by have h1 := Hx.out; rw [e, Hy.out] at h1; injection h1 with h1; exact h1.symm))
          clear hxy
          go_wp2_with fail
          go_quiet (fail)
          go_wp2_with fail
          go_ret
          exact ⟨ret_b hf.out.symm, below_drewN B1.out _⟩
      · have hj1 : ¬ (j : Int) < (xs.length : Int) := by omega
        have he := Lib.hid (show decide (xs = ys) = true from decide_eq_true (by have h1 := ht.out; rw [List.take_of_length_le (by omega), List.take_of_length_le (by have := hl0.out; omega)] at h1; exact h1))
        go_wp2_with fail
        go_ret
        exact ⟨ret_b he.out.symm, B1.out⟩
  · have hlx : ((xs.length : Int) != (ys.length : Int)) = true := by simp; omega
    have hf : decide (xs = ys) = false := decide_eq_false fun e => hl (by rw [e])
    rw [hf]
    clear hl hf
    go_enter Tryz.func36, Tryz.ntmps36
    go_wp2_with fail
    go_ret
    exact ⟨rfl, Below.refl _ _⟩
set_option maxHeartbeats 2000000 in
theorem madeCdP (c : Cd) (w : World) : Calls Tryz.prog 39 #[(.agg #[.int .i64 c.col, .int .i64 c.lo, .int .i64 c.hi])] w fun e w' => ∃ x : Cd, ValidCd x ∧ e = .returned (.agg #[.int .i64 x.col, .int .i64 x.lo, .int .i64 x.hi]) ∧ Below w.heap.size w w' := by
  obtain ⟨k, hk, hk3⟩ : ∃ r : Nat, bits BinOp.and IntKind.i64 c.col 3 = (r : Int) ∧ r ≤ 3 := and_bd c.col 3 (by omega)
  obtain ⟨a, ha, ha3⟩ : ∃ r : Nat, bits BinOp.and IntKind.i64 c.lo 65535 = (r : Int) ∧ r ≤ 65535 := and_bd c.lo 65535 (by omega)
  obtain ⟨b, hb, hb3⟩ : ∃ r : Nat, bits BinOp.and IntKind.i64 c.hi 65535 = (r : Int) ∧ r ≤ 65535 := and_bd c.hi 65535 (by omega)
  have hM0 := maxC_pos (k : Int)
  obtain ⟨M, hM⟩ : ∃ M : Nat, maxC (k : Int) = M := ⟨(maxC (k : Int)).toNat, by omega⟩
  rw [hM] at hM0
  obtain ⟨r, hr, hrM⟩ := tmod_bd a (M + 1) (by omega)
  obtain ⟨s, hs, hsM⟩ := tmod_bd b (M + 1) (by omega)
  have hr' : (a : Int).tmod ((M : Int) + 1) = (r : Int) := hr
  have hs' : (b : Int).tmod ((M : Int) + 1) = (s : Int) := hs
  have hMM := Lib.hid hM
  clear hM hr hs
  rcases (by omega : s < r ∨ r < s ∨ r = s) with h | h | h
  · have g1 : (s : Int) < (r : Int) := by omega
    have g2 : ¬ (r : Int) < (s : Int) := by omega
    (try subst h)
    go_enter Tryz.func39, Tryz.ntmps39
    go_wp2_with (go_at_call 80; refine (maxRef _ _).mono ?_; rw [hMM.out]; rintro e w2 ⟨rfl, rfl⟩)
    go_quiet (fail)
    go_wp2_with fail
    exact bodyPost_ret (v := .agg #[.int .i64 k, .int .i64 s, .int .i64 r]) (by simp [results, Tryz.results39, go_sem, *]) rfl ⟨⟨k, s, r⟩, ⟨⟨by dsimp only; omega, by dsimp only; omega⟩, by dsimp only; omega, by dsimp only; omega, by dsimp only; rw [hMM.out]; omega⟩, rfl, (by repeat' (first | with_reducible exact Below.refl _ _ | with_reducible assumption | with_reducible refine Below.setCell ?_ ?_ _ | with_reducible refine Below.drew ?_ | with_reducible refine below_drewN ?_ _ | with_reducible refine Below.alloc ?_ ?_ _ | (rintro _ ⟨⟩; simp <;> omega) | omega | (simp <;> omega)))⟩
  · have g1 : (r : Int) < (s : Int) := by omega
    have g2 : ¬ (s : Int) < (r : Int) := by omega
    (try subst h)
    go_enter Tryz.func39, Tryz.ntmps39
    go_wp2_with (go_at_call 80; refine (maxRef _ _).mono ?_; rw [hMM.out]; rintro e w2 ⟨rfl, rfl⟩)
    go_quiet (fail)
    go_wp2_with fail
    exact bodyPost_ret (v := .agg #[.int .i64 k, .int .i64 r, .int .i64 s]) (by simp [results, Tryz.results39, go_sem, *]) rfl ⟨⟨k, r, s⟩, ⟨⟨by dsimp only; omega, by dsimp only; omega⟩, by dsimp only; omega, by dsimp only; omega, by dsimp only; rw [hMM.out]; omega⟩, rfl, (by repeat' (first | with_reducible exact Below.refl _ _ | with_reducible assumption | with_reducible refine Below.setCell ?_ ?_ _ | with_reducible refine Below.drew ?_ | with_reducible refine below_drewN ?_ _ | with_reducible refine Below.alloc ?_ ?_ _ | (rintro _ ⟨⟩; simp <;> omega) | omega | (simp <;> omega)))⟩
  · have g1 : ¬ (r : Int) < (r : Int) := by omega
    have g2 : ¬ (r : Int) < (r : Int) := by omega
    (try subst h)
    go_enter Tryz.func39, Tryz.ntmps39
    go_wp2_with (go_at_call 80; refine (maxRef _ _).mono ?_; rw [hMM.out]; rintro e w2 ⟨rfl, rfl⟩)
    go_quiet (fail)
    go_wp2_with fail
    exact bodyPost_ret (v := .agg #[.int .i64 k, .int .i64 r, .int .i64 r]) (by simp [results, Tryz.results39, go_sem, *]) rfl ⟨⟨k, r, r⟩, ⟨⟨by dsimp only; omega, by dsimp only; omega⟩, by dsimp only; omega, by dsimp only; omega, by dsimp only; rw [hMM.out]; omega⟩, rfl, (by repeat' (first | with_reducible exact Below.refl _ _ | with_reducible assumption | with_reducible refine Below.setCell ?_ ?_ _ | with_reducible refine Below.drew ?_ | with_reducible refine below_drewN ?_ _ | with_reducible refine Below.alloc ?_ ?_ _ | (rintro _ ⟨⟩; simp <;> omega) | omega | (simp <;> omega)))⟩
end Go.Proofs.YtagadbdbbglddaaGreatDoor
namespace Go.Proofs.YtagadbdbbglddaaGreatDoor
open Go.RowKit

/-- A query that the call made. -/
def QyRes (P : Qy → Prop) (w : World) (e : Ending) (w' : World) : Prop :=
  ∃ x : Qy, ValidQ x ∧ P x ∧ ∃ B d, e = .returned (.agg #[.int .i64 x.kind, .int .i64 x.col, .int .i64 x.k, .slice B x.fs.length d]) ∧ Sl cdE.slice (fun b => w.heap.size ≤ b) w' B d x.fs ∧ Below w.heap.size w w'
def OwnS (N : Nat) (v : Value) (b : Nat) : Prop := N ≤ b ∧ ∀ k, v.ownBlock = some k → b ≠ k
/-- The same, its filters in a row of the call's own. -/
def QyOwn (P : Qy → Prop) (w : World) (e : Ending) (w' : World) : Prop :=
  ∃ x : Qy, ValidQ x ∧ P x ∧ ∃ B d, e = .returned (.agg #[.int .i64 x.kind, .int .i64 x.col, .int .i64 x.k, .slice B x.fs.length d]) ∧ Own cdE.slice (OwnS w.heap.size (.slice B x.fs.length d)) w' w.heap.size 55 (.slice B x.fs.length d) x.fs ∧ Below w.heap.size w w'
theorem QyOwn.res {P : Qy → Prop} {w : World} {e : Ending} {w' : World} (h : QyOwn P w e w') : QyRes P w e w' := by
  obtain ⟨x, hv, hp, B, d, he, ho, hb⟩ := h
  exact ⟨x, hv, hp, B, d, he, ho.toSl (fun b h _ => h.1) (fun b h _ _ => h), hb⟩
/-- The three boxes of Made. -/
structure MB (w0 : World) (q : Qy) (A : Option Addr) (c : Nat) (u v x y : Value) (wx : World) : Prop where
  bel : Below w0.heap.size w0 wx
  qc : wx.heap[w0.heap.size]? = some (.cells #[.int .i64 q.kind, .int .i64 q.col, .int .i64 q.k, .slice A q.fs.length c] 24 (0, 0))
  rc : wx.heap[w0.heap.size + 1]? = some (.cells #[.int .i64 0, .int .i64 0, .int .i64 0, .slice none 0 0] 24 (0, 0))
  ob : wx.heap[w0.heap.size + 1 + 1]? = some (.cells #[u, v, x, y] 24 (0, 0))
section
variable {w0 wx w' : World} {q : Qy} {A : Option Addr} {c : Nat} {u v x y z : Value}
theorem MB.lt (h : MB w0 q A c u v x y wx) : w0.heap.size + 3 ≤ wx.heap.size := heap_lt h.ob
theorem MB.keep (h : MB w0 q A c u v x y wx) (hs : wx.heap.size ≤ w'.heap.size) (hb : Below w0.heap.size w0 w') (hk : ∀ b, b < w0.heap.size + 3 → w'.heap[b]? = wx.heap[b]?) : MB w0 q A c u v x y w' :=
  ⟨hb, (hk _ (by omega)).trans h.qc, (hk _ (by omega)).trans h.rc, (hk _ (by omega)).trans h.ob⟩
theorem MB.call (h : MB w0 q A c u v x y wx) (hb : Below wx.heap.size wx w') : MB w0 q A c u v x y w' :=
  h.keep hb.size (h.bel.trans (hb.mono h.bel.size)) fun b hlt => hb.block b (Nat.lt_of_lt_of_le hlt h.lt)
theorem MB.grown (h : MB w0 q A c u v x y wx) {row : Option Nat} (hg : wx.grownBy w' row) (hr : ∀ k, row = some k → w0.heap.size + 3 ≤ k) : MB w0 q A c u v x y w' :=
  h.keep hg.size (h.bel.grown hg h.bel.size fun k hk => by have := hr k hk; omega) fun b hlt => hg.block b (Nat.lt_of_lt_of_le hlt h.lt) fun e => by have := hr b e.symm; omega
theorem MB.set1 (h : MB w0 q A c u v x y wx) : MB w0 q A c u z x y (wx.setCell ⟨w0.heap.size + 1 + 1, 1, none⟩ z) :=
  ⟨h.bel.setCell (by simp; omega) _, (Below.heap_setCell _ _ _ _ (by simp; omega)).trans h.qc, (Below.heap_setCell _ _ _ _ (by simp)).trans h.rc, heap_set (i := 1) h.ob⟩
theorem MB.set2 (h : MB w0 q A c u v x y wx) : MB w0 q A c u v z y (wx.setCell ⟨w0.heap.size + 1 + 1, 2, none⟩ z) :=
  ⟨h.bel.setCell (by simp; omega) _, (Below.heap_setCell _ _ _ _ (by simp; omega)).trans h.qc, (Below.heap_setCell _ _ _ _ (by simp)).trans h.rc, heap_set (i := 2) h.ob⟩
theorem MB.set3 (h : MB w0 q A c u v x y wx) : MB w0 q A c u v x z (wx.setCell ⟨w0.heap.size + 1 + 1, 3, none⟩ z) :=
  ⟨h.bel.setCell (by simp; omega) _, (Below.heap_setCell _ _ _ _ (by simp; omega)).trans h.qc, (Below.heap_setCell _ _ _ _ (by simp)).trans h.rc, heap_set (i := 3) h.ob⟩
theorem MB.drew (h : MB w0 q A c u v x y wx) : MB w0 q A c u v x y wx.drew := ⟨h.bel.drew, h.qc, h.rc, h.ob⟩
theorem MB.drewN (h : MB w0 q A c u v x y wx) (n : Nat) : MB w0 q A c u v x y (wx.drewN n) := ⟨below_drewN h.bel n, h.qc, h.rc, h.ob⟩
theorem frz {W : World} {g : Nat} {cs : Array Value} {t : TypeId} (h : W.heap[g]? = some (.cells cs t (0, 0))) (o : Nat) : W.frozen? ⟨g, o, none⟩ = false := by simp [World.frozen?, h]
end
theorem cdsT : SlT Tryz.prog 55 90 cdE 24 := ⟨Tryz.underlying55, by kernel_rfl, by decide⟩
theorem cfsT : SlT Tryz.prog 22 55 cdE.slice 24 := ⟨Tryz.underlying22, by kernel_rfl, by decide⟩
def FtS (B : Nat) (v : Value) (b : Nat) : Prop := B ≤ b ∧ ∀ k, v.ownBlock = some k → b ≠ k
/-- What the loop over the filters keeps. -/
structure MIn (w : World) (q : Qy) (A : Option Addr) (c : Nat) (u v x : Value) (fs : List (List Cd)) (s : Value) (wr : World) : Prop where
  ok : ∀ l ∈ fs, ValidFlt l
  mb : MB w q A c u v x s wr
  own : Own cdE.slice (FtS (w.heap.size + 3) s) wr (w.heap.size + 3) 55 s fs
theorem MIn.app {w wr wx w6 : World} {q : Qy} {A : Option Addr} {c : Nat} {u v x : Value} {fs : List (List Cd)} {ys : List Cd} {s s' : Value} {o : Obj} (h : MIn w q A c u v x fs s wr) (hy : ValidFlt ys) (hb : Below wr.heap.size wr wx)
    (ho : Own cdE.slice (fun b => FtS (w.heap.size + 3) s b ∧ b ≤ wx.heap.size) w6 (w.heap.size + 3) 55 s' (fs ++ [ys])) (hg : (wx.alloc o).grownBy w6 s.ownBlock) (hor : ∀ g, s'.ownBlock = some g → s.ownBlock = some g ∨ (wx.alloc o).heap.size = g) :
    MIn w q A c u v x (fs ++ [ys]) s' (w6.setCell ⟨w.heap.size + 1 + 1, 3, none⟩ s') := by
  have hz := hg.size
  have hlo := h.own.lt
  have hl := h.mb.lt
  have hbz := hb.size
  simp at hz
  have hm : MB w q A c u v x s w6 := (h.mb.call (hb.alloc hb.size _)).grown hg fun k hk => (hlo k hk).1
  refine ⟨fun l hl => ?_, hm.set3, (ho.sub fun b hb1 _ => ?_).set ?_ ?_ _⟩
  · rcases List.mem_append.1 hl with h1 | h1
    · exact h.ok l h1
    · simp at h1; subst h1; exact hy
  · obtain ⟨⟨h1, h2⟩, h3⟩ := hb1
    refine ⟨h1, fun k hk => ?_⟩
    rcases hor k hk with h6 | h6
    · exact h2 k h6
    · simp at h6; omega
  · intro e
    rcases hor _ e with h6 | h6
    · have := (hlo _ h6).1; simp at this; omega
    · simp at h6; omega
  · intro hS
    have := hS.1
    simp at this; omega
set_option maxRecDepth 100000 in
set_option maxHeartbeats 8000000 in
theorem made13O {q : Qy} {A : Option Addr} {c : Nat} {S : Nat → Prop} (w : World) (h : Sl cdE.slice S w A c q.fs) : Calls Tryz.prog 17 #[(.agg #[.int .i64 q.kind, .int .i64 q.col, .int .i64 q.k, .slice A q.fs.length c])] w (QyOwn (fun _ => True) w) := by
  obtain ⟨a, ha, ha3⟩ : ∃ r : Nat, bits BinOp.and IntKind.i64 q.kind 255 = (r : Int) ∧ r ≤ 255 := and_bd q.kind 255 (by omega)
  obtain ⟨ca, hca, hca3⟩ : ∃ r : Nat, bits BinOp.and IntKind.i64 q.col 3 = (r : Int) ∧ r ≤ 3 := and_bd q.col 3 (by omega)
  obtain ⟨ka, hka, hka3⟩ : ∃ r : Nat, bits BinOp.and IntKind.i64 q.k 65535 = (r : Int) ∧ r ≤ 65535 := and_bd q.k 65535 (by omega)
  obtain ⟨r7, hr7, hr7l⟩ : ∃ r : Nat, (a : Int).tmod 7 = (r : Int) ∧ r < 7 := tmod_bd a 7 (by omega)
  have hm := h.max
  have H := Lib.hid h
  clear h
  obtain ⟨kd, hkd⟩ : ∃ kd : Int, 1 + (r7 : Int) = kd := ⟨_, rfl⟩
  have hkd1 : 1 ≤ kd := by omega
  have hkd7 : kd ≤ 7 := by omega
  go_enter Tryz.func17, Tryz.ntmps17
  go_upto_region 2 with fail
  refine wp_world (F := fun wx => MB w q A c (.int .i64 kd) (.int .i64 0) (.int .i64 0) (.slice none 0 0) wx) ⟨(by repeat' (first | with_reducible exact Below.refl _ _ | with_reducible assumption | with_reducible refine Below.setCell ?_ ?_ _ | with_reducible refine Below.drew ?_ | with_reducible refine below_drewN ?_ _ | with_reducible refine Below.alloc ?_ ?_ _ | (rintro _ ⟨⟩; simp <;> omega) | omega | (simp <;> omega))), (Below.heap_alloc _ _ _ (by simp; omega)).trans ((Below.heap_alloc _ _ _ (by simp)).trans (heap_alloc_at rfl)), (Below.heap_alloc _ _ _ (by simp)).trans (heap_alloc_at (by simp)), heap_alloc_at (by simp)⟩ ?_
  intro w1 hM
  clear hr7 hr7l ha ha3 hkd
  have HM := Lib.hid hM
  clear hM
  have hmk : maxKF kd = 0 ∨ maxKF kd = 6 ∨ maxKF kd = 65536 := by unfold maxKF; split; exact .inr (.inl rfl); split; exact .inr (.inr rfl); exact .inl rfl
  (obtain ⟨x0, x1, x2, x3⟩ := row4 (Lib.hid HM.out.qc); obtain ⟨o0, o1, o2, o3⟩ := row4 (Lib.hid HM.out.ob); have fo := frz HM.out.ob; have fr := frz HM.out.rc; have lm := HM.out.lt)
  go_upto_if 16 with (go_at_call 37; refine (hasColRef _ _).mono ?_; rintro e w2 ⟨rfl, rfl⟩)
  go_cut [4] (fun _ wx => ∃ cc : Nat, cc ≤ 3 ∧ (hasColB kd = false → cc = 0) ∧ MB w q A c (.int .i64 kd) (.int .i64 cc) (.int .i64 0) (.slice none 0 0) wx)
  case first =>
    cases hc : hasColB kd with
    | true =>
      go_wp2_with fail
      go_meet
      case rel => exact ⟨ca, hca3, fun h => (by rw [hc] at h; cases h), HM.out.set1⟩
    | false =>
      go_wp2_with fail
      go_meet
      case rel => exact ⟨0, by omega, fun _ => rfl, HM.out⟩
  case rest =>
    obtain ⟨cc, hcc3, hcc, hM⟩ := hcut
    clear x0 x1 x2 x3 o0 o1 o2 o3 fo fr lm HM hca hca3
    have HM := Lib.hid hM
    have Hcc := Lib.hid hcc
    clear hM hcc
    (obtain ⟨x0, x1, x2, x3⟩ := row4 (Lib.hid HM.out.qc); obtain ⟨o0, o1, o2, o3⟩ := row4 (Lib.hid HM.out.ob); have fo := frz HM.out.ob; have fr := frz HM.out.rc; have lm := HM.out.lt)
    go_upto_if 24 with (go_at_call 38; refine (maxKRef _ _).mono ?_; rintro e w2 ⟨rfl, rfl⟩)
    go_cut [4] (fun _ wx => ∃ kk : Nat, (0 < maxKF kd → 1 ≤ kk) ∧ (kk : Int) ≤ maxKF kd ∧ MB w q A c (.int .i64 kd) (.int .i64 cc) (.int .i64 kk) (.slice none 0 0) wx)
    case first =>
      rcases hmk with hmk | hmk | hmk
      · go_wp2_with fail
        go_meet
        case rel => exact ⟨0, fun h => by omega, by omega, HM.out⟩
      · obtain ⟨r6, hr6, hr6l⟩ : ∃ r : Nat, (ka : Int).tmod 6 = (r : Int) ∧ r < 6 := tmod_bd ka 6 (by omega)
        obtain ⟨kk, hkk⟩ : ∃ kk : Nat, 1 + (r6 : Int) = kk := ⟨1 + r6, by omega⟩
        have hkk1 : 1 ≤ kk ∧ kk ≤ 6 := by omega
        have hwk : IntKind.i64.wrap (kk : Int) = kk := IntWalk.i64_in _ (by omega)
        have Hmk := Lib.hid hmk
        go_wp2_with fail
        go_region_law (first | (go_simp; go_at_call 38; refine (maxKRef _ _).mono ?_; rw [Hmk.out]; rintro e w3 ⟨rfl, rfl⟩))
        all_goals
          go_wp2_with fail
          go_meet
          exact ⟨kk, fun h => by omega, by rw [Hmk.out]; omega, by (try rw [hwk]); exact HM.out.set2.drew⟩
      · obtain ⟨r6, hr6, hr6l⟩ : ∃ r : Nat, (ka : Int).tmod 65536 = (r : Int) ∧ r < 65536 := tmod_bd ka 65536 (by omega)
        obtain ⟨kk, hkk⟩ : ∃ kk : Nat, 1 + (r6 : Int) = kk := ⟨1 + r6, by omega⟩
        have hkk1 : 1 ≤ kk ∧ kk ≤ 65536 := by omega
        have hwk : IntKind.i64.wrap (kk : Int) = kk := IntWalk.i64_in _ (by omega)
        have Hmk := Lib.hid hmk
        go_wp2_with fail
        go_region_law (first | (go_simp; go_at_call 38; refine (maxKRef _ _).mono ?_; rw [Hmk.out]; rintro e w3 ⟨rfl, rfl⟩))
        all_goals
          go_wp2_with fail
          go_meet
          exact ⟨kk, fun h => by omega, by rw [Hmk.out]; omega, by (try rw [hwk]); exact HM.out.set2.drew⟩
    case rest =>
      obtain ⟨kk, hkk1, hkkm, hM⟩ := hcut
      clear x0 x1 x2 x3 o0 o1 o2 o3 fo fr lm HM hka hka3 hmk
      have HM := Lib.hid hM
      have Hkk1 := Lib.hid hkk1
      have Hkkm := Lib.hid hkkm
      clear hM hkk1 hkkm
      (obtain ⟨x0, x1, x2, x3⟩ := row4 (Lib.hid HM.out.qc); obtain ⟨o0, o1, o2, o3⟩ := row4 (Lib.hid HM.out.ob); have fo := frz HM.out.ob; have fr := frz HM.out.rc; have lm := HM.out.lt)
      go_upto_if 36 with fail
      go_cut [4] (fun v wx => v = .int .i64 (nFilF kd) ∧ wx = wc)
      case first =>
        by_cases h7 : kd = 7
        · have g7 : (kd == 7) = true := by rw [h7]; rfl
          have HN := Lib.hid (show nFilF kd = 2 by unfold nFilF; rw [if_pos h7])
          clear h7
          go_wp2_with fail
          go_meet
          exact ⟨by rw [HN.out]; rfl, rfl⟩
        · have g7 : (kd == 7) = false := beqF h7
          have HN := Lib.hid (show nFilF kd = 1 by unfold nFilF; rw [if_neg h7])
          clear h7
          go_wp2_with fail
          go_meet
          exact ⟨by rw [HN.out]; rfl, rfl⟩
      case rest =>
        obtain ⟨rfl, rfl⟩ := hcut
        clear x0 x1 x2 x3 o0 o1 o2 o3 fo fr lm
        obtain ⟨N, hN⟩ : ∃ N, nFilF kd = N := ⟨_, rfl⟩
        have hN2 : N ≤ 2 := by rw [← hN]; unfold nFilF; split <;> omega
        rw [hN]
        have HN := Lib.hid hN
        clear hN
        go_wp2_with fail
        go_loopw [5] (fun i wr => ∃ (j : Nat) (fs : List (List Cd)) (A1 : Option Addr) (c1 : Nat), j ≤ N ∧ i = .int .i64 j ∧ fs.length = j ∧ MIn w q A c (.int .i64 kd) (.int .i64 cc) (.int .i64 kk) fs (.slice A1 j c1) wr) (fun i _ => N - (intOf i).toNat)
        case atStart => exact ⟨0, [], none, 0, Nat.zero_le _, rfl, rfl, by simp, HM.out, Own.nil_ _ _ _ _ _⟩
        case round =>
          obtain ⟨j, fs, A1, c1, hj, rfl, hfl, hIn⟩ := hrel
          have hj0 : (0 : Int) ≤ (j : Int) := by omega
          have HI := Lib.hid hIn
          clear hIn HM
          by_cases hlt : j < N
          · have hj1 : (j : Int) < (N : Int) := by omega
            go_wp2_with fail
            obtain ⟨wo, hwo⟩ : ∃ wo : World, wo = wr := ⟨_, rfl⟩
            subst hwo
            go_loopw [6, 7] (fun v i wx => ∃ (k : Nat) (B : Option Addr) (d : Nat) (ys : List Cd), k ≤ 3 ∧ i = .int .i64 k ∧ ys.length = k ∧ (∀ x ∈ ys, ValidCd x) ∧ v = .slice B k d ∧ Own cdE (fun _ => False) wx wo.heap.size 90 (.slice B k d) ys ∧ Below wo.heap.size wo wx) (fun _ i _ => 3 - (intOf i).toNat)
            case atStart => exact ⟨0, some ⟨wo.heap.size, 0, none⟩, 0, [], by omega, rfl, rfl, by simp, rfl, Own.litAt _ _ _ _ rfl (Nat.le_refl _), (Below.refl _ _).alloc (Nat.le_refl _) _⟩
            case round =>
              obtain ⟨k, B, d, ys, hk, rfl, hyl, hyv, rfl, ho, hb⟩ := hrel
              have hk0 : (0 : Int) ≤ (k : Int) := by omega
              have HM := Lib.hid (HI.out.mb.call hb)
              have HO := Lib.hid ho
              have HB := Lib.hid hb
              have HY := Lib.hid hyv
              have H2 := Lib.hid (H.out.keep (Below.agree HM.out.bel))
              have lo := ho.lt
              clear ho hb hyv
              (obtain ⟨x0, x1, x2, x3⟩ := row4 (Lib.hid HM.out.qc); obtain ⟨o0, o1, o2, o3⟩ := row4 (Lib.hid HM.out.ob); have fo := frz HM.out.ob; have fr := frz HM.out.rc; have lm := HM.out.lt)
              have lz := HB.out.size
              have HOS := Lib.hid (HO.out.toSl (T := fun b => FtS (w.heap.size + 3) (.slice A1 j c1) b ∧ b ≤ wr.heap.size) (fun _ h _ => h.elim) (fun b h1 h2 _ => ⟨⟨by have := HI.out.mb.lt; omega, fun g hg => by have := (HI.out.own.lt g hg).2; omega⟩, Nat.le_of_lt h2⟩))
              by_cases c1' : j < q.fs.length
              · have g1 : (j : Int) < (q.fs.length : Int) := by omega
                obtain ⟨r, hr⟩ : ∃ r, q.fs[j]? = some r := ⟨_, List.getElem?_eq_getElem c1'⟩
                obtain ⟨b1, o1', B1, d1, rfl, -, l1, z1, hs1⟩ := flt_at H2.out hr
                have hm1 := hs1.max
                have HS1 := Lib.hid hs1
                clear hr hs1
                by_cases c2 : k < r.length
                · have g2 : (k : Int) < (r.length : Int) := by omega
                  by_cases c3 : k < 3
                  · have g3 : (k : Int) < 3 := by omega
                    obtain ⟨x, hx⟩ : ∃ x, r[k]? = some x := ⟨_, List.getElem?_eq_getElem c2⟩
                    obtain ⟨b2, o2', rfl, -, l2, y0, y1, y2⟩ := cd_at HS1.out hx
                    clear hx
                    have lb2 := l2
                    go_wp2_with (first
                      | (go_at_call 39; refine (madeCdP x _).mono ?_; rintro e w4 ⟨x', hx', rfl, hb4⟩; have HX := Lib.hid hx'; have HB4 := Lib.hid hb4; have HO4 := Lib.hid (HO.out.call hb4); have lo4 := HO4.out.lt; have lz4 := hb4.size; clear hx' hb4)
                      | (at_builtin; go_must ((refine wpList_append_E (S := fun b => b = w4.heap.size) rfl (.tmp 64) (.tmp 74) rfl cdsT (base := wo.heap.size) (v := .slice B k d) (xs := ys) (ys := [x']) (by rfl) (by rfl) rfl (nz := k + 1) (by simp [hyl]) ((HO4.out.flat cdE_flat).alloc _) (Sl.litAt (S := fun b => b = w4.heap.size) rfl (.single cdE_shut) (by unfold maxLen; simp) (fun _ h _ => h) rfl) (by unfold maxLen; simp [hyl]; omega) (by simp [hyl]; omega) (by simp; omega) (fun g hg (hs : g = w4.heap.size) => absurd (lo4 g hg).2 (by omega)) ?_; intro A6 c6 w6 hown6 hg6 hor6))))
                    go_roundw
                    case rel => exact ⟨k + 1, A6, c6, ys ++ [x'], by omega, by go_num, by simp [hyl], fun u hu => (List.mem_append.1 hu).elim (HY.out u) (fun h => by simp at h; subst h; exact HX.out), rfl, hown6.flat cdE_flat, ((HB.out.trans (HB4.out.mono HB.out.size)).alloc (by omega) _).grown hg6 (by simp; omega) (fun g hg => (lo4 g hg).1)⟩
                    case measure => simp [intOf]; omega
                  · have g3 : ¬ (k : Int) < 3 := by omega
                    (go_wp2_with (at_builtin; go_must ((refine wpList_append_E (S := fun b => FtS (w.heap.size + 3) (.slice A1 j c1) b ∧ b ≤ wr.heap.size) rfl (.tmp 77) (.tmp 79) rfl cfsT (base := w.heap.size + 3) (v := .slice A1 j c1) (xs := fs) (ys := [ys]) (by rfl) (by rfl) rfl (nz := j + 1) (by simp [hfl]) ((Own.sub (HI.out.own.call HB.out) (fun b h1 h2 => ⟨h1, Nat.le_of_lt h2⟩)).alloc _) (Sl.litAt (S := fun b => FtS (w.heap.size + 3) (.slice A1 j c1) b ∧ b ≤ wr.heap.size) rfl (.single ⟨B, d, by rw [hyl], HOS.out⟩) (by unfold maxLen; simp) (fun _ h _ => h) ⟨⟨lm, fun g hg => by have := (HI.out.own.lt g hg).2; omega⟩, Nat.le_refl _⟩) (by unfold maxLen; simp [hfl]; omega) (by simp [hfl]; omega) (by simp; omega) (fun g hg hs => absurd rfl (hs.1.2 g hg)) ?_; intro A6 c6 w6 hown6 hg6 hor6; have lg6 := hg6.size; simp at lg6; have HM6 := Lib.hid (((HM.out.call ((Below.refl _ _).alloc (Nat.le_refl _) _))).grown hg6 (fun g hg => (HI.out.own.lt g hg).1)); clear x0 x1 x2 x3 o0 o1 o2 o3 fo fr; obtain ⟨o0, o1, o2, o3⟩ := row4 (Lib.hid HM6.out.ob); have fo := frz HM6.out.ob))); go_roundw; (case rel => exact ⟨j + 1, fs ++ [ys], A6, c6, by omega, by go_num, by simp [hfl], HI.out.app ⟨by omega, HY.out⟩ HB.out hown6 hg6 hor6⟩); (case measure => simp [intOf]; omega))
                · have g2 : ¬ (k : Int) < (r.length : Int) := by omega
                  (go_wp2_with (at_builtin; go_must ((refine wpList_append_E (S := fun b => FtS (w.heap.size + 3) (.slice A1 j c1) b ∧ b ≤ wr.heap.size) rfl (.tmp 77) (.tmp 79) rfl cfsT (base := w.heap.size + 3) (v := .slice A1 j c1) (xs := fs) (ys := [ys]) (by rfl) (by rfl) rfl (nz := j + 1) (by simp [hfl]) ((Own.sub (HI.out.own.call HB.out) (fun b h1 h2 => ⟨h1, Nat.le_of_lt h2⟩)).alloc _) (Sl.litAt (S := fun b => FtS (w.heap.size + 3) (.slice A1 j c1) b ∧ b ≤ wr.heap.size) rfl (.single ⟨B, d, by rw [hyl], HOS.out⟩) (by unfold maxLen; simp) (fun _ h _ => h) ⟨⟨lm, fun g hg => by have := (HI.out.own.lt g hg).2; omega⟩, Nat.le_refl _⟩) (by unfold maxLen; simp [hfl]; omega) (by simp [hfl]; omega) (by simp; omega) (fun g hg hs => absurd rfl (hs.1.2 g hg)) ?_; intro A6 c6 w6 hown6 hg6 hor6; have lg6 := hg6.size; simp at lg6; have HM6 := Lib.hid (((HM.out.call ((Below.refl _ _).alloc (Nat.le_refl _) _))).grown hg6 (fun g hg => (HI.out.own.lt g hg).1)); clear x0 x1 x2 x3 o0 o1 o2 o3 fo fr; obtain ⟨o0, o1, o2, o3⟩ := row4 (Lib.hid HM6.out.ob); have fo := frz HM6.out.ob))); go_roundw; (case rel => exact ⟨j + 1, fs ++ [ys], A6, c6, by omega, by go_num, by simp [hfl], HI.out.app ⟨by omega, HY.out⟩ HB.out hown6 hg6 hor6⟩); (case measure => simp [intOf]; omega))
              · have g1 : ¬ (j : Int) < (q.fs.length : Int) := by omega
                (go_wp2_with (at_builtin; go_must ((refine wpList_append_E (S := fun b => FtS (w.heap.size + 3) (.slice A1 j c1) b ∧ b ≤ wr.heap.size) rfl (.tmp 77) (.tmp 79) rfl cfsT (base := w.heap.size + 3) (v := .slice A1 j c1) (xs := fs) (ys := [ys]) (by rfl) (by rfl) rfl (nz := j + 1) (by simp [hfl]) ((Own.sub (HI.out.own.call HB.out) (fun b h1 h2 => ⟨h1, Nat.le_of_lt h2⟩)).alloc _) (Sl.litAt (S := fun b => FtS (w.heap.size + 3) (.slice A1 j c1) b ∧ b ≤ wr.heap.size) rfl (.single ⟨B, d, by rw [hyl], HOS.out⟩) (by unfold maxLen; simp) (fun _ h _ => h) ⟨⟨lm, fun g hg => by have := (HI.out.own.lt g hg).2; omega⟩, Nat.le_refl _⟩) (by unfold maxLen; simp [hfl]; omega) (by simp [hfl]; omega) (by simp; omega) (fun g hg hs => absurd rfl (hs.1.2 g hg)) ?_; intro A6 c6 w6 hown6 hg6 hor6; have lg6 := hg6.size; simp at lg6; have HM6 := Lib.hid (((HM.out.call ((Below.refl _ _).alloc (Nat.le_refl _) _))).grown hg6 (fun g hg => (HI.out.own.lt g hg).1)); clear x0 x1 x2 x3 o0 o1 o2 o3 fo fr; obtain ⟨o0, o1, o2, o3⟩ := row4 (Lib.hid HM6.out.ob); have fo := frz HM6.out.ob))); go_roundw; (case rel => exact ⟨j + 1, fs ++ [ys], A6, c6, by omega, by go_num, by simp [hfl], HI.out.app ⟨by omega, HY.out⟩ HB.out hown6 hg6 hor6⟩); (case measure => simp [intOf]; omega))
          · have hj1 : ¬ (j : Int) < (N : Int) := by omega
            obtain rfl : j = N := by omega
            have HM := Lib.hid HI.out.mb
            (obtain ⟨x0, x1, x2, x3⟩ := row4 (Lib.hid HM.out.qc); obtain ⟨o0, o1, o2, o3⟩ := row4 (Lib.hid HM.out.ob); have fo := frz HM.out.ob; have fr := frz HM.out.rc; have lm := HM.out.lt)
            obtain ⟨r0, r1, r2, r3⟩ := row4 (Lib.hid HM.out.rc)
            have hH : HeadOk ⟨kd, cc, kk, fs⟩ := by
              refine ⟨⟨hkd1, hkd7⟩, ⟨by dsimp only; omega, by dsimp only; omega⟩, ?_, by dsimp only; omega, Hkkm.out, fun h => ?_, by rw [HN.out]; exact hfl⟩
              · dsimp only
                cases hc : hasColB kd with
                | true => exact .inr (of_decide_eq_true hc)
                | false => exact .inl (by rw [Hcc.out hc]; rfl)
              · dsimp only at h ⊢
                have := Hkk1.out (by unfold maxKF; rcases h with h | h <;> rw [h] <;> decide)
                omega
            have HH := Lib.hid hH
            clear hH
            go_wp2_with fail
            have hbm := HM.out.bel
            refine bodyPost_ret (v := .agg #[.int .i64 kd, .int .i64 cc, .int .i64 kk, .slice A1 j c1]) (by simp [results, Tryz.results17, go_sem, *]) rfl
              ⟨⟨kd, cc, kk, fs⟩, ⟨HH.out, HI.out.ok⟩, trivial, A1, c1, by dsimp only; rw [hfl], ?_, (by repeat' (first | with_reducible exact Below.refl _ _ | with_reducible assumption | with_reducible refine Below.setCell ?_ ?_ _ | with_reducible refine Below.drew ?_ | with_reducible refine below_drewN ?_ _ | with_reducible refine Below.alloc ?_ ?_ _ | (rintro _ ⟨⟩; simp <;> omega) | omega | (simp <;> omega)))⟩
            dsimp only
            rw [hfl]
            have lo := HI.out.own.lt
            refine Own.sub (S := FtS (w.heap.size + 3) (.slice A1 j c1)) (Own.lower (base := w.heap.size + 3) ?_ (by omega)) (fun b h _ => ⟨by have := h.1; omega, h.2⟩)
            repeat' (first | with_reducible exact HI.out.own | with_reducible refine Own.set ?_ ?_ ?_ _ | (intro e; have := (lo _ e).1; dsimp only at this; omega) | (intro h; have := h.1; dsimp only at this; omega))
theorem made13P {q : Qy} {A : Option Addr} {c : Nat} {S : Nat → Prop} (w : World) (h : Sl cdE.slice S w A c q.fs) : Calls Tryz.prog 17 #[(.agg #[.int .i64 q.kind, .int .i64 q.col, .int .i64 q.k, .slice A q.fs.length c])] w (QyRes (fun _ => True) w) :=
  (made13O w h).mono fun _ _ hh => hh.res
end Go.Proofs.YtagadbdbbglddaaGreatDoor
namespace Go.Proofs.YtagadbdbbglddaaGreatDoor
open Go.RowKit

def fldI (r : Rd) (col : Int) : Int := if col = 0 then r.who else if col = 1 then r.whn else if col = 2 then r.knd else r.val
def matchT (r : Rd) (c : Cd) : Bool := decide (c.lo ≤ fldI r c.col ∧ fldI r c.col ≤ c.hi)
def matchB (l : List Cd) (r : Rd) : Bool := l.all (matchT r)
def filtF (q : Qy) (v : Nat) : List Cd := if q.kind = 7 then fl q (v / 16) else fl q 0
def colQ (q : Qy) : Int := if q.kind = 7 then 0 else q.col
/-- What a matching reading adds to sum v. -/
def unitF (q : Qy) (v : Nat) (r : Rd) : Int :=
  if q.kind = 1 then 1 else if q.kind = 2 then fldI r q.col else if q.kind = 3 then fldI r q.col ^ q.k.toNat else if fldI r (colQ q) = ((v % 16 : Nat) : Int) then 1 else 0
def termF (q : Qy) (v : Nat) (r : Rd) : Int := if matchB (filtF q v) r then unitF q v r else 0
def totalF (q : Qy) (l : List Rd) (v : Nat) : Int := (l.map (termF q v)).sum
theorem totalF_snoc (q : Qy) (l : List Rd) (r : Rd) (v : Nat) : totalF q (l ++ [r]) v = totalF q l v + termF q v r := by simp [totalF]
theorem fldI_bd {r : Rd} (h : ValidR r) (c : Int) : 0 ≤ fldI r c ∧ fldI r c ≤ maxC c := by
  obtain ⟨⟨a, b⟩, ⟨e, f⟩, ⟨c', d⟩, ⟨g, i⟩⟩ := h
  unfold fldI maxC
  split
  · rename_i h; rw [if_pos (.inl h)]; exact ⟨a, by omega⟩
  · split
    · rename_i h1 h; rw [if_neg (by omega)]; exact ⟨c', by omega⟩
    · split
      · rename_i h2 h1 h; rw [if_pos (.inr h)]; exact ⟨e, by omega⟩
      · rw [if_neg (by omega)]; exact ⟨g, by omega⟩
theorem fldI_255 {r : Rd} (h : ValidR r) (c : Int) : 0 ≤ fldI r c ∧ fldI r c ≤ 255 := by
  have := fldI_bd h c; have := maxC_pos c; omega
theorem pow_le_255 {x : Int} (h0 : 0 ≤ x) (h1 : x ≤ 255) : ∀ k : Nat, 0 ≤ x ^ k ∧ x ^ k ≤ 255 ^ k
  | 0 => by simp
  | k + 1 => by
    obtain ⟨a, b⟩ := pow_le_255 h0 h1 k
    rw [Int.pow_succ, Int.pow_succ]
    exact ⟨Int.mul_nonneg a h0, Int.le_trans (Int.mul_le_mul_of_nonneg_left h1 a) (Int.mul_le_mul_of_nonneg_right b (by omega))⟩
theorem pow_le_6 {x : Int} (h0 : 0 ≤ x) (h1 : x ≤ 255) {k : Nat} (hk : k ≤ 6) : 0 ≤ x ^ k ∧ x ^ k ≤ 274941996890625 := by
  obtain ⟨a, b⟩ := pow_le_255 h0 h1 k
  refine ⟨a, Int.le_trans b ?_⟩
  match k, hk with
  | 0, _ => decide
  | 1, _ => decide
  | 2, _ => decide
  | 3, _ => decide
  | 4, _ => decide
  | 5, _ => decide
  | 6, _ => decide
theorem termF_bd {q : Qy} {r : Rd} (h : ValidR r) (v : Nat) (hk : q.k ≤ 6 ∨ q.kind ≠ 3) : 0 ≤ termF q v r ∧ termF q v r ≤ 274941996890625 := by
  have hf := fldI_255 h q.col
  unfold termF unitF
  split
  · split
    · omega
    · split
      · omega
      · split
        · rename_i h3
          exact pow_le_6 hf.1 hf.2 (by omega)
        · split <;> omega
  · omega
theorem totalF_bd {q : Qy} (v : Nat) (hk : q.k ≤ 6 ∨ q.kind ≠ 3) : ∀ {l : List Rd}, (∀ r ∈ l, ValidR r) → 0 ≤ totalF q l v ∧ totalF q l v ≤ l.length * 274941996890625
  | [], _ => by simp [totalF]
  | r :: l, h => by
    have h1 := termF_bd (q := q) (h r (by simp)) v hk
    have h2 := totalF_bd v hk (l := l) fun x hx => h x (by simp [hx])
    have h3 : totalF q (r :: l) v = termF q v r + totalF q l v := by simp [totalF]
    rw [h3, List.length_cons]
    omega
end Go.Proofs.YtagadbdbbglddaaGreatDoor
namespace Go.Proofs.YtagadbdbbglddaaGreatDoor
open Go.RowKit

/-- A row of one block. -/
theorem Sl.ofRow {α : Type} {E : Enc α} {S : Nat → Prop} {w : World} {g : Nat} {cs : List Value} {t : TypeId} {xs : List α} (h : w.heap[g]? = some (.cells cs.toArray t (0, 0))) (he : Elems E S w cs xs) (hS : S g) (hm : xs.length ≤ maxLen) :
    Sl E S w (some ⟨g, 0, none⟩) xs.length xs :=
  ⟨Nat.le_refl _, hm, cs, fun _ => ⟨_, rfl, hS, heap_lt h, fun j u hu => by rw [Addr.add_lit, cell_of_row _ _ _ _ _ _ h]; simpa using hu⟩, he⟩
theorem sl_fs1 {S : Nat → Prop} {w : World} {g : Nat} {t : TypeId} {B : Option Addr} {d : Nat} {l : List Cd} (h : w.heap[g]? = some (.cells #[.slice B l.length d] t (0, 0))) (hs : Sl cdE S w B d l) (hS : S g) : Sl cdE.slice S w (some ⟨g, 0, none⟩) 1 [l] :=
  Sl.ofRow (cs := [.slice B l.length d]) h (.single ⟨B, d, rfl, hs⟩) hS (by unfold maxLen; simp)
end Go.Proofs.YtagadbdbbglddaaGreatDoor
namespace Go.Proofs.YtagadbdbbglddaaGreatDoor
open Go.RowKit

theorem sums_1 {k : Int} (h1 : 1 ≤ k) (h : k ≤ 3) : sumsC k = 1 := by unfold sumsC; rw [if_pos ⟨h1, h⟩]
theorem sums_16 {k : Int} (h : ¬ k ≤ 3) (h6 : k ≤ 6) : sumsC k = 16 := by unfold sumsC; rw [if_neg (show ¬ (1 ≤ k ∧ k ≤ 3) by omega), if_pos (show 4 ≤ k ∧ k ≤ 6 by omega)]
theorem sums_32 {k : Int} (h : k = 7) : sumsC k = 32 := by subst h; rfl
theorem k6_of {q : Qy} (hq : ValidQ q) : q.k ≤ 6 ∨ q.kind ≠ 3 := by
  by_cases h3 : q.kind = 3
  · left; have := hq.head.2.2.2.2.1; rw [h3] at this; exact this
  · exact .inr h3
theorem sums_le {k : Int} (h1 : 1 ≤ k) (h7 : k ≤ 7) : 0 ≤ sumsC k ∧ sumsC k ≤ 32 ∧ (k ≠ 7 → sumsC k ≤ 16) := by
  unfold sumsC
  rcases (by omega : k = 1 ∨ k = 2 ∨ k = 3 ∨ k = 4 ∨ k = 5 ∨ k = 6 ∨ k = 7) with e | e | e | e | e | e | e <;> subst e <;> decide
end Go.Proofs.YtagadbdbbglddaaGreatDoor
