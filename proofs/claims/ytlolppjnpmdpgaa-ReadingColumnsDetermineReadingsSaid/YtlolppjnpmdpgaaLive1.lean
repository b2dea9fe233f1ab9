/-
  reading.Live's iterator: the readings that are not retracted, one by one, for every loop body that keeps what it reads.
-/
import Derived.RangeFuncNested
import Derived.RangeFuncBound
import Derived.RangeFuncCalls
import Derived.RangeFuncLeaves
import Derived.RangeFuncBox
import Derived.Shelf.Abstract
import Derived.Shelf.RegionOpen
import Derived.WalkKit
import Derived.OwnWalkIn
import Derived.TacticsInMore
import Derived.LoopNIn
import Derived.LoopIn
import Derived.Sort.EveryDepth
import Derived.Test.YtlolppjnpmdpgaaRd6
namespace Go.Proofs.Ytlolppjnpmdpgaa
open Go.RowKit Go.Shelf

attribute [local go_sem] Oper.semAt_some

theorem liveT_prefix (s : Str) (k : Nat) : liveT s k <+: liveF s := by
  unfold liveT liveF
  exact ((List.take_prefix k (s.l.zip s.g)).filter _).map _

set_option maxRecDepth 100000 in
set_option maxHeartbeats 2000000 in
theorem live1_in (F : Fence) (n : Nat) (h6 : F.fn 70) (hro : F.round = none) (hn : 1 ≤ n) (l Bs N0 : Nat) (S : Nat → Prop) {s : Str} {A B : Option Addr} {c d : Nat} (J Jx : List Rd → World → Prop) (hJ : AbidesFrom N0 J)
    (hY : ∀ pre x W, J pre W → pre.length < s.l.length → YieldAt F (n - 1) Try.prog l #[.agg #[.int .i64 x.who, .int .i64 x.whn, .int .i64 x.knd, .int .i64 x.val]] W fun e W' =>
      (e = .returned (.bool true) ∧ J (pre ++ [x]) W' ∧ Agree S W W') ∨ (e = .returned (.bool false) ∧ Jx (pre ++ [x]) W'))
    (W : World) (hb0 : W.cell? ⟨Bs, 0, none⟩ = some (.slice A s.l.length c)) (hb1 : W.cell? ⟨Bs, 1, none⟩ = some (.slice B s.g.length d)) (hBs : S Bs) (hBl : Bs < W.heap.size) (h : Sl rdE S W A c s.l) (k : Sl .bool S W B d s.g) (hg : s.g.length = s.l.length) (hm : s.l.length ≤ 1000) (h0 : J [] W) :
    CallsIn F n Try.prog 70 #[.func (.yield l) #[] #[], .pointer (some ⟨Bs, 0, none⟩)] W fun e W' => (∃ v, e = .returned v) ∧
      ((∃ ys, ys = liveF s ∧ J ys W') ∨ (∃ pre, pre <+: liveF s ∧ Jx pre W')) := by
  have H := Lib.hid h
  have K := Lib.hid k
  have Hg := Lib.hid hg
  clear h k hg
  refine callsIn_of_wp Try.func70 rfl h6 ?_ hro
  simp only [Try.ntmps70, List.size_toArray, List.length_cons, List.length_nil, Nat.reduceAdd, Nat.reduceSub, Array.replicate_succ, Array.replicate_zero, List.push_toArray, List.append_toArray, List.nil_append, List.cons_append]
  gi_wp2
  gi_loopw [8] (fun i wr => ∃ j : Nat, j ≤ s.l.length ∧ i = .int .i64 j ∧ J (liveT s j) wr ∧ Agree S W wr) (fun i _ => s.l.length - (intOf i).toNat)
  case atStart => exact ⟨0, Nat.zero_le _, rfl, h0, Agree.refl _ _⟩
  case round =>
    obtain ⟨j, hj, rfl, hJs, ha⟩ := hrel
    by_cases hlt : j < s.l.length
    · obtain ⟨r, hr⟩ : ∃ r, s.l[j]? = some r := ⟨_, List.getElem?_eq_getElem hlt⟩
      obtain ⟨b, hb⟩ : ∃ b, s.g[j]? = some b := ⟨_, List.getElem?_eq_getElem (by rw [Hg.out]; exact hlt)⟩
      have hS := Lib.hid (liveT_snoc hr hb)
      obtain ⟨b2, o2, rfl, -, hb2, x0, x1, x2, x3⟩ := rd_at (H.out.keep ha) hr
      obtain ⟨b3, o3, rfl, -, hb3, y0⟩ := bool_at (K.out.keep ha) hb
      have hc1 : wr.cell? ⟨Bs, 1, none⟩ = some (.slice (some ⟨b3, o3, none⟩) s.g.length d) := (World.cell?_of_block (a := ⟨Bs, 1, none⟩) (ha.2 Bs hBs hBl)).trans hb1
      have hBr : Bs < wr.heap.size := Nat.lt_of_lt_of_le hBl ha.1
      have hj0 : (0 : Int) ≤ (j : Int) := by omega
      have hj1 : (j : Int) < (s.l.length : Int) := by omega
      have hj2 : (j : Int) < (s.g.length : Int) := by have := Hg.out; omega
      have hlen : (liveT s j).length < s.l.length := Nat.lt_of_le_of_lt (liveT_len s j) hlt
      have hJ2 : J (liveT s j) (wr.alloc (.cells #[.int .i64 r.who, .int .i64 r.whn, .int .i64 r.knd, .int .i64 r.val] 24)) := hJ _ _ _ none hJs (World.grownBy_alloc _ _ none) (fun _ e => by cases e)
      have Ha := Lib.hid ha
      clear hr hb ha
      cases b with
      | true =>
        gi_wp2
        refine ⟨fun _ h => (by cases h), ?_⟩
        gi_wp2
        go_roundw
        case rel => exact ⟨j + 1, by omega, by go_num, by rw [hS.out]; simpa using hJ2, Ha.out.alloc _⟩
        case measure => simp [intOf]; omega
      | false =>
        obtain ⟨fn, tmps, assign, body, hy, hR⟩ := hY _ r _ hJ2 hlen
        gi_wp2
        refine hR.mono ?_
        rintro e W3 (⟨rfl, hJ3, hk3⟩ | ⟨rfl, hJx3⟩)
        · gi_wp2
          go_roundw
          case rel => exact ⟨j + 1, by omega, by go_num, by rw [hS.out]; exact hJ3, (Ha.out.alloc _).trans hk3⟩
          case measure => simp [intOf]; omega
        · gi_wp2
          refine bodyPost_ret (results_none rfl _ _ _) rfl ?_
          have hp := liveT_prefix s (j + 1)
          rw [hS.out] at hp
          exact ⟨⟨_, rfl⟩, .inr ⟨_, hp, hJx3⟩⟩
    · have hjl : j = s.l.length := by omega
      subst hjl
      have hj1 : ¬ (s.l.length : Int) < (s.l.length : Int) := by omega
      gi_wp2
      go_end0
      have e := liveT_all s Hg.out
      rw [e] at hJs
      exact ⟨⟨_, rfl⟩, .inl hJs⟩

theorem live_in (F : Fence) (n : Nat) (h5 : F.fn 57) (hro : F.round = none) (u v : Value) (w : World) :
    CallsIn F n Try.prog 57 #[.agg #[u, v]] w fun e w' => e = .returned (.func (.func 70) #[] #[.pointer (some ⟨w.heap.size, 0, none⟩)]) ∧ w' = w.alloc (.cells #[u, v] 30) := by
  refine callsIn_of_wp Try.func57 rfl h5 ?_ hro
  simp only [Try.ntmps57, List.size_toArray, List.length_cons, List.length_nil, Nat.reduceAdd, Nat.reduceSub, Array.replicate_succ, Array.replicate_zero, List.push_toArray, List.append_toArray, List.nil_append, List.cons_append]
  gi_wp2
  go_ret
  exact ⟨rfl, rfl⟩

theorem live_stops (F : Fence) (n : Nat) (h6 : F.fn 70) (hro : F.round = none) (hn : 1 ≤ n) (Bs : Nat) (S : Nat → Prop) {s : Str} {A B : Option Addr} {c d : Nat} (w : World) (hBs : S Bs) (hBl : Bs < w.heap.size)
    (hb0 : w.cell? ⟨Bs, 0, none⟩ = some (.slice A s.l.length c)) (hb1 : w.cell? ⟨Bs, 1, none⟩ = some (.slice B s.g.length d)) (h : Sl rdE S w A c s.l) (k : Sl .bool S w B d s.g) (hg : s.g.length = s.l.length) (hm : s.l.length ≤ 1000) :
    SeqStopsK F n Try.prog 70 #[.pointer (some ⟨Bs, 0, none⟩)] (fun x : Rd => #[Value.agg #[.int .i64 x.who, .int .i64 x.whn, .int .i64 x.knd, .int .i64 x.val]]) (Agree S) (fun ys => ys = liveF s) (fun pre => pre <+: liveF s) s.l.length w := fun l J Jx W hW hJ _ hY h0 =>
  live1_in F n h6 hro hn l Bs W.heap.size S J Jx hJ hY W ((hW.cell (p := ⟨Bs, 0, none⟩) hBl).trans hb0) ((hW.cell (p := ⟨Bs, 1, none⟩) hBl).trans hb1) hBs (Nat.lt_of_lt_of_le hBl hW.size) (h.keep (Below.agree hW)) (k.keep (Below.agree hW)) hg hm h0
end Go.Proofs.Ytlolppjnpmdpgaa
