/-
  The law 'NetworkCapacity', walked: it returns true for every input, and nothing that existed changes. No condition.
-/
import Derived.Test.YtmaaniogcmlfbaaNetL
import Derived.Test.YtmaaniogcmlfbaaNet24
namespace Go.Proofs.Ytmaaniogcmlfbaa
open Go.RowKit

def capP (i : Nat) : Pk := ⟨i, 0, 0, []⟩
def capF (j : Nat) : Nt := ⟨0, (List.range (min j 512)).map capP⟩
theorem capF_send (j : Nat) : withF (capF j) (lateF (capF j) (capP j)) = capF (j + 1) := by
  have hl : lateF (capF j) (capP j) = capP j := rfl
  rw [hl]
  unfold withF
  by_cases h : 512 ≤ (capF j).way.length
  · rw [if_pos h]
    simp only [capF, List.length_map, List.length_range] at h
    simp only [capF]
    rw [show min j 512 = 512 by omega, show min (j + 1) 512 = 512 by omega]
  · rw [if_neg h]
    simp only [capF, List.length_map, List.length_range] at h
    simp only [capF]
    rw [show min (j + 1) 512 = min j 512 + 1 by omega, List.range_succ, List.map_append, show min j 512 = j by omega]
    rfl
theorem capF_len (j : Nat) : (capF j).way.length = min j 512 := by simp [capF]
theorem capF_ok (j : Nat) : NtOk (capF j) := ⟨Int.le_refl 0, by show (0 : Int) ≤ _; omega, by rw [capF_len]; omega, fun p hp => by simp only [capF, List.mem_map] at hp; obtain ⟨i, _, rfl⟩ := hp; simp [capP]⟩
theorem capF_get {j i : Nat} (h : i < min j 512) : (capF j).way[i]? = some (capP i) := by simp only [capF, List.getElem?_map, List.getElem?_range h]; rfl
theorem capF_double {j i : Nat} (h : i < min j 512) : applyF (capF j) 3 (i : Int) 0 = (withF (capF j) (capP i), []) := by
  unfold applyF
  rw [if_neg (by omega), if_neg (by omega), Int.toNat_natCast, capF_get h]
  rfl
theorem capF_deliver {j i : Nat} (h : i < min j 512) : applyF (capF j) 1 (i : Int) 0 = (withoutF (capF j) i, [capP i]) := by
  unfold applyF
  rw [if_neg (by omega), if_neg (by omega), Int.toNat_natCast, capF_get h]
  rfl
theorem capF_double_len {j i : Nat} : (withF (capF j) (capP i)).way.length = min (min j 512 + 1) 512 := by
  unfold withF
  have := capF_len j
  split
  · omega
  · simp only [List.length_append, List.length_singleton]; omega
theorem capF_without_len {j i : Nat} (h : i < min j 512) : (withoutF (capF j) i).way.length = min j 512 - 1 := by
  simp only [withoutF, List.length_eraseIdx, capF_len]
  rw [if_pos h]

set_option maxRecDepth 100000 in
set_option maxHeartbeats 16000000 in
theorem capacity_any (k a : Int) (w : World) (hk0 : 0 ≤ k) (hk : k < 256) (ha0 : 0 ≤ a) (ha : a < 65536) :
    Calls Try.prog 6 #[.int .u8 k, .int .u16 a] w fun e w' => e = .returned (.bool true) ∧ Below w.heap.size w w' := by
  obtain ⟨kn, rfl⟩ : ∃ n : Nat, k = n := ⟨k.toNat, by omega⟩
  obtain ⟨an, rfl⟩ : ∃ n : Nat, a = n := ⟨a.toNat, by omega⟩
  go_enter Try.func6, Try.ntmps6
  go_wp2_with (first
    | (go_at_call 9; refine (sanity_true _).mono ?_; rintro e w1 ⟨rfl, hb1⟩)
    | (go_at_call 10; refine (newN _).mono ?_; rintro e w2 ⟨rfl, hb2⟩))
  have hb12 := Lib.hid (hb1.trans (hb2.mono hb1.size))
  have hz := hb12.out.size
  clear hb1 hb2
  obtain ⟨m, hm⟩ : ∃ m : Nat, (kn : Int) % 8 = m := ⟨kn % 8, by omega⟩
  have hm8 : m < 8 := by omega
  rw [hm]
  clear hm hk0 hk
  go_loopw [8] (fun v wr => ∃ j : Nat, j ≤ 508 + m ∧ v = .int .i64 j ∧ NG (· = w2.heap.size) wr w2.heap.size (capF j) ∧ Below w.heap.size w wr) (fun v _ => 508 + m - (intOf v).toNat)
  case atStart =>
    exact ⟨0, by omega, rfl, NG.made (n := ⟨0, []⟩) (Sl.nil_ pkE (fun _ => False) _ _ (Nat.zero_le _)) (fun _ h _ => h.elim) rfl, hb12.out.alloc hz _⟩
  case round =>
    obtain ⟨j, hj, rfl, ng, hbw⟩ := hrel
    have hgB := ng.hg
    obtain ⟨A0, c0, y0, y1, fg, hglt, hg, hs⟩ := ng.open_
    have hs' := Lib.hid hs
    have hg' := Lib.hid hg
    clear hs hg ng
    have f0 := fg 0
    have f1' := fg 1
    clear fg
    by_cases hlt : j < 508 + m
    · have hj1 : (j : Int) < 508 + (m : Int) := by omega
      have hE := capF_send j
      have hE' := Lib.hid hE
      clear hE
      replace y0 : wr.cell? ⟨w2.heap.size, 0, none⟩ = some (.int .i64 0) := y0
      go_wp2_with fail
      refine (sendS (S := fun b => b ≠ w2.heap.size ∧ b < wr.heap.size) (n := capF j) (p := capP j) _ (hs'.out.old.keep (by repeat' (first | with_reducible exact Agree.refl _ _ | with_reducible assumption | with_reducible refine Agree.set ?_ ?_ _ | with_reducible refine Agree.alloc ?_ _ | with_reducible refine Agree.drew ?_ | with_reducible refine Agree.drewN ?_ _ | omega | (simp <;> omega)))) (Sl.nil_ _ _ _ _ (Nat.zero_le _)) rfl rfl rfl rfl rfl rfl (bl := 0) (Nat.zero_le _) hE'.out (now' := 0) rfl rfl).mono ?_
      rintro e w4 ⟨A4, c4, rfl, hs4, hb4⟩
      have hk4 : Below wr.heap.size wr w4 := hb4
      have hz4 := hk4.size
      have hlg := Nat.lt_of_lt_of_le hglt hz4
      obtain ⟨hc4, hf4⟩ := kcell hk4
      go_wp2_with fail
      go_roundw
      case rel =>
        refine ⟨j + 1, by omega, by go_num, ?_, (by repeat' (first | with_reducible exact Below.refl _ _ | with_reducible assumption | with_reducible refine Below.trans ?_ (Below.mono hb4 ?_) | with_reducible refine Below.trans ?_ (Below.mono hbw ?_) | with_reducible refine Below.setCell ?_ ?_ _ | with_reducible refine Below.drew ?_ | with_reducible refine below_drewN ?_ _ | with_reducible refine Below.alloc ?_ ?_ _ | (rintro _ ⟨⟩; simp <;> omega) | omega | (simp <;> omega)))⟩
        refine NG.repl (S := fun b => b ≠ w2.heap.size) rfl rfl rfl ?_ ((hs4.sub ?_).keep (by repeat' (first | with_reducible exact Agree.refl _ _ | with_reducible assumption | with_reducible refine Agree.set ?_ ?_ _ | with_reducible refine Agree.alloc ?_ _ | with_reducible refine Agree.drew ?_ | with_reducible refine Agree.drewN ?_ _ | omega | (simp <;> omega)))) (fun b hb _ => hb)
        · (repeat' (first | with_reducible assumption | with_reducible refine HG.alloc ?_ _ | with_reducible refine HG.drew ?_ | with_reducible refine HG.drewN ?_ _ | with_reducible refine HG.set ?_ ?_ _ | with_reducible refine HG.under ?_ hk4 hglt | (simp; done) | omega | (simp <;> omega)))
        · intro b hb _
          rcases hb with hb | hb
          · exact hb.1
          · omega
      case measure => simp [intOf]; omega
    · have hj1 : ¬ (j : Int) < 508 + (m : Int) := by omega
      obtain rfl : j = 508 + m := by omega
      have hsz : ∃ s1 : Nat, min (508 + m) 512 = s1 + 1 ∧ 507 ≤ s1 ∧ s1 ≤ 511 := ⟨min (508 + m) 512 - 1, by omega, by omega, by omega⟩
      obtain ⟨s1, hsz, hsz1, hsz2⟩ := hsz
      have hi : an % (s1 + 1) < s1 + 1 := Nat.mod_lt _ (by omega)
      obtain ⟨i, hi'⟩ : ∃ i, an % (s1 + 1) = i := ⟨_, rfl⟩
      rw [hi'] at hi
      have hr : (an : Int).tmod ((s1 + 1 : Nat) : Int) = (i : Int) := by rw [← Int.ofNat_tmod, hi']
      have hr2 : (an : Int) % ((s1 + 1 : Nat) : Int) = (i : Int) := by rw [← hi']; rfl
      have hlen : (capF (508 + m)).way.length = s1 + 1 := by rw [capF_len, hsz]
      have hD := capF_double (j := 508 + m) (i := i) (by rw [hsz]; exact hi)
      have hDl := capF_double_len (j := 508 + m) (i := i)
      have hV := capF_deliver (j := 508 + m) (i := i) (by rw [hsz]; exact hi)
      have hVl := capF_without_len (j := 508 + m) (i := i) (by rw [hsz]; exact hi)
      rw [hsz] at hDl hVl
      have okC := capF_ok (508 + m)
      have hn0 : (capF (508 + m)).now = 0 := rfl
      have hDn : (withF (capF (508 + m)) (capP i)).now = 0 := by rw [withF_now]; rfl
      have hVn : (withoutF (capF (508 + m)) i).now = 0 := rfl
      generalize capF (508 + m) = n at *
      have br : Below wr.heap.size wr wr := Below.refl _ _
      have rc := fun W (hW : Below wr.heap.size wr W) b o (hb : b < wr.heap.size) => hW.cell (p := ⟨b, o, none⟩) hb
      have ba : ∀ W o, Below wr.heap.size wr W → Below wr.heap.size wr (W.alloc o) := fun W o h => h.alloc h.size o
      have bc : ∀ W W', Below wr.heap.size wr W → Below W.heap.size W W' → Below wr.heap.size wr W' := fun W W' h k => h.trans (k.mono h.size)
      rw [hlen] at y1
      rw [hn0] at y0
      replace hn0 := Lib.hid hn0
      replace hDn := Lib.hid hDn
      replace hVn := Lib.hid hVn
      replace hlen := Lib.hid hlen
      replace hD := Lib.hid hD
      replace hV := Lib.hid hV
      replace hDl := Lib.hid hDl
      replace hVl := Lib.hid hVl
      rcases Nat.lt_trichotomy (508 + m) 512 with hc | hc | hc
      · have e0 : (508 : Int) + (m : Int) = (s1 : Int) + 1 := by omega
        have e1 : ¬ (512 : Int) < (s1 : Int) + 1 := by omega
        have e2 : ¬ (512 : Int) < (s1 : Int) + 1 + 1 := by omega
        have e3 : ((s1 : Int) + 1 == 0) = false := by rw [beq_eq_false_iff_ne]; omega
        have e4 : ¬ (s1 : Int) + 1 = 0 := by omega
        have e5 : 0 < (s1 : Int) + 1 := by omega
        have e6 : 0 ≤ (s1 : Int) := by omega
        have ew : IntKind.i64.wrap ((s1 : Int) + 1 - 1) = s1 := by rw [IntKind.wrap_i64]; omega
        have e7 : (s1 : Int) + 1 ≤ 512 := by omega
        have hw : IntKind.i64.wrap (an : Int) = an := by rw [IntKind.wrap_i64]; omega
        have hr3 : (an : Int).tmod ((s1 : Int) + 1) = (i : Int) := hr
        have hr4 : (an : Int) % ((s1 : Int) + 1) = (i : Int) := hr2
        replace hDl : Hid ((withF n (capP i)).way.length = s1 + 1 + 1) := by have := hDl.out; show _ = _; omega
        replace hVl : Hid ((withoutF n i).way.length = s1) := by have := hVl.out; show _ = _; omega
        clear hr hr2 hsz hi' hj hj1 hlt hc
        go_wp2_with fail
        go_region_held3 (fun X => Below wr.heap.size wr X) (repeat' (first | with_reducible assumption | with_reducible refine Below.drew ?_ | with_reducible refine Below.alloc ?_ ?_ _ | with_reducible refine Below.setCell ?_ ?_ _ | (simp; done) | omega | (simp <;> omega)))
          (first | (go_at_call 13; refine (applyS (S := fun b => b ≠ w2.heap.size ∧ b < wr.heap.size) (n := n) _ ((hs'.out.old).keep (Below.agree (by assumption))) okC hn0.out hlen.out hD.out (now' := 0) hDn.out (len' := s1 + 1 + 1) hDl.out rfl).mono ?_; rintro e w4 ⟨A4, c4, A5, c5, rfl, hs4, hs5, hb4⟩; have hk4 := bc _ _ (by assumption) hb4; have hz4 := hk4.size; have hlg := Nat.lt_of_lt_of_le hglt hz4; obtain ⟨hc4, hf4⟩ := kcell hk4; obtain ⟨hd4, hdf4⟩ := bcell hb4))
        all_goals
          go_wp2_with fail
          go_region_held3 (fun X => Below wr.heap.size wr X) (repeat' (first | with_reducible assumption | with_reducible refine Below.drew ?_ | with_reducible refine Below.alloc ?_ ?_ _ | with_reducible refine Below.setCell ?_ ?_ _ | (simp; done) | omega | (simp <;> omega)))
            (first | (go_at_call 13; refine (applyS (S := fun b => b ≠ w2.heap.size ∧ b < wr.heap.size) (n := n) _ ((hs'.out.old).keep (Below.agree (by assumption))) okC hn0.out hlen.out hV.out (now' := 0) hVn.out (len' := s1) hVl.out rfl).mono ?_; rintro e w6 ⟨A4, c4, A5, c5, rfl, hs4, hs5, hb4⟩; have hk6 := bc _ _ (by assumption) hb4; have hz6 := hk6.size; have hlg := Nat.lt_of_lt_of_le hglt hz6; obtain ⟨hc4, hf4⟩ := kcell hk6; obtain ⟨hd4, hdf4⟩ := bcell hb4; obtain ⟨b6, o6, B6, d6, rfl, hSb6, hb6, v0, v1, v2, v3, -⟩ := pk_at (p := capP i) (i := 0) hs5 rfl; simp only [Nat.zero_mul, Nat.add_zero] at v0 v1 v2 v3; replace v0 : w6.cell? ⟨b6, o6, none⟩ = some (.int .i64 (i : Int)) := v0))
          all_goals
            go_wp2_with fail
            have hS6 : (b6 ≠ w2.heap.size ∧ b6 < wr.heap.size) ∨ _ := hSb6
            simp at hS6
            try have hq1 : b6 ≠ w4.heap.size := by omega
            try have hq2 : b6 ≠ w4.heap.size + 1 := by omega
            try have hp1 : w4.heap.size ≠ b6 := by omega
            try have hp2 : w4.heap.size + 1 ≠ b6 := by omega
            clear rc ba bc br hS6
            go_quiet (fail)
            go_wp2_with fail
            go_ret
            exact ⟨rfl, hbw.trans (Below.mono (by repeat' (first | with_reducible exact Below.refl _ _ | with_reducible assumption | with_reducible refine Below.setCell ?_ ?_ _ | with_reducible refine Below.drew ?_ | with_reducible refine below_drewN ?_ _ | with_reducible refine Below.alloc ?_ ?_ _ | (rintro _ ⟨⟩; simp <;> omega) | omega | (simp <;> omega))) hbw.size)⟩
      · have e0 : (508 : Int) + (m : Int) = (s1 : Int) + 1 := by omega
        have e1 : ¬ (512 : Int) < (s1 : Int) + 1 := by omega
        have e2 : (512 : Int) < (s1 : Int) + 1 + 1 := by omega
        have e3 : ((s1 : Int) + 1 == 0) = false := by rw [beq_eq_false_iff_ne]; omega
        have e4 : ¬ (s1 : Int) + 1 = 0 := by omega
        have e5 : 0 < (s1 : Int) + 1 := by omega
        have e6 : 0 ≤ (s1 : Int) := by omega
        have ew : IntKind.i64.wrap ((s1 : Int) + 1 - 1) = s1 := by rw [IntKind.wrap_i64]; omega
        have e7 : (s1 : Int) + 1 ≤ 512 := by omega
        have hw : IntKind.i64.wrap (an : Int) = an := by rw [IntKind.wrap_i64]; omega
        have hr3 : (an : Int).tmod ((s1 : Int) + 1) = (i : Int) := hr
        have hr4 : (an : Int) % ((s1 : Int) + 1) = (i : Int) := hr2
        have n1 : ((s1 : Int) + 1 != 512) = false := by simp; omega
        replace hDl : Hid ((withF n (capP i)).way.length = s1 + 1) := by have := hDl.out; show _ = _; omega
        replace hVl : Hid ((withoutF n i).way.length = s1) := by have := hVl.out; show _ = _; omega
        clear hr hr2 hsz hi' hj hj1 hlt hc
        go_wp2_with fail
        go_region_held3 (fun X => Below wr.heap.size wr X) (repeat' (first | with_reducible assumption | with_reducible refine Below.drew ?_ | with_reducible refine Below.alloc ?_ ?_ _ | with_reducible refine Below.setCell ?_ ?_ _ | (simp; done) | omega | (simp <;> omega)))
          (first | (go_at_call 13; refine (applyS (S := fun b => b ≠ w2.heap.size ∧ b < wr.heap.size) (n := n) _ ((hs'.out.old).keep (Below.agree (by assumption))) okC hn0.out hlen.out hD.out (now' := 0) hDn.out (len' := s1 + 1) hDl.out rfl).mono ?_; rintro e w4 ⟨A4, c4, A5, c5, rfl, hs4, hs5, hb4⟩; have hk4 := bc _ _ (by assumption) hb4; have hz4 := hk4.size; have hlg := Nat.lt_of_lt_of_le hglt hz4; obtain ⟨hc4, hf4⟩ := kcell hk4; obtain ⟨hd4, hdf4⟩ := bcell hb4))
        all_goals
          go_wp2_with fail
          go_region_held3 (fun X => Below wr.heap.size wr X) (repeat' (first | with_reducible assumption | with_reducible refine Below.drew ?_ | with_reducible refine Below.alloc ?_ ?_ _ | with_reducible refine Below.setCell ?_ ?_ _ | (simp; done) | omega | (simp <;> omega)))
            (first | (go_at_call 13; refine (applyS (S := fun b => b ≠ w2.heap.size ∧ b < wr.heap.size) (n := n) _ ((hs'.out.old).keep (Below.agree (by assumption))) okC hn0.out hlen.out hV.out (now' := 0) hVn.out (len' := s1) hVl.out rfl).mono ?_; rintro e w6 ⟨A4, c4, A5, c5, rfl, hs4, hs5, hb4⟩; have hk6 := bc _ _ (by assumption) hb4; have hz6 := hk6.size; have hlg := Nat.lt_of_lt_of_le hglt hz6; obtain ⟨hc4, hf4⟩ := kcell hk6; obtain ⟨hd4, hdf4⟩ := bcell hb4; obtain ⟨b6, o6, B6, d6, rfl, hSb6, hb6, v0, v1, v2, v3, -⟩ := pk_at (p := capP i) (i := 0) hs5 rfl; simp only [Nat.zero_mul, Nat.add_zero] at v0 v1 v2 v3; replace v0 : w6.cell? ⟨b6, o6, none⟩ = some (.int .i64 (i : Int)) := v0))
          all_goals
            go_wp2_with fail
            have hS6 : (b6 ≠ w2.heap.size ∧ b6 < wr.heap.size) ∨ _ := hSb6
            simp at hS6
            try have hq1 : b6 ≠ w4.heap.size := by omega
            try have hq2 : b6 ≠ w4.heap.size + 1 := by omega
            try have hp1 : w4.heap.size ≠ b6 := by omega
            try have hp2 : w4.heap.size + 1 ≠ b6 := by omega
            clear rc ba bc br hS6
            go_quiet (fail)
            go_wp2_with fail
            go_ret
            exact ⟨rfl, hbw.trans (Below.mono (by repeat' (first | with_reducible exact Below.refl _ _ | with_reducible assumption | with_reducible refine Below.setCell ?_ ?_ _ | with_reducible refine Below.drew ?_ | with_reducible refine below_drewN ?_ _ | with_reducible refine Below.alloc ?_ ?_ _ | (rintro _ ⟨⟩; simp <;> omega) | omega | (simp <;> omega))) hbw.size)⟩
      · obtain ⟨q, hq⟩ : ∃ q, (508 : Int) + (m : Int) = q := ⟨_, rfl⟩
        have e0 : (512 : Int) < q := by omega
        have n1 : ((s1 : Int) + 1 != 512) = false := by simp; omega
        have n2 : ((s1 : Int) == 511) = true := by simp; omega
        have e6 : 0 ≤ (s1 : Int) := by omega
        have hw : IntKind.i64.wrap (an : Int) = an := by rw [IntKind.wrap_i64]; omega
        have hr3 : (an : Int).tmod 512 = (i : Int) := by rw [← hr]; congr 1; omega
        have hr4 : (an : Int) % 512 = (i : Int) := by rw [← hr2]; congr 1; omega
        replace hDl : Hid ((withF n (capP i)).way.length = s1 + 1) := by have := hDl.out; show _ = _; omega
        replace hVl : Hid ((withoutF n i).way.length = s1) := by have := hVl.out; show _ = _; omega
        clear hr hr2 hsz hi' hj hj1 hlt hc
        go_wp2_with fail
        go_region_held3 (fun X => Below wr.heap.size wr X) (repeat' (first | with_reducible assumption | with_reducible refine Below.drew ?_ | with_reducible refine Below.alloc ?_ ?_ _ | with_reducible refine Below.setCell ?_ ?_ _ | (simp; done) | omega | (simp <;> omega)))
          (first | (go_at_call 13; refine (applyS (S := fun b => b ≠ w2.heap.size ∧ b < wr.heap.size) (n := n) _ ((hs'.out.old).keep (Below.agree (by assumption))) okC hn0.out hlen.out hD.out (now' := 0) hDn.out (len' := s1 + 1) hDl.out rfl).mono ?_; rintro e w4 ⟨A4, c4, A5, c5, rfl, hs4, hs5, hb4⟩; have hk4 := bc _ _ (by assumption) hb4; have hz4 := hk4.size; have hlg := Nat.lt_of_lt_of_le hglt hz4; obtain ⟨hc4, hf4⟩ := kcell hk4; obtain ⟨hd4, hdf4⟩ := bcell hb4))
        all_goals
          go_wp2_with fail
          go_region_held3 (fun X => Below wr.heap.size wr X) (repeat' (first | with_reducible assumption | with_reducible refine Below.drew ?_ | with_reducible refine Below.alloc ?_ ?_ _ | with_reducible refine Below.setCell ?_ ?_ _ | (simp; done) | omega | (simp <;> omega)))
            (first | (go_at_call 13; refine (applyS (S := fun b => b ≠ w2.heap.size ∧ b < wr.heap.size) (n := n) _ ((hs'.out.old).keep (Below.agree (by assumption))) okC hn0.out hlen.out hV.out (now' := 0) hVn.out (len' := s1) hVl.out rfl).mono ?_; rintro e w6 ⟨A4, c4, A5, c5, rfl, hs4, hs5, hb4⟩; have hk6 := bc _ _ (by assumption) hb4; have hz6 := hk6.size; have hlg := Nat.lt_of_lt_of_le hglt hz6; obtain ⟨hc4, hf4⟩ := kcell hk6; obtain ⟨hd4, hdf4⟩ := bcell hb4; obtain ⟨b6, o6, B6, d6, rfl, hSb6, hb6, v0, v1, v2, v3, -⟩ := pk_at (p := capP i) (i := 0) hs5 rfl; simp only [Nat.zero_mul, Nat.add_zero] at v0 v1 v2 v3; replace v0 : w6.cell? ⟨b6, o6, none⟩ = some (.int .i64 (i : Int)) := v0))
          all_goals
            go_wp2_with fail
            have hS6 : (b6 ≠ w2.heap.size ∧ b6 < wr.heap.size) ∨ _ := hSb6
            simp at hS6
            try have hq1 : b6 ≠ w4.heap.size := by omega
            try have hq2 : b6 ≠ w4.heap.size + 1 := by omega
            try have hp1 : w4.heap.size ≠ b6 := by omega
            try have hp2 : w4.heap.size + 1 ≠ b6 := by omega
            clear rc ba bc br hS6
            go_quiet (fail)
            go_wp2_with fail
            go_ret
            exact ⟨rfl, hbw.trans (Below.mono (by repeat' (first | with_reducible exact Below.refl _ _ | with_reducible assumption | with_reducible refine Below.setCell ?_ ?_ _ | with_reducible refine Below.drew ?_ | with_reducible refine below_drewN ?_ _ | with_reducible refine Below.alloc ?_ ?_ _ | (rintro _ ⟨⟩; simp <;> omega) | omega | (simp <;> omega))) hbw.size)⟩

theorem walk_NetworkCapacity {k a : Int} (w : World) (hk : (Lit.int .u8 k).wf = true) (ha : (Lit.int .u16 a).wf = true) :
    Calls Try.prog 6 #[.int .u8 k, .int .u16 a] w fun e w' => e = .returned (.bool true) ∧ Below w.heap.size w w' := by
  have h1 : IntKind.u8.min = 0 := by decide
  have h2 : IntKind.u8.max = 255 := by decide
  have h3 : IntKind.u16.min = 0 := by decide
  have h4 : IntKind.u16.max = 65535 := by decide
  simp only [Lit.wf, h1, h2, h3, h4, Bool.and_eq_true, decide_eq_true_eq] at hk ha
  exact capacity_any k a w (by omega) (by omega) (by omega) (by omega)
end Go.Proofs.Ytmaaniogcmlfbaa
