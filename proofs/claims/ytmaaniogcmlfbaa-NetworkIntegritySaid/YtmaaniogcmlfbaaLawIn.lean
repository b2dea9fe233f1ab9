/-
  The law 'NetworkIntegrity', walked: it returns true for every input, and nothing that existed changes. No condition.
-/
import Derived.Test.YtmaaniogcmlfbaaRun4
import Derived.Test.YtmaaniogcmlfbaaNet24
namespace Go.Proofs.Ytmaaniogcmlfbaa
open Go.RowKit

theorem opsT : SlT Try.prog 22 34 opE 80 := ⟨Try.underlying22, by kernel_rfl, by decide⟩
def calmL (l : List NOp) : List NOp := l.filter calmB
def dblL (l : List NOp) : Bool := l.any dblB
theorem calmL_take {l : List NOp} {j : Nat} {o : NOp} (h : l[j]? = some o) : calmL (l.take (j + 1)) = calmL (l.take j) ++ (if calmB o then [o] else []) := by
  rw [take_snoc' h]; simp only [calmL, List.filter_append, List.filter_cons, List.filter_nil]
theorem dblL_take {l : List NOp} {j : Nat} {o : NOp} (h : l[j]? = some o) : dblL (l.take (j + 1)) = (dblL (l.take j) || dblB o) := by
  rw [take_snoc' h]; simp [dblL]
theorem calmL_len (l : List NOp) : (calmL l).length ≤ l.length := List.length_filter_le _ _

theorem opE_shutB {S : Nat → Prop} {w : World} {o : NOp} {B : Option Addr} {d : Nat} {sd : Bool} (hsd : o.send = sd) (h : Sl .u8 S w B d o.p.b) :
    opE.rep S w [.int .i64 o.kd, .int .i64 o.at_, .int .i64 o.by_, .int .i64 o.p.fr, .int .i64 o.p.to_, .int .i64 o.p.at_, .slice B o.p.b.length d, .bool sd] o := by subst hsd; exact opE_shut h
def alikeB (q t : Pk) : Bool := (t.fr == q.fr) && ((t.to_ == q.to_) && (t.b == q.b))
theorem alikeB_of {q t : Pk} (h : Alike t q) : alikeB q t = true := by obtain ⟨h1, h2, h3⟩ := h; simp [alikeB, h1, h2, h3]
def anyA (q : Pk) (ts : List Pk) : Bool := ts.any (alikeB q)
theorem anyA_take {q : Pk} {ts : List Pk} {k : Nat} {t : Pk} (h : ts[k]? = some t) : anyA q (ts.take (k + 1)) = (anyA q (ts.take k) || alikeB q t) := by
  rw [take_snoc' h]; simp [anyA]
/-- The operations kept so far, in a slice of the call's own. -/
def CalmR (w : World) (B : Nat) (cs : List NOp) (v : Value) (wr : World) : Prop :=
  ∃ F, (∀ b, F b → b < wr.heap.size) ∧ (∀ k, v.ownBlock = some k → ¬ F k) ∧ (∀ b, b < w.heap.size → F b) ∧ Own opE F wr B 34 v cs ∧ Below w.heap.size w wr ∧ w.heap.size ≤ B ∧ B ≤ wr.heap.size

theorem gcellB {W w6 : World} {row : Option Nat} {B N : Nat} (hg : W.grownBy w6 row) (lo : ∀ k, row = some k → B ≤ k ∧ k < N) (hB : B ≤ W.heap.size) : ∀ b o, b < B → w6.cell? ⟨b, o, none⟩ = W.cell? ⟨b, o, none⟩ :=
  fun b o h => World.cell?_of_block (hg.block b (by omega) (fun e => by have := (lo b e.symm).1; omega))
theorem CalmR.app {w wr w6 : World} {B : Nat} {cs : List NOp} {v v' : Value} {F : Nat → Prop} {o : NOp} (lt : ∀ b, F b → b < wr.heap.size) (nF : ∀ k, v.ownBlock = some k → ¬ F k) (hw : ∀ b, b < w.heap.size → F b) (hbw : Below w.heap.size w wr) (hB : w.heap.size ≤ B) (hB2 : B ≤ wr.heap.size) (lo : ∀ k, v.ownBlock = some k → B ≤ k ∧ k < wr.heap.size)
    {cells : Array Value} {e : TypeId} (ho : Own opE (fun b => F b ∨ b = wr.heap.size) w6 B 34 v' (cs ++ [o])) (hg : (wr.alloc (.cells cells e)).grownBy w6 v.ownBlock) (hor : ∀ k, v'.ownBlock = some k → v.ownBlock = some k ∨ (wr.alloc (.cells cells e)).heap.size = k) : CalmR w B (cs ++ [o]) v' w6 := by
  have hz := hg.size
  simp at hz
  refine ⟨fun b => F b ∨ b = wr.heap.size, ?_, ?_, fun b hb => .inl (hw b hb), ho, ?_, hB, by omega⟩
  · rintro b (h | h)
    · have := lt b h; omega
    · omega
  · rintro k hk (h | h)
    · rcases hor k hk with h1 | h1
      · exact nF k h1 h
      · have := lt k h; simp at h1; omega
    · rcases hor k hk with h1 | h1
      · have := (lo k h1).2; omega
      · simp at h1; omega
  · exact (hbw.alloc hbw.size _).grown hg (by simp; have := hbw.size; omega) (fun k hk => by have := (lo k hk).1; omega)

set_option maxRecDepth 100000 in
set_option maxHeartbeats 8000000 in
theorem walk_NetworkIntegrity {A : Option Addr} {c : Nat} {l : List NOp} (w : World) (h : Sl opE (fun _ => True) w A c l) :
    Calls Try.prog 4 #[.slice A l.length c] w fun e w' => e = .returned (.bool true) ∧ Below w.heap.size w w' := by
  have hm := h.max
  have hL := Lib.hid (h.old.sub (T := fun b => b < w.heap.size) fun b hb _ => hb.2)
  clear h
  go_enter Try.func4, Try.ntmps4
  go_wp2_with (go_at_call 9; refine (sanity_true _).mono ?_; rintro e w1 ⟨rfl, hb1⟩)
  have hz1 := hb1.size
  have hb1' := Lib.hid hb1
  clear hb1
  go_loopw [4, 5, 6] (fun v4 v5 v6 wr => ∃ (j : Nat) (dv : Bool), j ≤ l.length ∧ j ≤ 40 ∧ v6 = .int .i64 j ∧ v5 = .bool dv ∧ dv = dblL (l.take j) ∧ CalmR w w1.heap.size (calmL (l.take j)) v4 wr) (fun _ _ v6 _ => 40 - (intOf v6).toNat)
  case atStart =>
    exact ⟨0, false, Nat.zero_le _, by omega, rfl, rfl, rfl, fun b => b < w.heap.size, fun b hb => by simp; omega, by rintro k ⟨⟩ h; simp at h; omega, fun b hb => hb, Own.lit0 _ _ _ _ (Nat.le_refl _), hb1'.out.alloc hz1 _, hz1, by simp⟩
  case round =>
    obtain ⟨j, dv, hj, hj40, rfl, rfl, hdv, F, lt, nF, hwF, hown, hbw, hB, hB2⟩ := hrel
    have hcl := calmL_len (l.take j)
    have htk : (l.take j).length ≤ j := List.length_take_le _ _
    by_cases hgo : j < l.length ∧ j < 40
    · obtain ⟨hlt, h40⟩ := hgo
      obtain ⟨o, ho⟩ : ∃ o, l[j]? = some o := ⟨_, List.getElem?_eq_getElem hlt⟩
      have hT := Lib.hid (calmL_take ho)
      have hD := dblL_take ho
      rw [← hdv] at hD
      have hD' := Lib.hid hD
      clear hD hdv
      generalize calmL (l.take j) = cs at *
      obtain ⟨b1, f1, B1, d1, rfl, hSb, hb1, x0, x1, x2, x3, x4, x5, x6, x7, hs1⟩ := op_at (hL.out.keep (Below.agree hbw)) ho
      obtain ⟨A4, c4, rfl, -⟩ := hown.form
      have lo := hown.lt
      have hs1' := Lib.hid hs1
      have ho' := Lib.hid ho
      have hown' := Lib.hid hown
      clear hs1 ho hown
      have hj0 : (0 : Int) ≤ (j : Int) := by omega
      have hj1 : (j : Int) < (l.length : Int) := by omega
      have hj2 : (j : Int) < 40 := by omega
      have hb1w : b1 < w1.heap.size := by have : b1 < w.heap.size := hSb; omega
      cases hsd : o.send with
      | true =>
        rw [hsd] at x7
        cases dv with
        | false =>
          go_wp2_with (at_builtin; refine wpList_append_E (S := fun b => F b ∨ b = wr.heap.size) rfl (.tmp 39) (.tmp 44) rfl opsT (base := w1.heap.size) (v := .slice A4 cs.length c4) (xs := cs) (ys := [o]) (by rfl) (by rfl) rfl (nz := cs.length + 1) (by simp) ((hown'.out.sub fun b hb _ => .inl hb).alloc _) (Sl.lit (S := fun b => F b ∨ b = wr.heap.size) (.single (opE_shutB hsd (hs1'.out.sub fun b hb _ => .inl (hwF b hb)))) (by unfold maxLen; simp) (fun _ hb _ => hb) (.inr rfl)) (by unfold maxLen; simp; omega) (by simp; omega) (by simp; omega) (fun g hg hf => (by rcases hf with hf | hf; exact nF g hg hf; have := (lo g hg).2; omega)) ?_; intro A8 c8 w6 hown6 hg6 hor6; have hc6 := gcellB hg6 lo (by simp; omega))
          go_roundw
          case rel =>
            refine ⟨j + 1, false, by omega, by omega, by go_num, rfl, by rw [hD'.out]; simp [dblB, hsd], ?_⟩
            have e : calmL (l.take (j + 1)) = cs ++ [o] := by rw [hT.out, if_pos (by simp [calmB, hsd])]
            rw [e]
            exact CalmR.app lt nF hwF hbw hB hB2 lo hown6 hg6 hor6
          case measure => simp [intOf]; omega
        | true =>
          go_wp2_with (at_builtin; refine wpList_append_E (S := fun b => F b ∨ b = wr.heap.size) rfl (.tmp 39) (.tmp 44) rfl opsT (base := w1.heap.size) (v := .slice A4 cs.length c4) (xs := cs) (ys := [o]) (by rfl) (by rfl) rfl (nz := cs.length + 1) (by simp) ((hown'.out.sub fun b hb _ => .inl hb).alloc _) (Sl.lit (S := fun b => F b ∨ b = wr.heap.size) (.single (opE_shutB hsd (hs1'.out.sub fun b hb _ => .inl (hwF b hb)))) (by unfold maxLen; simp) (fun _ hb _ => hb) (.inr rfl)) (by unfold maxLen; simp; omega) (by simp; omega) (by simp; omega) (fun g hg hf => (by rcases hf with hf | hf; exact nF g hg hf; have := (lo g hg).2; omega)) ?_; intro A8 c8 w6 hown6 hg6 hor6; have hc6 := gcellB hg6 lo (by simp; omega))
          go_roundw
          case rel =>
            refine ⟨j + 1, true, by omega, by omega, by go_num, rfl, by rw [hD'.out]; simp [dblB, hsd], ?_⟩
            have e : calmL (l.take (j + 1)) = cs ++ [o] := by rw [hT.out, if_pos (by simp [calmB, hsd])]
            rw [e]
            exact CalmR.app lt nF hwF hbw hB hB2 lo hown6 hg6 hor6
          case measure => simp [intOf]; omega
      | false =>
        rw [hsd] at x7
        by_cases hk4 : o.kd = 4
        · have k4 : (o.kd == 4) = true := by simpa using hk4
          have k4n : (o.kd != 4) = false := by simpa using hk4
          go_wp2_with fail
          go_roundw
          case rel =>
            refine ⟨j + 1, dv, by omega, by omega, by go_num, rfl, by rw [hD'.out]; simp [dblB, hsd, hk4], ?_⟩
            have e : calmL (l.take (j + 1)) = cs := by rw [hT.out, if_neg (by simp [calmB, hsd, hk4])]; simp
            rw [e]
            exact ⟨F, lt, nF, hwF, hown'.out, hbw, hB, hB2⟩
          case measure => simp [intOf]; omega
        · have k4 : (o.kd == 4) = false := by simpa using hk4
          have k4n : (o.kd != 4) = true := by simpa using hk4
          by_cases hk3 : o.kd = 3
          · have k3 : (o.kd == 3) = true := by simpa using hk3
            have Hk3 := Lib.hid hk3
            clear hk3
            cases dv with
            | false =>
              go_wp2_with (at_builtin; refine wpList_append_E (S := fun b => F b ∨ b = wr.heap.size) rfl (.tmp 39) (.tmp 44) rfl opsT (base := w1.heap.size) (v := .slice A4 cs.length c4) (xs := cs) (ys := [o]) (by rfl) (by rfl) rfl (nz := cs.length + 1) (by simp) ((hown'.out.sub fun b hb _ => .inl hb).alloc _) (Sl.lit (S := fun b => F b ∨ b = wr.heap.size) (.single (opE_shutB hsd (hs1'.out.sub fun b hb _ => .inl (hwF b hb)))) (by unfold maxLen; simp) (fun _ hb _ => hb) (.inr rfl)) (by unfold maxLen; simp; omega) (by simp; omega) (by simp; omega) (fun g hg hf => (by rcases hf with hf | hf; exact nF g hg hf; have := (lo g hg).2; omega)) ?_; intro A8 c8 w6 hown6 hg6 hor6; have hc6 := gcellB hg6 lo (by simp; omega))
              go_roundw
              case rel =>
                refine ⟨j + 1, true, by omega, by omega, by go_num, rfl, by rw [hD'.out]; simp [dblB, hsd, Hk3.out], ?_⟩
                have e : calmL (l.take (j + 1)) = cs ++ [o] := by rw [hT.out, if_pos (by simp [calmB, hsd, Hk3.out])]
                rw [e]
                exact CalmR.app lt nF hwF hbw hB hB2 lo hown6 hg6 hor6
              case measure => simp [intOf]; omega
            | true =>
              go_wp2_with (at_builtin; refine wpList_append_E (S := fun b => F b ∨ b = wr.heap.size) rfl (.tmp 39) (.tmp 44) rfl opsT (base := w1.heap.size) (v := .slice A4 cs.length c4) (xs := cs) (ys := [o]) (by rfl) (by rfl) rfl (nz := cs.length + 1) (by simp) ((hown'.out.sub fun b hb _ => .inl hb).alloc _) (Sl.lit (S := fun b => F b ∨ b = wr.heap.size) (.single (opE_shutB hsd (hs1'.out.sub fun b hb _ => .inl (hwF b hb)))) (by unfold maxLen; simp) (fun _ hb _ => hb) (.inr rfl)) (by unfold maxLen; simp; omega) (by simp; omega) (by simp; omega) (fun g hg hf => (by rcases hf with hf | hf; exact nF g hg hf; have := (lo g hg).2; omega)) ?_; intro A8 c8 w6 hown6 hg6 hor6; have hc6 := gcellB hg6 lo (by simp; omega))
              go_roundw
              case rel =>
                refine ⟨j + 1, true, by omega, by omega, by go_num, rfl, by rw [hD'.out]; simp [dblB, hsd, Hk3.out], ?_⟩
                have e : calmL (l.take (j + 1)) = cs ++ [o] := by rw [hT.out, if_pos (by simp [calmB, hsd, Hk3.out])]
                rw [e]
                exact CalmR.app lt nF hwF hbw hB hB2 lo hown6 hg6 hor6
              case measure => simp [intOf]; omega
          · have k3 : (o.kd == 3) = false := by simpa using hk3
            cases dv with
            | false =>
              go_wp2_with (at_builtin; refine wpList_append_E (S := fun b => F b ∨ b = wr.heap.size) rfl (.tmp 39) (.tmp 44) rfl opsT (base := w1.heap.size) (v := .slice A4 cs.length c4) (xs := cs) (ys := [o]) (by rfl) (by rfl) rfl (nz := cs.length + 1) (by simp) ((hown'.out.sub fun b hb _ => .inl hb).alloc _) (Sl.lit (S := fun b => F b ∨ b = wr.heap.size) (.single (opE_shutB hsd (hs1'.out.sub fun b hb _ => .inl (hwF b hb)))) (by unfold maxLen; simp) (fun _ hb _ => hb) (.inr rfl)) (by unfold maxLen; simp; omega) (by simp; omega) (by simp; omega) (fun g hg hf => (by rcases hf with hf | hf; exact nF g hg hf; have := (lo g hg).2; omega)) ?_; intro A8 c8 w6 hown6 hg6 hor6; have hc6 := gcellB hg6 lo (by simp; omega))
              go_roundw
              case rel =>
                refine ⟨j + 1, false, by omega, by omega, by go_num, rfl, by rw [hD'.out]; simp [dblB, hsd, hk3], ?_⟩
                have e : calmL (l.take (j + 1)) = cs ++ [o] := by rw [hT.out, if_pos (by simp [calmB, hsd, hk4])]
                rw [e]
                exact CalmR.app lt nF hwF hbw hB hB2 lo hown6 hg6 hor6
              case measure => simp [intOf]; omega
            | true =>
              go_wp2_with (at_builtin; refine wpList_append_E (S := fun b => F b ∨ b = wr.heap.size) rfl (.tmp 39) (.tmp 44) rfl opsT (base := w1.heap.size) (v := .slice A4 cs.length c4) (xs := cs) (ys := [o]) (by rfl) (by rfl) rfl (nz := cs.length + 1) (by simp) ((hown'.out.sub fun b hb _ => .inl hb).alloc _) (Sl.lit (S := fun b => F b ∨ b = wr.heap.size) (.single (opE_shutB hsd (hs1'.out.sub fun b hb _ => .inl (hwF b hb)))) (by unfold maxLen; simp) (fun _ hb _ => hb) (.inr rfl)) (by unfold maxLen; simp; omega) (by simp; omega) (by simp; omega) (fun g hg hf => (by rcases hf with hf | hf; exact nF g hg hf; have := (lo g hg).2; omega)) ?_; intro A8 c8 w6 hown6 hg6 hor6; have hc6 := gcellB hg6 lo (by simp; omega))
              go_roundw
              case rel =>
                refine ⟨j + 1, true, by omega, by omega, by go_num, rfl, by rw [hD'.out]; simp [dblB, hsd], ?_⟩
                have e : calmL (l.take (j + 1)) = cs ++ [o] := by rw [hT.out, if_pos (by simp [calmB, hsd, hk4])]
                rw [e]
                exact CalmR.app lt nF hwF hbw hB hB2 lo hown6 hg6 hor6
              case measure => simp [intOf]; omega
    · by_cases hlt : j < l.length
      · skip
        have h40 : ¬ (j : Int) < 40 := by omega
        have hj1 : (j : Int) < (l.length : Int) := by omega
        clear hgo
        have hcs : (calmL (l.take j)).length ≤ 40 := by omega
        have hcm := run3_calm (calmL (l.take j)) (fun o ho => (List.mem_filter.1 ho).2)
        have hfew : dv = true ∨ (run3 (calmL (l.take j))).2.2.length ≤ (run3 (calmL (l.take j))).2.1.length := by
          cases dv with
          | true => exact .inl rfl
          | false =>
            refine .inr (run3_few _ (fun o ho => ?_))
            have h1 := (List.mem_filter.1 ho).1
            have h2 : dblL (l.take j) = false := hdv.symm
            simp only [dblL, List.any_eq_false] at h2
            simpa using h2 o h1
        obtain ⟨A4, c4, rfl, -⟩ := hown.form
        have hsl : Sl opE (fun _ => True) wr A4 c4 (calmL (l.take j)) := hown.toSl (fun _ _ _ => trivial) (fun _ _ _ _ => trivial)
        have ok3 := run3_ok (calmL (l.take j))
        rw [← List.take_of_length_le (l := calmL (l.take j)) (i := 40) hcs] at hcm hfew ok3
        have hl1 := Nat.le_trans ok3.sent (List.length_take_le 40 _)
        have hl2 := Nat.le_trans ok3.got (List.length_take_le 40 _)
        have hcalm := hcm.got
        have hsl' := Lib.hid hsl
        have hbw' := Lib.hid hbw
        clear hcm hdv hown hsl ok3 lt nF hwF htk hcl
        generalize calmL (l.take j) = cs at *
        go_wp2_with (go_at_call 14; refine (run3L (S := fun _ => True) (l := cs) _ hsl'.out).mono ?_; rintro e w3 ⟨A1, c1, A2, c2, A3, c3, rfl, hs1, hs2, hs3, hb3⟩)
        generalize run3 (cs.take 40) = s at *
        have hs2' := Lib.hid hs2
        have hs3' := Lib.hid hs3
        have hz3 := hb3.size
        have hb03 := Lib.hid (hbw'.out.trans (hb3.mono hbw'.out.size))
        have hcalm' := Lib.hid hcalm
        have hfew' := Lib.hid hfew
        clear hs1 hs2 hs3 hb3 hcalm hfew
        go_loopw [10] (fun v10 wr2 => ∃ i : Nat, i ≤ s.2.2.length ∧ v10 = .int .i64 i ∧ Below w3.heap.size w3 wr2) (fun v10 _ => s.2.2.length - (intOf v10).toNat)
        case atStart => exact ⟨0, Nat.zero_le _, rfl, (Below.refl _ _).alloc (Nat.le_refl _) _⟩
        case round =>
          obtain ⟨i, hi, rfl, hbi⟩ := hrel
          by_cases hil : i < s.2.2.length
          · have hi1 : (i : Int) < (s.2.2.length : Int) := by omega
            have hi0 : (0 : Int) ≤ (i : Int) := by omega
            obtain ⟨q, hq⟩ : ∃ q, s.2.2[i]? = some q := ⟨_, List.getElem?_eq_getElem hil⟩
            obtain ⟨t0, ht0, hal⟩ := hcalm'.out q (mem_of_get hq)
            have hall : Hid (anyA q s.2.1 = true) := Lib.hid (List.any_eq_true.2 ⟨t0, ht0, alikeB_of hal⟩)
            obtain ⟨b5, o5, B5, d5, rfl, -, hb5, q0, q1, q2, q3, q4⟩ := pk_at hs3'.out hq
            have q4' := Lib.hid q4
            have hq' := Lib.hid hq
            clear q4 hq ht0 hal
            go_wp2_with fail
            obtain ⟨wo, rfl⟩ : ∃ wo : World, wo = wr := ⟨_, rfl⟩
            go_loopw [11, 12] (fun v11 v12 wr2 => ∃ (k : Nat) (fv : Bool), k ≤ s.2.1.length ∧ v12 = .int .i64 k ∧ v11 = .bool fv ∧ fv = anyA q (s.2.1.take k) ∧ Below w3.heap.size w3 wr2) (fun _ v12 _ => s.2.1.length - (intOf v12).toNat)
            case atStart => exact ⟨0, false, Nat.zero_le _, rfl, rfl, rfl, hbi⟩
            case round =>
              obtain ⟨k, fv, hk, rfl, rfl, hfv, hbk⟩ := hrel
              by_cases hkl : k < s.2.1.length
              · obtain ⟨t, ht⟩ : ∃ t, s.2.1[k]? = some t := ⟨_, List.getElem?_eq_getElem hkl⟩
                have hft := Lib.hid (anyA_take (q := q) ht)
                have hfv' := Lib.hid hfv
                obtain ⟨b6, o6, B6, d6, rfl, -, hb6, t0, t1, t2, t3, t4⟩ := pk_at hs2'.out ht
                have t4' := Lib.hid t4
                clear t4 ht hfv
                have hk0 : (0 : Int) ≤ (k : Int) := by omega
                have hk1 : (k : Int) < (s.2.1.length : Int) := by omega
                have br : Below w3.heap.size w3 wr := hbk
                obtain ⟨rc, -⟩ := kcell hbk
                have cv1 : ∀ m, (convert 30 9 (.slice B6 t.b.length d6)).run Try.prog (wr.drewN m) = .ok (.string ⟨t.b.toArray⟩) (wr.drewN m) := fun m => convB t4'.out _ (Below.agree (below_drewN hbk m))
                have cv2 : ∀ m, (convert 30 9 (.slice B5 q.b.length d5)).run Try.prog (wr.drewN m) = .ok (.string ⟨q.b.toArray⟩) (wr.drewN m) := fun m => convB q4'.out _ (Below.agree (below_drewN hbk m))
                cases fv with
                | true =>
                  go_wp2_with fail
                  go_quiet (fail)
                  go_wp2_with fail
                  go_roundw
                  case rel => exact ⟨k + 1, true, by omega, by go_num, rfl, by rw [hft.out, ← hfv'.out]; rfl, below_drewN hbk _⟩
                  case measure => simp [intOf]; omega
                | false =>
                  by_cases e1 : t.fr = q.fr
                  · have e1' : (t.fr == q.fr) = true := by simpa using e1
                    by_cases e2 : t.to_ = q.to_
                    · have e2' : (t.to_ == q.to_) = true := by simpa using e2
                      by_cases e3 : t.b = q.b
                      · have ea : alikeB q t = true := by simp [alikeB, e1, e2, e3]
                        have Ea := Lib.hid ea
                        clear ea
                        have e3' : (t.b == q.b) = true := by simpa using e3
                        clear e1 e2 e3
                        go_wp2_with fail
                        go_quiet (fail)
                        go_wp2_with fail
                        go_roundw
                        case rel => exact ⟨k + 1, true, by omega, by go_num, rfl, by rw [hft.out, ← hfv'.out, Ea.out]; rfl, below_drewN hbk _⟩
                        case measure => simp [intOf]; omega
                      · have ea : alikeB q t = false := by simp [alikeB, e1, e2, e3]
                        have Ea := Lib.hid ea
                        clear ea
                        have e3' : (t.b == q.b) = false := by simpa using e3
                        clear e1 e2 e3
                        go_wp2_with fail
                        go_quiet (fail)
                        go_wp2_with fail
                        go_roundw
                        case rel => exact ⟨k + 1, false, by omega, by go_num, rfl, by rw [hft.out, ← hfv'.out, Ea.out]; rfl, below_drewN hbk _⟩
                        case measure => simp [intOf]; omega
                    · have e2' : (t.to_ == q.to_) = false := by simpa using e2
                      have ea : alikeB q t = false := by simp [alikeB, e1, e2]
                      have Ea := Lib.hid ea
                      clear ea
                      clear e1 e2
                      go_wp2_with fail
                      go_quiet (fail)
                      go_wp2_with fail
                      go_roundw
                      case rel => exact ⟨k + 1, false, by omega, by go_num, rfl, by rw [hft.out, ← hfv'.out, Ea.out]; rfl, below_drewN hbk _⟩
                      case measure => simp [intOf]; omega
                  · have e1' : (t.fr == q.fr) = false := by simpa using e1
                    have ea : alikeB q t = false := by simp [alikeB, e1]
                    have Ea := Lib.hid ea
                    clear ea
                    clear e1
                    go_wp2_with fail
                    go_quiet (fail)
                    go_wp2_with fail
                    go_roundw
                    case rel => exact ⟨k + 1, false, by omega, by go_num, rfl, by rw [hft.out, ← hfv'.out, Ea.out]; rfl, below_drewN hbk _⟩
                    case measure => simp [intOf]; omega
              · obtain rfl : k = s.2.1.length := by omega
                have hft : fv = true := by rw [hfv, List.take_length]; exact hall.out
                subst hft
                have hk1 : ¬ (s.2.1.length : Int) < (s.2.1.length : Int) := by omega
                clear hfv
                go_wp2_with fail
                go_roundw
                case rel => exact ⟨i + 1, by omega, by go_num, hbk⟩
                case measure => simp [intOf]; omega
          · have hi1 : ¬ (i : Int) < (s.2.2.length : Int) := by omega
            cases dv with
            | true =>
              go_wp2_with fail
              go_ret
              exact ⟨rfl, hb03.out.trans (hbi.mono hb03.out.size)⟩
            | false =>
              have hle : (s.2.2.length : Int) ≤ (s.2.1.length : Int) := by
                rcases hfew'.out with h | h
                · cases h
                · omega
              go_wp2_with fail
              go_ret
              exact ⟨rfl, hb03.out.trans (hbi.mono hb03.out.size)⟩
      · skip
        have hj1 : ¬ (j : Int) < (l.length : Int) := by omega
        clear hgo
        have hcs : (calmL (l.take j)).length ≤ 40 := by omega
        have hcm := run3_calm (calmL (l.take j)) (fun o ho => (List.mem_filter.1 ho).2)
        have hfew : dv = true ∨ (run3 (calmL (l.take j))).2.2.length ≤ (run3 (calmL (l.take j))).2.1.length := by
          cases dv with
          | true => exact .inl rfl
          | false =>
            refine .inr (run3_few _ (fun o ho => ?_))
            have h1 := (List.mem_filter.1 ho).1
            have h2 : dblL (l.take j) = false := hdv.symm
            simp only [dblL, List.any_eq_false] at h2
            simpa using h2 o h1
        obtain ⟨A4, c4, rfl, -⟩ := hown.form
        have hsl : Sl opE (fun _ => True) wr A4 c4 (calmL (l.take j)) := hown.toSl (fun _ _ _ => trivial) (fun _ _ _ _ => trivial)
        have ok3 := run3_ok (calmL (l.take j))
        rw [← List.take_of_length_le (l := calmL (l.take j)) (i := 40) hcs] at hcm hfew ok3
        have hl1 := Nat.le_trans ok3.sent (List.length_take_le 40 _)
        have hl2 := Nat.le_trans ok3.got (List.length_take_le 40 _)
        have hcalm := hcm.got
        have hsl' := Lib.hid hsl
        have hbw' := Lib.hid hbw
        clear hcm hdv hown hsl ok3 lt nF hwF htk hcl
        generalize calmL (l.take j) = cs at *
        go_wp2_with (go_at_call 14; refine (run3L (S := fun _ => True) (l := cs) _ hsl'.out).mono ?_; rintro e w3 ⟨A1, c1, A2, c2, A3, c3, rfl, hs1, hs2, hs3, hb3⟩)
        generalize run3 (cs.take 40) = s at *
        have hs2' := Lib.hid hs2
        have hs3' := Lib.hid hs3
        have hz3 := hb3.size
        have hb03 := Lib.hid (hbw'.out.trans (hb3.mono hbw'.out.size))
        have hcalm' := Lib.hid hcalm
        have hfew' := Lib.hid hfew
        clear hs1 hs2 hs3 hb3 hcalm hfew
        go_loopw [10] (fun v10 wr2 => ∃ i : Nat, i ≤ s.2.2.length ∧ v10 = .int .i64 i ∧ Below w3.heap.size w3 wr2) (fun v10 _ => s.2.2.length - (intOf v10).toNat)
        case atStart => exact ⟨0, Nat.zero_le _, rfl, (Below.refl _ _).alloc (Nat.le_refl _) _⟩
        case round =>
          obtain ⟨i, hi, rfl, hbi⟩ := hrel
          by_cases hil : i < s.2.2.length
          · have hi1 : (i : Int) < (s.2.2.length : Int) := by omega
            have hi0 : (0 : Int) ≤ (i : Int) := by omega
            obtain ⟨q, hq⟩ : ∃ q, s.2.2[i]? = some q := ⟨_, List.getElem?_eq_getElem hil⟩
            obtain ⟨t0, ht0, hal⟩ := hcalm'.out q (mem_of_get hq)
            have hall : Hid (anyA q s.2.1 = true) := Lib.hid (List.any_eq_true.2 ⟨t0, ht0, alikeB_of hal⟩)
            obtain ⟨b5, o5, B5, d5, rfl, -, hb5, q0, q1, q2, q3, q4⟩ := pk_at hs3'.out hq
            have q4' := Lib.hid q4
            have hq' := Lib.hid hq
            clear q4 hq ht0 hal
            go_wp2_with fail
            obtain ⟨wo, rfl⟩ : ∃ wo : World, wo = wr := ⟨_, rfl⟩
            go_loopw [11, 12] (fun v11 v12 wr2 => ∃ (k : Nat) (fv : Bool), k ≤ s.2.1.length ∧ v12 = .int .i64 k ∧ v11 = .bool fv ∧ fv = anyA q (s.2.1.take k) ∧ Below w3.heap.size w3 wr2) (fun _ v12 _ => s.2.1.length - (intOf v12).toNat)
            case atStart => exact ⟨0, false, Nat.zero_le _, rfl, rfl, rfl, hbi⟩
            case round =>
              obtain ⟨k, fv, hk, rfl, rfl, hfv, hbk⟩ := hrel
              by_cases hkl : k < s.2.1.length
              · obtain ⟨t, ht⟩ : ∃ t, s.2.1[k]? = some t := ⟨_, List.getElem?_eq_getElem hkl⟩
                have hft := Lib.hid (anyA_take (q := q) ht)
                have hfv' := Lib.hid hfv
                obtain ⟨b6, o6, B6, d6, rfl, -, hb6, t0, t1, t2, t3, t4⟩ := pk_at hs2'.out ht
                have t4' := Lib.hid t4
                clear t4 ht hfv
                have hk0 : (0 : Int) ≤ (k : Int) := by omega
                have hk1 : (k : Int) < (s.2.1.length : Int) := by omega
                have br : Below w3.heap.size w3 wr := hbk
                obtain ⟨rc, -⟩ := kcell hbk
                have cv1 : ∀ m, (convert 30 9 (.slice B6 t.b.length d6)).run Try.prog (wr.drewN m) = .ok (.string ⟨t.b.toArray⟩) (wr.drewN m) := fun m => convB t4'.out _ (Below.agree (below_drewN hbk m))
                have cv2 : ∀ m, (convert 30 9 (.slice B5 q.b.length d5)).run Try.prog (wr.drewN m) = .ok (.string ⟨q.b.toArray⟩) (wr.drewN m) := fun m => convB q4'.out _ (Below.agree (below_drewN hbk m))
                cases fv with
                | true =>
                  go_wp2_with fail
                  go_quiet (fail)
                  go_wp2_with fail
                  go_roundw
                  case rel => exact ⟨k + 1, true, by omega, by go_num, rfl, by rw [hft.out, ← hfv'.out]; rfl, below_drewN hbk _⟩
                  case measure => simp [intOf]; omega
                | false =>
                  by_cases e1 : t.fr = q.fr
                  · have e1' : (t.fr == q.fr) = true := by simpa using e1
                    by_cases e2 : t.to_ = q.to_
                    · have e2' : (t.to_ == q.to_) = true := by simpa using e2
                      by_cases e3 : t.b = q.b
                      · have ea : alikeB q t = true := by simp [alikeB, e1, e2, e3]
                        have Ea := Lib.hid ea
                        clear ea
                        have e3' : (t.b == q.b) = true := by simpa using e3
                        clear e1 e2 e3
                        go_wp2_with fail
                        go_quiet (fail)
                        go_wp2_with fail
                        go_roundw
                        case rel => exact ⟨k + 1, true, by omega, by go_num, rfl, by rw [hft.out, ← hfv'.out, Ea.out]; rfl, below_drewN hbk _⟩
                        case measure => simp [intOf]; omega
                      · have ea : alikeB q t = false := by simp [alikeB, e1, e2, e3]
                        have Ea := Lib.hid ea
                        clear ea
                        have e3' : (t.b == q.b) = false := by simpa using e3
                        clear e1 e2 e3
                        go_wp2_with fail
                        go_quiet (fail)
                        go_wp2_with fail
                        go_roundw
                        case rel => exact ⟨k + 1, false, by omega, by go_num, rfl, by rw [hft.out, ← hfv'.out, Ea.out]; rfl, below_drewN hbk _⟩
                        case measure => simp [intOf]; omega
                    · have e2' : (t.to_ == q.to_) = false := by simpa using e2
                      have ea : alikeB q t = false := by simp [alikeB, e1, e2]
                      have Ea := Lib.hid ea
                      clear ea
                      clear e1 e2
                      go_wp2_with fail
                      go_quiet (fail)
                      go_wp2_with fail
                      go_roundw
                      case rel => exact ⟨k + 1, false, by omega, by go_num, rfl, by rw [hft.out, ← hfv'.out, Ea.out]; rfl, below_drewN hbk _⟩
                      case measure => simp [intOf]; omega
                  · have e1' : (t.fr == q.fr) = false := by simpa using e1
                    have ea : alikeB q t = false := by simp [alikeB, e1]
                    have Ea := Lib.hid ea
                    clear ea
                    clear e1
                    go_wp2_with fail
                    go_quiet (fail)
                    go_wp2_with fail
                    go_roundw
                    case rel => exact ⟨k + 1, false, by omega, by go_num, rfl, by rw [hft.out, ← hfv'.out, Ea.out]; rfl, below_drewN hbk _⟩
                    case measure => simp [intOf]; omega
              · obtain rfl : k = s.2.1.length := by omega
                have hft : fv = true := by rw [hfv, List.take_length]; exact hall.out
                subst hft
                have hk1 : ¬ (s.2.1.length : Int) < (s.2.1.length : Int) := by omega
                clear hfv
                go_wp2_with fail
                go_roundw
                case rel => exact ⟨i + 1, by omega, by go_num, hbk⟩
                case measure => simp [intOf]; omega
          · have hi1 : ¬ (i : Int) < (s.2.2.length : Int) := by omega
            cases dv with
            | true =>
              go_wp2_with fail
              go_ret
              exact ⟨rfl, hb03.out.trans (hbi.mono hb03.out.size)⟩
            | false =>
              have hle : (s.2.2.length : Int) ≤ (s.2.1.length : Int) := by
                rcases hfew'.out with h | h
                · cases h
                · omega
              go_wp2_with fail
              go_ret
              exact ⟨rfl, hb03.out.trans (hbi.mono hb03.out.size)⟩
end Go.Proofs.Ytmaaniogcmlfbaa
