/-
  The law 'NetworkComposition', walked: it returns true for every input, and nothing that existed changes. No condition.
-/
import Derived.Test.YtmaaniogcmlfbaaRun4
import Derived.Test.YtmaaniogcmlfbaaLawMa
namespace Go.Proofs.Ytmaaniogcmlfbaa
open Go.RowKit

theorem evsT : SlT Try.prog 44 29 evE 24 := ⟨Try.underlying44, by kernel_rfl, by decide⟩
theorem samePacketsL {S T : Nat → Prop} {A B : Option Addr} {c d len : Nat} {ps : List Pk} (w : World) (hl : ps.length = len) (h : Sl pkE S w A c ps) (k : Sl pkE T w B d ps) :
    Calls Try.prog 18 #[.slice A len c, .slice B len d] w fun e w' => e = .returned (.bool true) ∧ Below w.heap.size w w' := by
  subst hl; exact samePackets_eq w h k
/-- The loop that copies the network: box g11 holds the tick and a slice of the call's own. -/
def CopyR (w3 : World) (B g11 : Nat) (now : Int) (ps : List Pk) (wr : World) : Prop :=
  ∃ F v, (∀ b, F b → b < wr.heap.size) ∧ (∀ k, v.ownBlock = some k → ¬ F k) ∧ ¬ F g11 ∧ Own pkE F wr B 32 v ps ∧ wr.heap[g11]? = some (.cells #[.int .i64 now, v] 26 (0, 0)) ∧
    w3.heap.size ≤ g11 ∧ g11 < B ∧ Below w3.heap.size w3 wr ∧ B ≤ wr.heap.size

set_option maxRecDepth 100000 in
set_option maxHeartbeats 8000000 in
theorem walk_NetworkComposition {A B C : Option Addr} {c d e' : Nat} {l : List NOp} {xs ys : List Ev} (w : World) (h : Sl opE (fun _ => True) w A c l) (h' : Sl evE (fun _ => True) w B d xs) (h'' : Sl evE (fun _ => True) w C e' ys) :
    Calls Try.prog 8 #[.slice A l.length c, .slice B xs.length d, .slice C ys.length e'] w fun e w' => e = .returned (.bool true) ∧ Below w.heap.size w w' := by
  have hm := h.max
  have ok3 := run3_ok (l.take 40)
  have hl := Lib.hid h
  have hx := Lib.hid h'
  have hy := Lib.hid h''
  clear h h' h''
  go_enter Try.func8, Try.ntmps8
  go_wp2_with (first
    | (go_at_call 9; refine (sanity_true _).mono ?_; rintro e w1 ⟨rfl, hb1⟩)
    | (go_at_call 14; refine (run3L (S := fun _ => True) (l := l) _ (hl.out.keep (Below.agree hb1))).mono ?_; rintro e w3 ⟨A1, c1, A2, c2, A3, c3, rfl, hs1, hs2, hs3, hb3⟩))
  have hl2 := Nat.le_trans ok3.got (List.length_take_le 40 _)
  have ok := ok3.ok
  have hgB := ok3.gotB
  clear ok3
  generalize run3 (l.take 40) = s at *
  have hs1' := Lib.hid hs1
  have hz1 := hb1.size
  have hz3 := hb3.size
  have hb03 := Lib.hid (hb1.trans (hb3.mono hb1.size))
  have hlen := ok.len
  clear hs1 hs2 hs3 hb1 hb3
  go_loopw [12] (fun v12 wr => ∃ j : Nat, j ≤ s.1.way.length ∧ v12 = .int .i64 j ∧ CopyR ((w3.alloc (.cells #[.int .i64 s.1.now, .slice A1 s.1.way.length c1] 26))) (w3.heap.size + 2) (w3.heap.size + 1) s.1.now (s.1.way.take j) wr) (fun v12 _ => s.1.way.length - (intOf v12).toNat)
  case atStart =>
    refine ⟨0, Nat.zero_le _, rfl, fun _ => False, .slice none 0 0, fun _ h => h.elim, fun _ _ h => h, fun h => h, Own.nil_ _ _ _ _ _, heap_alloc_at (by simp), by simp, by omega, (by repeat' (first | with_reducible exact Below.refl _ _ | with_reducible assumption | with_reducible refine Below.setCell ?_ ?_ _ | with_reducible refine Below.drew ?_ | with_reducible refine below_drewN ?_ _ | with_reducible refine Below.alloc ?_ ?_ _ | (rintro _ ⟨⟩; simp <;> omega) | omega | (simp <;> omega))), by simp⟩
  case round =>
    obtain ⟨j, hj, rfl, F, v, lt, nv, ng, hown, hg, hb1, hb2, hbw, hbB⟩ := hrel
    have hwr : Below w3.heap.size w3 wr := ((Below.refl _ _).alloc (Nat.le_refl _) _).trans (hbw.mono (by simp))
    have h8 : wr.heap[w3.heap.size]? = some (.cells #[.int .i64 s.1.now, .slice A1 s.1.way.length c1] 26 (0, 0)) := (hbw.block _ (by simp)).trans (heap_alloc_at rfl)
    have y0 := cell_of_row _ _ 0 _ _ _ h8
    have y1 := cell_of_row _ _ 1 _ _ _ h8
    simp only [List.getElem?_toArray, List.getElem?_cons_zero, List.getElem?_cons_succ] at y0 y1
    clear h8
    have hlt8 : w3.heap.size < wr.heap.size := by omega
    by_cases hlt : j < s.1.way.length
    · obtain ⟨p, hp⟩ : ∃ p, s.1.way[j]? = some p := ⟨_, List.getElem?_eq_getElem hlt⟩
      have hpb := ok.bytes p (mem_of_get hp)
      have hT := Lib.hid (take_snoc' hp)
      obtain ⟨A4, c4, rfl, -⟩ := hown.form
      have lo := hown.lt
      obtain ⟨b5, o5, B5, d5, rfl, -, hb5, q0, q1, q2, q3, q4⟩ := pk_at (hs1'.out.keep (Below.agree hwr)) hp
      have z0 := cell_of_row _ _ 0 _ _ _ hg
      have z1 := cell_of_row _ _ 1 _ _ _ hg
      simp only [List.getElem?_toArray, List.getElem?_cons_zero, List.getElem?_cons_succ] at z0 z1
      have f1 : wr.frozen? ⟨w3.heap.size + 1, 1, none⟩ = false := by simp [World.frozen?, hg]
      have hj0 : (0 : Int) ≤ (j : Int) := by omega
      have hj1 : (j : Int) < (s.1.way.length : Int) := by omega
      have hglt : w3.heap.size + 1 < wr.heap.size := by omega
      have q4' := Lib.hid q4
      have hg' := Lib.hid hg
      have hown' := Lib.hid hown
      have hlj : (s.1.way.take j).length ≤ 512 := by rw [List.length_take]; omega
      clear q4 hg hown hp
      generalize s.1.way.take j = ps at *
      have nF0 : ¬ F wr.heap.size := fun h => Nat.lt_irrefl _ (lt _ h)
      have nF1 : ¬ F (wr.heap.size + 1) := fun h => by have := lt _ h; omega
      go_wp2_with (first
        | (at_builtin; refine wpList_append_E (S := fun b => b < wr.heap.size) rfl (.tmp 46) (.tmp 48) rfl bytesT (base := wr.heap.size + 1) (v := .slice (some ⟨wr.heap.size + 1, 0, none⟩) 0 0) (xs := []) (ys := p.b) (by rfl) (by rfl) rfl (nz := p.b.length) (by simp) (Own.litAt _ _ _ _ (by simp) (Nat.le_refl _)) ((q4'.out.old.sub fun b hb _ => hb.2).keep (by repeat' (first | with_reducible exact Agree.refl _ _ | with_reducible assumption | with_reducible refine Agree.set ?_ ?_ _ | with_reducible refine Agree.alloc ?_ _ | with_reducible refine Agree.drew ?_ | with_reducible refine Agree.drewN ?_ _ | omega | (simp <;> omega)))) (by unfold maxLen; simp; omega) (by simp; omega) (by simp) (by rintro g ⟨⟩ h; exact Nat.lt_irrefl _ (Nat.lt_of_succ_lt h)) ?_; intro A5 c5 w5 hown5 hg5 hor5; obtain ⟨hc5, hf5⟩ := gcell (g := wr.heap.size + 1) hg5 (by simp); have hz5 := hg5.size; simp at hz5; have HW : Hid (Own pkE (fun b => F b ∨ (wr.heap.size < b ∧ b ≤ w5.heap.size)) (w5.setCell ⟨wr.heap.size, 3, none⟩ (.slice A5 p.b.length c5)) (w3.heap.size + 2) 32 (.slice A4 ps.length c4) ps) := Lib.hid (((((hown'.out.alloc _).alloc _).grown hg5 (.inr (fun e => absurd (lo (wr.heap.size + 1) e).2 (by omega))) (by rintro g ⟨⟩; exact nF1)).set (fun e => absurd (lo wr.heap.size e).2 (Nat.lt_irrefl _)) nF0 _).sub fun b hb _ => .inl hb); have HB : Hid (Sl .u8 (fun b => F b ∨ (wr.heap.size < b ∧ b ≤ w5.heap.size)) (w5.setCell ⟨wr.heap.size, 3, none⟩ (.slice A5 p.b.length c5)) A5 c5 p.b) := Lib.hid (((hown5.u8any (T := fun _ => False)).set (fun e => absurd (hown5.lt wr.heap.size e).1 (by omega)) (fun h => h) _).toSl (fun _ h _ => h.elim) (fun b hb hl _ => .inr ⟨hb, (by simp [World.setCell] at hl; omega)⟩)); clear hown5 hor5)
        | (at_builtin; go_must ((refine wpList_append_E (S := (fun b => F b ∨ (wr.heap.size < b ∧ b ≤ w5.heap.size))) rfl (.tmp 52) (.tmp 54) rfl pksT (base := w3.heap.size + 2) (v := .slice A4 ps.length c4) (xs := ps) (ys := [p]) (by rfl) (by rfl) rfl (nz := ps.length + 1) (by simp) (HW.out.alloc _) (Sl.litAt (g := w5.heap.size) (by simp [World.setCell]) (S := (fun b => F b ∨ (wr.heap.size < b ∧ b ≤ w5.heap.size))) (.single (pkE_shut HB.out)) (by unfold maxLen; simp) (fun _ h _ => h) (.inr ⟨(by omega), (Nat.le_refl _)⟩)) (by unfold maxLen; simp; omega) (by simp; omega) (by simp [World.setCell]; omega) (fun g hg h => (by have h1 := (lo g hg).2; rcases h with h | h; exact nv g hg h; omega)) ?_); intro A6 c6 w6 hown6 hg6 hor6; have hz6 := hg6.size; simp [World.setCell] at hz6; have HG6 : Hid (w6.heap[w3.heap.size + 1]? = some (.cells #[.int .i64 s.1.now, .slice A4 ps.length c4] 26 (0, 0))) := Lib.hid ((hg6.block _ (by simp [World.setCell]; omega) (fun e => absurd (lo _ e.symm).1 (by omega))).trans ((Below.heap_alloc _ _ _ (by simp [World.setCell]; omega)).trans ((Below.heap_setCell _ _ _ _ (by simp; omega)).trans ((hg5.block _ (by simp; omega) (by simp [Value.ownBlock]; omega)).trans ((Below.heap_alloc _ _ _ (by simp; omega)).trans ((Below.heap_alloc _ _ _ (by omega)).trans hg'.out)))))); have hc6 := cell_of_row _ _ 1 _ _ _ HG6.out; simp only [List.getElem?_toArray, List.getElem?_cons_zero, List.getElem?_cons_succ] at hc6; have hf6 : w6.frozen? ⟨w3.heap.size + 1, 1, none⟩ = false := (by simp [World.frozen?, HG6.out]))))
      go_roundw
      case rel =>
        refine ⟨j + 1, by omega, by go_num, fun b => (fun b => F b ∨ (wr.heap.size < b ∧ b ≤ w5.heap.size)) b, .slice A6 (ps.length + 1) c6, ?_, ?_, ?_, ?_, ?_, by omega, by omega, ?_, ?_⟩
        · rintro b (h | h)
          · have := lt b h; simp [World.setCell]; omega
          · simp [World.setCell]; omega
        · rintro k hk (h | h)
          · rcases hor6 k hk with h1 | h1
            · exact nv k h1 h
            · have := lt k h; simp [World.setCell] at h1; omega
          · rcases hor6 k hk with h1 | h1
            · have := (lo k h1).2; omega
            · simp [World.setCell] at h1; omega
        · rintro (h | h)
          · exact ng h
          · omega
        · rw [hT.out]
          exact hown6.set (fun e => absurd (hown6.lt _ e).1 (by simp)) (by rintro (h | h); exact ng h; simp at h; omega) _
        · exact heap_set (i := 1) HG6.out
        · exact ((((((hbw.alloc hbw.size _).alloc (by have := hbw.size; simp at this; simp; omega) _).grown hg5 (by have := hbw.size; simp at this; simp; omega) (by rintro k ⟨⟩; simp; omega)).setCell (by simp; omega) _).alloc (by simp [World.setCell]; omega) _).grown hg6 (by simp [World.setCell]; omega) (fun k hk => by have := (lo k hk).1; simp; omega)).setCell (by simp) _
        · simp [World.setCell]; omega
      case measure => simp [intOf]; omega
    · have hje : j = s.1.way.length := by omega
      subst hje
      rw [List.take_of_length_le (Nat.le_refl _)] at hown
      have hj1 : ¬ (s.1.way.length : Int) < (s.1.way.length : Int) := by omega
      obtain ⟨A4, c4, rfl, -⟩ := hown.form
      have z0 := cell_of_row _ _ 0 _ _ _ hg
      have z1 := cell_of_row _ _ 1 _ _ _ hg
      simp only [List.getElem?_toArray, List.getElem?_cons_zero, List.getElem?_cons_succ] at z0 z1
      have hglt : w3.heap.size + 1 < wr.heap.size := by omega
      have hS1 : Sl pkE (fun _ => True) wr A1 c1 s.1.way := (hs1'.out.keep (Below.agree hwr)).sub fun _ _ _ => trivial
      have hS4 : Sl pkE (fun _ => True) wr A4 c4 s.1.way := hown.toSl (fun _ _ _ => trivial) (fun _ _ _ _ => trivial)
      have HS1 := Lib.hid hS1
      have HS4 := Lib.hid hS4
      have hbwr := hb03.out.trans (hwr.mono hb03.out.size)
      have hX0 : Sl evE (fun _ => True) wr B d xs := (hx.out.keep (Below.agree hbwr)).sub fun _ _ _ => trivial
      have hY0 : Sl evE (fun _ => True) wr C e' ys := (hy.out.keep (Below.agree hbwr)).sub fun _ _ _ => trivial
      have Hbwr := Lib.hid hbwr
      clear hg hown lt nv ng hbw hb1 hb2 hbB hwr hS1 hS4 hbwr hx hy hl hs1' hb03
      go_upto_region 10 with fail
      go_cut [14] (fun v wx => wr = wx ∧ ∃ X : List Ev, v = .slice B X.length d ∧ X.length ≤ 20 ∧ X = xs.take 20 ∧ Sl evE (fun _ => True) wr B d X)
      case first =>
        by_cases h20 : xs.length ≤ 20
        · have h20' : (xs.length : Int) ≤ 20 := by omega
          have h21 : ¬ (20 : Int) < (xs.length : Int) := by omega
          have hle := hX0.le
          have hcm := hX0.capMax
          have HX := Lib.hid hX0
          clear hX0 hY0
          go_wp2_with fail
          go_meet
          exact ⟨rfl, xs, rfl, h20, (List.take_of_length_le h20).symm, HX.out⟩
        · have h20' : (20 : Int) < (xs.length : Int) := by omega
          have hle := hX0.le
          have hcm := hX0.capMax
          have h21 : 20 ≤ d := by omega
          have h22 : (20 : Int) ≤ (d : Int) := by omega
          have HX := Lib.hid (hX0.take 20)
          have hlX : Hid ((xs.take 20).length = 20) := Lib.hid (by rw [List.length_take]; omega)
          clear hX0 hY0
          go_wp2_with fail
          go_meet
          exact ⟨rfl, xs.take 20, by rw [hlX.out], by rw [hlX.out]; omega, rfl, HX.out⟩
      case rest =>
        obtain ⟨rfl, X, rfl, hX20, hXt, HX⟩ := hcut
        go_upto_region 11 with fail
        go_cut [15] (fun v wx => wr = wx ∧ ∃ Y : List Ev, v = .slice C Y.length e' ∧ Y.length ≤ 20 ∧ Y = ys.take 20 ∧ Sl evE (fun _ => True) wr C e' Y)
        case first =>
          by_cases h20 : ys.length ≤ 20
          · have h20' : (ys.length : Int) ≤ 20 := by omega
            have h21 : ¬ (20 : Int) < (ys.length : Int) := by omega
            have hle := hY0.le
            have hcm := hY0.capMax
            have HY := Lib.hid hY0
            clear hX0 hY0 HX hXt
            go_wp2_with fail
            go_meet
            exact ⟨rfl, ys, rfl, h20, (List.take_of_length_le h20).symm, HY.out⟩
          · have h20' : (20 : Int) < (ys.length : Int) := by omega
            have hle := hY0.le
            have hcm := hY0.capMax
            have h21 : 20 ≤ e' := by omega
            have h22 : (20 : Int) ≤ (e' : Int) := by omega
            have HY := Lib.hid (hY0.take 20)
            have hlY : Hid ((ys.take 20).length = 20) := Lib.hid (by rw [List.length_take]; omega)
            clear hX0 hY0 HX hXt
            go_wp2_with fail
            go_meet
            exact ⟨rfl, ys.take 20, by rw [hlY.out], by rw [hlY.out]; omega, rfl, HY.out⟩
        case rest =>
          obtain ⟨rfl, Y, rfl, hY20, hYt, HY⟩ := hcut
          clear hX0 hY0 hXt hYt
          have HX' := Lib.hid HX
          have HY' := Lib.hid HY
          clear HX HY
          go_wp2_with (first
            | (at_builtin; refine wpList_append_E (S := fun b => b < wr.heap.size) rfl (.tmp 67) (.tmp 68) rfl evsT (base := wr.heap.size) (v := .slice (some ⟨wr.heap.size, 0, none⟩) 0 0) (xs := []) (ys := X) (by rfl) (by rfl) rfl (nz := X.length) (by simp) (Own.lit0 _ _ _ _ (Nat.le_refl _)) ((HX'.out.old.sub fun b hb _ => hb.2).keep ((Agree.refl _ _).alloc _)) (by unfold maxLen; simp; omega) (by simp; omega) (by simp) (by rintro g ⟨⟩ h; exact Nat.lt_irrefl _ h) ?_; intro A5 c5 w5 hown5 hg5 hor5; have hz5 := hg5.size; simp at hz5; have HY5 : Hid (Sl evE (fun b => b < wr.heap.size) w5 C e' Y) := Lib.hid (((HY'.out.old.sub fun b hb _ => hb.2).keep ((Agree.refl _ _).alloc _)).keep ((Agree.refl _ _).grown hg5 (by rintro g ⟨⟩ h; exact Nat.lt_irrefl _ h))); have HO5 : Hid (Own evE (fun b => b < wr.heap.size) w5 wr.heap.size 29 (.slice A5 X.length c5) X) := Lib.hid (by simpa using hown5); clear hown5)
            | (at_builtin; go_must ((refine wpList_append_E (S := fun b => b < wr.heap.size) rfl (.tmp 70) (.tmp 71) rfl evsT (base := wr.heap.size) (v := .slice A5 X.length c5) (xs := X) (ys := Y) (by rfl) (by rfl) rfl (nz := X.length + Y.length) (by simp) HO5.out HY5.out (by unfold maxLen; omega) (by omega) (by omega) (fun g hg h => absurd (HO5.out.lt g hg).1 (by omega)) ?_); intro A6 c6 w6 hown6 hg6 hor6; have hz6 := hg6.size; have Bel6 : Hid (Below wr.heap.size wr w6) := Lib.hid ((((Below.refl _ _).alloc (Nat.le_refl _) _).grown hg5 (by simp) (by rintro k ⟨⟩; exact Nat.le_refl _)).grown hg6 (by omega) (fun k hk => (HO5.out.lt k hk).1)); obtain ⟨hc6, hf6⟩ := bcell Bel6.out; have HO6 : Hid (Sl evE (fun _ => True) w6 A6 c6 (X ++ Y)) := Lib.hid ((show Own evE _ w6 wr.heap.size 29 (.slice A6 (X.length + Y.length) c6) (X ++ Y) from hown6).toSl (fun _ _ _ => trivial) (fun _ _ _ _ => trivial)); clear hown6 hg6 hor6)))
          obtain ⟨r1, hr1⟩ : ∃ r, runF s.1 X = r := ⟨_, rfl⟩
          have ok1 : NtOk r1.1 := by rw [← hr1]; exact (runF_ok X s.1 ok).1
          have ln1 : r1.2.length ≤ 20 := by rw [← hr1]; exact Nat.le_trans (runF_ok X s.1 ok).2.1 hX20
          obtain ⟨r2, hr2⟩ : ∃ r, runF r1.1 Y = r := ⟨_, rfl⟩
          have ln2 : r2.2.length ≤ 20 := by rw [← hr2]; exact Nat.le_trans (runF_ok Y r1.1 ok1).2.1 hY20
          have hr3 : runF s.1 (X ++ Y) = (r2.1, r1.2 ++ r2.2) := by rw [runF_app, hr1, hr2]
          have Hr1 := Lib.hid hr1
          have Hr2 := Lib.hid hr2
          have Hr3 := Lib.hid hr3
          have HS16 := Lib.hid (HS1.out.keep (Below.agree Bel6.out))
          have HX6 := Lib.hid (HX'.out.keep (Below.agree Bel6.out))
          have HY6 := Lib.hid (HY'.out.keep (Below.agree Bel6.out))
          have HS46 := Lib.hid (HS4.out.keep (Below.agree Bel6.out))
          clear hr1 hr2 hr3 HX' HY' HS1 HS4 HY5 HO5
          refine (runNL (S := fun _ => True) (T := fun _ => True) (n := s.1) (es := X) _ HS16.out HX6.out ok rfl (by omega) Hr1.out).mono ?_
          rintro e w7 ⟨A7, c7, A8, c8, rfl, hs7, hp7, hb7⟩
          have hz7 := hb7.size
          obtain ⟨hc7, hf7⟩ := bcell hb7
          have Hs7 := Lib.hid hs7
          have Hp7 := Lib.hid hp7
          have Hb7 := Lib.hid hb7
          clear hs7 hp7 hb7
          have hzr6 : wr.heap.size ≤ w6.heap.size := Bel6.out.size
          have l86 : w3.heap.size < w6.heap.size := by omega
          have l116 : w3.heap.size + 1 < w6.heap.size := by omega
          have l87 : w3.heap.size < w7.heap.size := by omega
          have l117 : w3.heap.size + 1 < w7.heap.size := by omega
          have l87' : w3.heap.size < w7.heap.size + 1 := by omega
          have l117' : w3.heap.size < w7.heap.size := by omega
          have n87 : w3.heap.size ≠ w7.heap.size := by omega
          have n117 : w3.heap.size + 1 ≠ w7.heap.size := by omega
          go_wp2_with fail
          refine (runNL (S := fun _ => True) (T := fun _ => True) (n := r1.1) (es := Y) (w7.alloc _) ((Hs7.out.sub fun _ _ _ => trivial).keep ((Agree.refl _ _).alloc _)) ((HY6.out.keep (Below.agree Hb7.out)).keep ((Agree.refl _ _).alloc _)) ok1 rfl (by omega) Hr2.out).mono ?_
          rintro e w8 ⟨A9, c9, B1, d1, rfl, hs8, hp8, hb8⟩
          have hz8 := hb8.size
          simp at hz8
          obtain ⟨hc8, hf8⟩ := bcellk (k := w7.heap.size + 1) hb8 (by simp)
          have l88 : w3.heap.size < w8.heap.size := by omega
          have l118 : w3.heap.size + 1 < w8.heap.size := by omega
          have l88' : w3.heap.size < w8.heap.size + 1 := by omega
          have n88 : w3.heap.size ≠ w8.heap.size := by omega
          have n118 : w3.heap.size + 1 ≠ w8.heap.size := by omega
          have Hs8 := Lib.hid hs8
          have Hp8 := Lib.hid hp8
          have Hb8 := Lib.hid hb8
          clear hs8 hp8 hb8
          go_wp2_with fail
          refine (runNL (S := fun _ => True) (T := fun _ => True) (n := s.1) (es := X ++ Y) (len := X.length + Y.length) (w8.alloc _) ((((HS16.out.keep (Below.agree Hb7.out)).keep ((Agree.refl _ _).alloc _)).keep (Below.agree Hb8.out)).keep ((Agree.refl _ _).alloc _)) ((((HO6.out.keep (Below.agree Hb7.out)).keep ((Agree.refl _ _).alloc _)).keep (Below.agree Hb8.out)).keep ((Agree.refl _ _).alloc _)) ok (by simp) (by omega) Hr3.out).mono ?_
          rintro e w9 ⟨B2, d2, B3, d3, rfl, hs9, hp9, hb9⟩
          have hz9 := hb9.size
          simp at hz9
          obtain ⟨hc9, hf9⟩ := bcellk (k := w8.heap.size + 1) hb9 (by simp)
          have l89 : w8.heap.size < w9.heap.size := by omega
          have l89' : w8.heap.size < w9.heap.size + 1 := by omega
          have l99 : w3.heap.size < w9.heap.size := by omega
          have l99' : w3.heap.size < w9.heap.size + 1 := by omega
          have l119 : w3.heap.size + 1 < w9.heap.size := by omega
          have l119' : w3.heap.size < w9.heap.size := by omega
          have n89 : w8.heap.size ≠ w9.heap.size := by omega
          have n99 : w3.heap.size ≠ w9.heap.size := by omega
          have n119 : w3.heap.size + 1 ≠ w9.heap.size := by omega
          have HP9 : Hid (Sl pkE (fun b => b < w9.heap.size + 1) w9 A8 c8 r1.2) := Lib.hid (((((Hp7.out.keep ((Agree.refl _ _).alloc _)).keep (Below.agree Hb8.out)).keep ((Agree.refl _ _).alloc _)).keep (Below.agree hb9)).old.sub fun b hb _ => by omega)
          have HQ9 : Hid (Sl pkE (fun b => b < w9.heap.size + 1) w9 B1 d1 r2.2) := Lib.hid (((Hp8.out.keep ((Agree.refl _ _).alloc _)).keep (Below.agree hb9)).old.sub fun b hb _ => by omega)
          have HO9 : Hid (Sl pkE (fun _ => True) w9 A9 c9 r2.1.way) := Lib.hid (((Hs8.out.keep ((Agree.refl _ _).alloc _)).keep (Below.agree hb9)).sub fun _ _ _ => trivial)
          have HW9 : Hid (Sl pkE (fun _ => True) w9 B2 d2 r2.1.way) := Lib.hid (hs9.sub fun _ _ _ => trivial)
          have HR9 : Hid (Sl pkE (fun _ => True) w9 B3 d3 (r1.2 ++ r2.2)) := Lib.hid (hp9.sub fun _ _ _ => trivial)
          have HS19 : Hid (Sl pkE (fun _ => True) w9 A1 c1 s.1.way) := Lib.hid ((((HS16.out.keep (Below.agree Hb7.out)).keep ((Agree.refl _ _).alloc _)).keep (Below.agree Hb8.out)).keep ((Agree.refl _ _).alloc _) |>.keep (Below.agree hb9))
          have HS49 : Hid (Sl pkE (fun _ => True) w9 A4 c4 s.1.way) := Lib.hid ((((HS46.out.keep (Below.agree Hb7.out)).keep ((Agree.refl _ _).alloc _)).keep (Below.agree Hb8.out)).keep ((Agree.refl _ _).alloc _) |>.keep (Below.agree hb9))
          have Bel9 : Hid (Below w.heap.size w w9) := Lib.hid ((((Hbwr.out.trans (Bel6.out.mono Hbwr.out.size)).trans (Hb7.out.mono (by have := Hbwr.out.size; omega))).alloc (by have := Hbwr.out.size; omega) _).trans (Hb8.out.mono (by have := Hbwr.out.size; simp; omega)) |>.alloc (by have := Hbwr.out.size; omega) _ |>.trans (hb9.mono (by have := Hbwr.out.size; simp; omega)))
          have hz09 := Bel9.out.size
          clear hs9 hp9 hb9 Hs7 Hp7 Hb7 Hs8 Hp8 Hb8 HS16 HS46 HX6 HY6 HO6
          go_wp2_with (first
            | (at_builtin; refine wpList_append_E (S := fun b => b < w9.heap.size + 1) rfl (.tmp 91) (.tmp 92) rfl pksT (base := w9.heap.size + 1) (v := .slice (some ⟨w9.heap.size + 1, 0, none⟩) 0 0) (xs := []) (ys := r1.2) (by rfl) (by rfl) rfl (nz := r1.2.length) (by simp) (Own.litAt _ _ _ _ (by simp) (Nat.le_refl _)) ((HP9.out.keep ((Agree.refl _ _).alloc _)).keep ((Agree.refl _ _).alloc _)) (by unfold maxLen; simp; omega) (by simp; omega) (by simp) (by rintro g ⟨⟩ h; exact Nat.lt_irrefl _ h) ?_; intro A10 c10 w10 hown10 hg10 hor10; have hz10 := hg10.size; simp at hz10; have HQ10 : Hid (Sl pkE (fun b => b < w9.heap.size + 1) w10 B1 d1 r2.2) := Lib.hid (((HQ9.out.keep ((Agree.refl _ _).alloc _)).keep ((Agree.refl _ _).alloc _)).keep ((Agree.refl _ _).grown hg10 (by rintro g ⟨⟩ h; exact Nat.lt_irrefl _ h))); have HO10 : Hid (Own pkE (fun b => b < w9.heap.size + 1) w10 (w9.heap.size + 1) 32 (.slice A10 r1.2.length c10) r1.2) := Lib.hid (by simpa using hown10); clear hown10)
            | (at_builtin; go_must ((refine wpList_append_E (S := fun b => b < w9.heap.size + 1) rfl (.tmp 94) (.tmp 95) rfl pksT (base := w9.heap.size + 1) (v := .slice A10 r1.2.length c10) (xs := r1.2) (ys := r2.2) (by rfl) (by rfl) rfl (nz := r1.2.length + r2.2.length) (by simp) HO10.out HQ10.out (by unfold maxLen; omega) (by omega) (by omega) (fun g hg h => absurd (HO10.out.lt g hg).1 (by omega)) ?_); intro A11 c11 w11 hown11 hg11 hor11; have hz11 := hg11.size; have Bel11 : Hid (Below (w9.heap.size + 1) (w9.alloc _) w11) := Lib.hid ((((Below.refl _ _).alloc (by simp) _).grown hg10 (by simp) (by rintro k ⟨⟩; exact Nat.le_refl _)).grown hg11 (by omega) (fun k hk => (HO10.out.lt k hk).1)); have hc11 := fun b o (h : b < w9.heap.size + 1) => Bel11.out.cell (p := ⟨b, o, none⟩) h; have HB11 : Hid (Sl pkE (fun _ => True) w11 A11 c11 (r1.2 ++ r2.2)) := Lib.hid ((show Own pkE _ w11 (w9.heap.size + 1) 32 (.slice A11 (r1.2.length + r2.2.length) c11) (r1.2 ++ r2.2) from hown11).toSl (fun _ _ _ => trivial) (fun _ _ _ _ => trivial)); clear hown11 hg11 hor11)))
          have B911 : Below w9.heap.size w9 w11 := ((Below.refl _ _).alloc (Nat.le_refl _) _).trans (Bel11.out.mono (by omega))
          have hz911 : w9.heap.size + 1 ≤ w11.heap.size := by have := Bel11.out.size; simpa using this
          have B11 := Lib.hid (Bel9.out.trans (B911.mono hz09))
          have HO11 := Lib.hid (HO9.out.keep (Below.agree B911))
          have HW11 := Lib.hid (HW9.out.keep (Below.agree B911))
          have HR11 := Lib.hid (HR9.out.keep (Below.agree B911))
          have HS11 := Lib.hid (HS19.out.keep (Below.agree B911))
          have HT11 := Lib.hid (HS49.out.keep (Below.agree B911))
          clear B911 HO9 HW9 HR9 HS19 HS49 HP9 HQ9 HQ10 HO10
          have l811 : w8.heap.size < w11.heap.size := by omega
          have l911 : w9.heap.size < w11.heap.size := by omega
          have l311 : w3.heap.size < w11.heap.size := by omega
          have l411 : w3.heap.size + 1 < w11.heap.size := by omega
          refine (same_eq (n := r2.1) w11 HO11.out HW11.out).mono ?_
          rintro e w12 ⟨rfl, hb12⟩
          have hz12 := hb12.size
          obtain ⟨hc12, hf12⟩ := bcell hb12
          go_wp2_with fail
          refine (samePacketsL (ps := r1.2 ++ r2.2) w12 (by simp) (HB11.out.keep (Below.agree hb12)) (HR11.out.keep (Below.agree hb12))).mono ?_
          rintro e w13 ⟨rfl, hb13⟩
          have hz13 := hb13.size
          obtain ⟨hc13, hf13⟩ := bcell hb13
          have l312 : w3.heap.size < w12.heap.size := by omega
          have l412 : w3.heap.size + 1 < w12.heap.size := by omega
          go_wp2_with fail
          refine (same_eq (n := s.1) w13 ((HS11.out.keep (Below.agree hb12)).keep (Below.agree hb13)) ((HT11.out.keep (Below.agree hb12)).keep (Below.agree hb13))).mono ?_
          rintro e w14 ⟨rfl, hb14⟩
          go_wp2_with fail
          go_ret
          have := B11.out.size
          exact ⟨rfl, ((B11.out.trans (hb12.mono (by omega))).trans (hb13.mono (by omega))).trans (hb14.mono (by omega))⟩
end Go.Proofs.Ytmaaniogcmlfbaa
