/-
  The sanity examples of the network laws.
-/
import Derived.Test.YtmaaniogcmlfbaaNet23
namespace Go.Proofs.Ytmaaniogcmlfbaa
open Go.RowKit

theorem nS_now : nS.now = 0 := rfl
theorem nS_len : nS.way.length = 1 := rfl
theorem pS_fr : pS.fr = 1 := rfl
theorem pS_to : pS.to_ = 2 := rfl
theorem pS_at : pS.at_ = 5 := rfl
theorem pS_len : pS.b.length = 2 := rfl
theorem sameS {S T : Nat → Prop} {A B : Option Addr} {c d len len2 : Nat} {now now2 : Int} {n : Nt} (w : World) (h : Sl pkE S w A c n.way) (k : Sl pkE T w B d n.way) (h1 : n.now = now) (h2 : n.way.length = len) (h3 : n.now = now2) (h4 : n.way.length = len2) :
    Calls Try.prog 19 #[.agg #[.int .i64 now, .slice A len c], .agg #[.int .i64 now2, .slice B len2 d]] w fun e w' => e = .returned (.bool true) ∧ Below w.heap.size w w' := by
  subst h1; subst h2; subst h3; subst h4; exact same_eq w h k
theorem samePacketS {S T : Nat → Prop} {A B : Option Addr} {c d len len2 : Nat} {x y z x2 y2 z2 : Int} {p : Pk} (w : World) (h : Sl .u8 S w A c p.b) (k : Sl .u8 T w B d p.b) (h1 : p.fr = x) (h2 : p.to_ = y) (h3 : p.at_ = z) (h4 : p.b.length = len) (k1 : p.fr = x2) (k2 : p.to_ = y2) (k3 : p.at_ = z2) (k4 : p.b.length = len2) :
    Calls Try.prog 22 #[.agg #[.int .i64 x, .int .i64 y, .int .i64 z, .slice A len c], .agg #[.int .i64 x2, .int .i64 y2, .int .i64 z2, .slice B len2 d]] w fun e w' => e = .returned (.bool true) ∧ Below w.heap.size w w' := by
  subst h1; subst h2; subst h3; subst h4; subst k1; subst k2; subst k3; subst k4; exact samePacket_eq w h k

set_option maxRecDepth 100000 in
set_option maxHeartbeats 4000000 in
theorem sanity_true (w : World) : Calls Try.prog 9 #[] w fun e w' => e = .returned (.bool true) ∧ Below w.heap.size w w' := by
  have kb : KB (w.heap.size + 2) [] ((w.alloc (.cells #[.int .u8 10, .int .u8 20] 5)).alloc (.cells #[.int .i64 1, .int .i64 2, .int .i64 5, .slice (some ⟨w.heap.size, 0, none⟩) 2 2] 32)) w ((w.alloc (.cells #[.int .u8 10, .int .u8 20] 5)).alloc (.cells #[.int .i64 1, .int .i64 2, .int .i64 5, .slice (some ⟨w.heap.size, 0, none⟩) 2 2] 32)) := ⟨⟨by simp, fun _ _ _ => rfl, by simp⟩, (by repeat' (first | with_reducible exact Below.refl _ _ | with_reducible assumption | with_reducible refine Below.setCell ?_ ?_ _ | with_reducible refine Below.drew ?_ | with_reducible refine below_drewN ?_ _ | with_reducible refine Below.alloc ?_ ?_ _ | (rintro _ ⟨⟩; simp <;> omega) | omega | (simp <;> omega))), by omega, by simp⟩
  have hu : Sl .u8 (fun b => b < w.heap.size + 2) ((w.alloc (.cells #[.int .u8 10, .int .u8 20] 5)).alloc (.cells #[.int .i64 1, .int .i64 2, .int .i64 5, .slice (some ⟨w.heap.size, 0, none⟩) 2 2] 32)) (some ⟨w.heap.size, 0, none⟩) 2 [10, 20] :=
    (Sl.litAt (S := fun _ => False) (cs := [.int .u8 10, .int .u8 20]) rfl (u8_elems [10, 20]) (by unfold maxLen; simp) (fun _ h _ => False.elim h) (by simp)).keep ((Agree.refl _ _).alloc _)
  have hg0 : ((w.alloc (.cells #[.int .u8 10, .int .u8 20] 5)).alloc (.cells #[.int .i64 1, .int .i64 2, .int .i64 5, .slice (some ⟨w.heap.size, 0, none⟩) 2 2] 32)).heap[w.heap.size + 1]? = some (.cells #[.int .i64 1, .int .i64 2, .int .i64 5, .slice (some ⟨w.heap.size, 0, none⟩) 2 2] 32 (0, 0)) := heap_alloc_at (by simp)
  have Kb := Lib.hid kb
  have Hu := Lib.hid hu
  have Hg0 := Lib.hid hg0
  clear kb hu hg0
  obtain ⟨r1, r2, r3, r4, -⟩ := KB.rules (w.heap.size + 2) [] ((w.alloc (.cells #[.int .u8 10, .int .u8 20] 5)).alloc (.cells #[.int .i64 1, .int .i64 2, .int .i64 5, .slice (some ⟨w.heap.size, 0, none⟩) 2 2] 32)) w
  go_enter Try.func9, Try.ntmps9
  go_upto_region 2 with fail
  go_cut [1, 2] (fun s1 s2 wx => ∃ g1 g2 A c, s1 = .pointer (some ⟨g1, 0, none⟩) ∧ s2 = .pointer (some ⟨g2, 0, none⟩) ∧ NB wx g2 nS ∧ wx.heap[g1]? = some (.cells #[.int .i64 1, .int .i64 2, .int .i64 5, .slice A 2 c] 32 (0, 0)) ∧ Sl .u8 (fun _ => True) wx A c [10, 20] ∧ Below w.heap.size w wx)
  case first =>
    have kb := Kb.out
    go_region_held3 (fun X => KB (w.heap.size + 2) [] ((w.alloc (.cells #[.int .u8 10, .int .u8 20] 5)).alloc (.cells #[.int .i64 1, .int .i64 2, .int .i64 5, .slice (some ⟨w.heap.size, 0, none⟩) 2 2] 32)) w X) (first | with_reducible assumption | with_reducible exact KB.alloc kb4 _ | (with_reducible refine KB.drew (KB.alloc ?_ _); with_reducible assumption) | (with_reducible refine KB.drew ?_; with_reducible assumption) | (with_reducible refine KB.alloc ?_ _; with_reducible assumption) | (refine KB.call ?_ (by assumption); with_reducible assumption) | (refine KB.setFar (KB.setFar (by assumption) (by simp <;> omega) _) (by simp <;> omega) _))
      (first
        | (go_at_call 10; refine (newN _).mono ?_; rintro e w3 ⟨rfl, hb3⟩; have kb3 : KB (w.heap.size + 2) [] ((w.alloc (.cells #[.int .u8 10, .int .u8 20] 5)).alloc (.cells #[.int .i64 1, .int .i64 2, .int .i64 5, .slice (some ⟨w.heap.size, 0, none⟩) 2 2] 32)) w w3 := KB.call (by assumption) hb3; have hz3 := kb3.keep.le; obtain ⟨hc3, hf3⟩ := bcell hb3; have hl3 := fun (b : Nat) h => Nat.lt_of_lt_of_le (n := b) h hb3.size)
        | (go_at_call 11; refine (sendS (S := fun b => b < w.heap.size + 2) (p := pS) _ (Sl.nil_ _ _ _ _ (Nat.zero_le _)) (Hu.out.keep (KB.agree (by assumption) (by simp))) rfl rfl rfl rfl rfl rfl (by decide) eq2 (now' := 0) rfl (len' := 1) rfl).mono ?_; rintro e w4 ⟨A4, c4, rfl, hs4, hb4⟩; have kb4 : KB (w.heap.size + 2) [] ((w.alloc (.cells #[.int .u8 10, .int .u8 20] 5)).alloc (.cells #[.int .i64 1, .int .i64 2, .int .i64 5, .slice (some ⟨w.heap.size, 0, none⟩) 2 2] 32)) w w4 := KB.call (by assumption) hb4; obtain ⟨hc4, hf4⟩ := bcell hb4))
    all_goals
      have kbf := (by assumption : KB (w.heap.size + 2) [] ((w.alloc (.cells #[.int .u8 10, .int .u8 20] 5)).alloc (.cells #[.int .i64 1, .int .i64 2, .int .i64 5, .slice (some ⟨w.heap.size, 0, none⟩) 2 2] 32)) w _)
      go_wp2_with fail
      go_meet
      refine ⟨_, _, some ⟨w.heap.size, 0, none⟩, 2, rfl, rfl, ?_, (kbf.keep.old (w.heap.size + 1) (by omega) (by simp)).trans Hg0.out, (Hu.out.keep (kbf.agree (by simp))).sub fun _ _ _ => trivial, kbf.below⟩
      first
        | exact NB.made rfl rfl hs4 rfl
        | exact NB.sets rfl rfl ((hb4.block _ (by simp)).trans (heap_alloc_at rfl)) hs4 (by rintro (h | h) <;> first | omega | (simp at h; done) | (simp at h; omega))
        | exact NB.sets rfl rfl ((hb4.block _ (by have := hb3.size; simp at this ⊢; omega)).trans ((hb3.block _ (by simp)).trans (heap_alloc_at (by simp)))) hs4 (by have h9 := hb3.size; simp at h9; rintro (h | h) <;> first | omega | (simp at h; done) | (simp at h; omega))
  case rest =>
    obtain ⟨g1, g2, A1, c1, rfl, rfl, b2, hg1, hs1, hbw⟩ := hcut
    clear r1 r2 r3 r4 Kb Hu Hg0
    obtain ⟨w2, rfl⟩ : ∃ w2, w2 = wc := ⟨_, rfl⟩
    have hw2 := Lib.hid hbw
    clear hbw
    go_upto_region 3 with fail
    go_cut [3, 4] (fun s3 s4 wx => ∃ g3, s3 = .pointer (some ⟨g3, 0, none⟩) ∧ NB wx g3 nS ∧ PV wx s4 [] ∧ Below w2.heap.size w2 wx)
    case first => as_aux_lemma =>
      obtain ⟨A, c, x0, x1, hlt, hs⟩ := b2.lit (now := 0) rfl (len := 1) rfl
      go_wp2_with (go_at_call 13; refine (applyS (S := fun _ => True) _ hs okS rfl rfl eq3 (now' := 0) rfl (len' := 1) rfl (dl := 0) rfl).mono ?_; rintro e w3 ⟨A3, c3, A4, c4, rfl, hs3, hs4, hb3⟩)
      go_meet
      exact ⟨_, rfl, NB.made rfl rfl hs3 rfl, (PV.made rfl hs4).below ((Below.refl _ _).alloc (Nat.le_refl _) _), hb3.alloc hb3.size _⟩
    case rest =>
      obtain ⟨g3, rfl, b3, v4n, hbw⟩ := hcut
      obtain ⟨w3, rfl⟩ : ∃ w3, w3 = wc := ⟨_, rfl⟩
      replace b2 := b2.below hbw
      replace hg1 := (hbw.block g1 (heap_lt hg1)).trans hg1
      replace hs1 := hs1.keep (Below.agree hbw)
      obtain ⟨V4, k4, rfl, p4⟩ := v4n.lit (len := 0) rfl
      clear p4
      have hw3 := Lib.hid (hw2.out.trans (hbw.mono hw2.out.size))
      clear hbw hw2
      go_upto_region 4 with fail
      go_cut [5, 6] (fun s5 s6 wx => ∃ g5, s5 = .pointer (some ⟨g5, 0, none⟩) ∧ NB wx g5 nL ∧ PV wx s6 [] ∧ Below w3.heap.size w3 wx)
      case first => as_aux_lemma =>
        obtain ⟨A, c, x0, x1, hlt, hs⟩ := b2.lit (now := 0) rfl (len := 1) rfl
        go_wp2_with (go_at_call 13; refine (applyS (S := fun _ => True) _ hs okS rfl rfl eq4 (now' := 5) rfl (len' := 1) rfl (dl := 0) rfl).mono ?_; rintro e w3 ⟨A3, c3, A4, c4, rfl, hs3, hs4, hb3⟩)
        go_meet
        exact ⟨_, rfl, NB.made rfl rfl hs3 rfl, (PV.made rfl hs4).below ((Below.refl _ _).alloc (Nat.le_refl _) _), hb3.alloc hb3.size _⟩
      case rest =>
        obtain ⟨g5, rfl, b5, v6n, hbw⟩ := hcut
        obtain ⟨w4, rfl⟩ : ∃ w4, w4 = wc := ⟨_, rfl⟩
        replace b2 := b2.below hbw
        replace b3 := b3.below hbw
        replace hg1 := (hbw.block g1 (heap_lt hg1)).trans hg1
        replace hs1 := hs1.keep (Below.agree hbw)
        obtain ⟨V6, k6, rfl, p6⟩ := v6n.lit (len := 0) rfl
        clear p6
        have hw4 := Lib.hid (hw3.out.trans (hbw.mono hw3.out.size))
        clear hbw hw3
        go_upto_region 5 with fail
        go_cut [7, 8] (fun s7 s8 wx => ∃ g7, s7 = .pointer (some ⟨g7, 0, none⟩) ∧ NB wx g7 nE ∧ PV wx s8 [pS] ∧ Below w4.heap.size w4 wx)
        case first => as_aux_lemma =>
          obtain ⟨A, c, x0, x1, hlt, hs⟩ := b5.lit (now := 5) rfl (len := 1) rfl
          go_wp2_with (go_at_call 13; refine (applyS (S := fun _ => True) _ hs okL rfl rfl eq5 (now' := 5) rfl (len' := 0) rfl (dl := 1) rfl).mono ?_; rintro e w3 ⟨A3, c3, A4, c4, rfl, hs3, hs4, hb3⟩)
          go_meet
          exact ⟨_, rfl, NB.made rfl rfl hs3 rfl, (PV.made rfl hs4).below ((Below.refl _ _).alloc (Nat.le_refl _) _), hb3.alloc hb3.size _⟩
        case rest =>
          obtain ⟨g7, rfl, b7, v8n, hbw⟩ := hcut
          obtain ⟨w5, rfl⟩ : ∃ w5, w5 = wc := ⟨_, rfl⟩
          replace b2 := b2.below hbw
          replace b3 := b3.below hbw
          replace b5 := b5.below hbw
          replace hg1 := (hbw.block g1 (heap_lt hg1)).trans hg1
          replace hs1 := hs1.keep (Below.agree hbw)
          obtain ⟨V8, k8, rfl, p8⟩ := v8n.lit (len := 1) rfl
          have hw5 := Lib.hid (hw4.out.trans (hbw.mono hw4.out.size))
          clear hbw hw4
          go_upto_region 6 with fail
          go_cut [9, 10] (fun s9 s10 wx => ∃ g9, s9 = .pointer (some ⟨g9, 0, none⟩) ∧ NB wx g9 nX ∧ PV wx s10 [] ∧ Below w5.heap.size w5 wx)
          case first => as_aux_lemma =>
            obtain ⟨A, c, x0, x1, hlt, hs⟩ := b2.lit (now := 0) rfl (len := 1) rfl
            go_wp2_with (go_at_call 13; refine (applyS (S := fun _ => True) _ hs okS rfl rfl eq6 (now' := 0) rfl (len' := 1) rfl (dl := 0) rfl).mono ?_; rintro e w3 ⟨A3, c3, A4, c4, rfl, hs3, hs4, hb3⟩)
            go_meet
            exact ⟨_, rfl, NB.made rfl rfl hs3 rfl, (PV.made rfl hs4).below ((Below.refl _ _).alloc (Nat.le_refl _) _), hb3.alloc hb3.size _⟩
          case rest =>
            obtain ⟨g9, rfl, b9, v10n, hbw⟩ := hcut
            obtain ⟨w6, rfl⟩ : ∃ w6, w6 = wc := ⟨_, rfl⟩
            replace b2 := b2.below hbw
            replace b3 := b3.below hbw
            replace b5 := b5.below hbw
            replace b7 := b7.below hbw
            replace p8 := p8.keep (Below.agree hbw)
            replace hg1 := (hbw.block g1 (heap_lt hg1)).trans hg1
            replace hs1 := hs1.keep (Below.agree hbw)
            obtain ⟨V10, k10, rfl, p10⟩ := v10n.lit (len := 0) rfl
            clear p10
            have hw6 := Lib.hid (hw5.out.trans (hbw.mono hw5.out.size))
            clear hbw hw5
            go_upto_region 7 with fail
            go_cut [11, 12] (fun s11 s12 wx => ∃ g11, s11 = .pointer (some ⟨g11, 0, none⟩) ∧ NB wx g11 nT ∧ PV wx s12 [] ∧ Below w6.heap.size w6 wx)
            case first => as_aux_lemma =>
              obtain ⟨A, c, x0, x1, hlt, hs⟩ := b2.lit (now := 0) rfl (len := 1) rfl
              go_wp2_with (go_at_call 13; refine (applyS (S := fun _ => True) _ hs okS rfl rfl eq7 (now' := 0) rfl (len' := 2) rfl (dl := 0) rfl).mono ?_; rintro e w3 ⟨A3, c3, A4, c4, rfl, hs3, hs4, hb3⟩)
              go_meet
              exact ⟨_, rfl, NB.made rfl rfl hs3 rfl, (PV.made rfl hs4).below ((Below.refl _ _).alloc (Nat.le_refl _) _), hb3.alloc hb3.size _⟩
            case rest =>
              obtain ⟨g11, rfl, b11, v12n, hbw⟩ := hcut
              obtain ⟨w7, rfl⟩ : ∃ w7, w7 = wc := ⟨_, rfl⟩
              replace b2 := b2.below hbw
              replace b3 := b3.below hbw
              replace b5 := b5.below hbw
              replace b7 := b7.below hbw
              replace b9 := b9.below hbw
              replace p8 := p8.keep (Below.agree hbw)
              replace hg1 := (hbw.block g1 (heap_lt hg1)).trans hg1
              replace hs1 := hs1.keep (Below.agree hbw)
              obtain ⟨V12, k12, rfl, p12⟩ := v12n.lit (len := 0) rfl
              clear p12
              have hw7 := Lib.hid (hw6.out.trans (hbw.mono hw6.out.size))
              clear hbw hw6
              go_upto_region 8 with fail
              go_cut [13, 14] (fun s13 s14 wx => ∃ g13, s13 = .pointer (some ⟨g13, 0, none⟩) ∧ NB wx g13 nS ∧ PV wx s14 [] ∧ Below w7.heap.size w7 wx)
              case first => as_aux_lemma =>
                obtain ⟨A, c, x0, x1, hlt, hs⟩ := b11.lit (now := 0) rfl (len := 2) rfl
                go_wp2_with (go_at_call 13; refine (applyS (S := fun _ => True) _ hs okT rfl rfl eq8 (now' := 0) rfl (len' := 1) rfl (dl := 0) rfl).mono ?_; rintro e w3 ⟨A3, c3, A4, c4, rfl, hs3, hs4, hb3⟩)
                go_meet
                exact ⟨_, rfl, NB.made rfl rfl hs3 rfl, (PV.made rfl hs4).below ((Below.refl _ _).alloc (Nat.le_refl _) _), hb3.alloc hb3.size _⟩
              case rest =>
                obtain ⟨g13, rfl, b13, v14n, hbw⟩ := hcut
                obtain ⟨w8, rfl⟩ : ∃ w8, w8 = wc := ⟨_, rfl⟩
                replace b2 := b2.below hbw
                replace b3 := b3.below hbw
                replace b5 := b5.below hbw
                replace b7 := b7.below hbw
                replace b9 := b9.below hbw
                replace b11 := b11.below hbw
                replace p8 := p8.keep (Below.agree hbw)
                replace hg1 := (hbw.block g1 (heap_lt hg1)).trans hg1
                replace hs1 := hs1.keep (Below.agree hbw)
                obtain ⟨V14, k14, rfl, p14⟩ := v14n.lit (len := 0) rfl
                clear p14
                have hw8 := Lib.hid (hw7.out.trans (hbw.mono hw7.out.size))
                clear hbw hw7
                go_upto_region 9 with fail
                go_cut [15] (fun s15 wx => ∃ g15, s15 = .pointer (some ⟨g15, 0, none⟩) ∧ NB wx g15 nM ∧ Below w8.heap.size w8 wx)
                case first => as_aux_lemma =>
                  obtain ⟨A, c, x0, x1, hlt, hs⟩ := b5.lit (now := 5) rfl (len := 1) rfl
                  go_wp2_with (go_at_call 11; refine (sendS (S := fun _ => True) (p := pL) _ hs (Sl.nil_ _ _ _ _ (Nat.zero_le _)) rfl rfl rfl rfl rfl rfl (by decide) eq9 (now' := 5) rfl (len' := 2) rfl).mono ?_; rintro e w3 ⟨A3, c3, rfl, hs3, hb3⟩)
                  go_meet
                  exact ⟨_, rfl, NB.made rfl rfl hs3 rfl, hb3.alloc hb3.size _⟩
                case rest =>
                  obtain ⟨g15, rfl, b15, hbw⟩ := hcut
                  obtain ⟨w9, rfl⟩ : ∃ w9, w9 = wc := ⟨_, rfl⟩
                  replace b2 := b2.below hbw
                  replace b3 := b3.below hbw
                  replace b5 := b5.below hbw
                  replace b7 := b7.below hbw
                  replace b9 := b9.below hbw
                  replace b11 := b11.below hbw
                  replace b13 := b13.below hbw
                  replace p8 := p8.keep (Below.agree hbw)
                  replace hg1 := (hbw.block g1 (heap_lt hg1)).trans hg1
                  replace hs1 := hs1.keep (Below.agree hbw)
                  have hw9 := Lib.hid (hw8.out.trans (hbw.mono hw8.out.size))
                  clear hbw hw8
                  go_upto_region 10 with fail
                  go_cut [16, 17] (fun s16 s17 wx => ∃ g16, s16 = .pointer (some ⟨g16, 0, none⟩) ∧ NB wx g16 nS ∧ PV wx s17 [] ∧ Below w9.heap.size w9 wx)
                  case first => as_aux_lemma =>
                    obtain ⟨A, c, x0, x1, hlt, hs⟩ := b2.lit (now := 0) rfl (len := 1) rfl
                    go_wp2_with (go_at_call 13; refine (applyS (S := fun _ => True) _ hs okS rfl rfl eq10 (now' := 0) rfl (len' := 1) rfl (dl := 0) rfl).mono ?_; rintro e w3 ⟨A3, c3, A4, c4, rfl, hs3, hs4, hb3⟩)
                    go_meet
                    exact ⟨_, rfl, NB.made rfl rfl hs3 rfl, (PV.made rfl hs4).below ((Below.refl _ _).alloc (Nat.le_refl _) _), hb3.alloc hb3.size _⟩
                  case rest =>
                    obtain ⟨g16, rfl, b16, v17n, hbw⟩ := hcut
                    obtain ⟨w10, rfl⟩ : ∃ w10, w10 = wc := ⟨_, rfl⟩
                    replace b2 := b2.below hbw
                    replace b3 := b3.below hbw
                    replace b5 := b5.below hbw
                    replace b7 := b7.below hbw
                    replace b9 := b9.below hbw
                    replace b11 := b11.below hbw
                    replace b13 := b13.below hbw
                    replace b15 := b15.below hbw
                    replace p8 := p8.keep (Below.agree hbw)
                    replace hg1 := (hbw.block g1 (heap_lt hg1)).trans hg1
                    replace hs1 := hs1.keep (Below.agree hbw)
                    obtain ⟨V17, k17, rfl, p17⟩ := v17n.lit (len := 0) rfl
                    clear p17
                    have hw10 := Lib.hid (hw9.out.trans (hbw.mono hw9.out.size))
                    clear hbw hw9
                    go_upto_region 11 with fail
                    as_aux_lemma =>
                      obtain ⟨A2_, c2_, x2a, x2b, l2, s2⟩ := b2.lit (now := 0) rfl (len := 1) rfl
                      have z2 := fun W (hW : Below w10.heap.size w10 W) => (⟨(hW.cell (p := ⟨g2, 0, none⟩) l2).trans x2a, (hW.cell (p := ⟨g2, 1, none⟩) l2).trans x2b⟩ : _ ∧ _)
                      clear b2 x2a x2b
                      obtain ⟨A3_, c3_, x3a, x3b, l3, s3⟩ := b3.lit (now := 0) rfl (len := 1) rfl
                      have z3 := fun W (hW : Below w10.heap.size w10 W) => (⟨(hW.cell (p := ⟨g3, 0, none⟩) l3).trans x3a, (hW.cell (p := ⟨g3, 1, none⟩) l3).trans x3b⟩ : _ ∧ _)
                      clear b3 x3a x3b
                      obtain ⟨A5_, c5_, x5a, x5b, l5, s5⟩ := b5.lit (now := 5) rfl (len := 1) rfl
                      have z5 := fun W (hW : Below w10.heap.size w10 W) => (⟨(hW.cell (p := ⟨g5, 0, none⟩) l5).trans x5a, (hW.cell (p := ⟨g5, 1, none⟩) l5).trans x5b⟩ : _ ∧ _)
                      clear b5 x5a x5b
                      obtain ⟨A7_, c7_, x7a, x7b, l7, s7⟩ := b7.lit (now := 5) rfl (len := 0) rfl
                      have z7 := fun W (hW : Below w10.heap.size w10 W) => (⟨(hW.cell (p := ⟨g7, 0, none⟩) l7).trans x7a, (hW.cell (p := ⟨g7, 1, none⟩) l7).trans x7b⟩ : _ ∧ _)
                      clear b7 x7a x7b
                      obtain ⟨A9_, c9_, x9a, x9b, l9, s9⟩ := b9.lit (now := 0) rfl (len := 1) rfl
                      have z9 := fun W (hW : Below w10.heap.size w10 W) => (⟨(hW.cell (p := ⟨g9, 0, none⟩) l9).trans x9a, (hW.cell (p := ⟨g9, 1, none⟩) l9).trans x9b⟩ : _ ∧ _)
                      clear b9 x9a x9b
                      obtain ⟨A11_, c11_, x11a, x11b, l11, s11⟩ := b11.lit (now := 0) rfl (len := 2) rfl
                      have z11 := fun W (hW : Below w10.heap.size w10 W) => (⟨(hW.cell (p := ⟨g11, 0, none⟩) l11).trans x11a, (hW.cell (p := ⟨g11, 1, none⟩) l11).trans x11b⟩ : _ ∧ _)
                      clear b11 x11a x11b
                      obtain ⟨A13_, c13_, x13a, x13b, l13, s13⟩ := b13.lit (now := 0) rfl (len := 1) rfl
                      have z13 := fun W (hW : Below w10.heap.size w10 W) => (⟨(hW.cell (p := ⟨g13, 0, none⟩) l13).trans x13a, (hW.cell (p := ⟨g13, 1, none⟩) l13).trans x13b⟩ : _ ∧ _)
                      clear b13 x13a x13b
                      obtain ⟨A15_, c15_, x15a, x15b, l15, s15⟩ := b15.lit (now := 5) rfl (len := 2) rfl
                      have z15 := fun W (hW : Below w10.heap.size w10 W) => (⟨(hW.cell (p := ⟨g15, 0, none⟩) l15).trans x15a, (hW.cell (p := ⟨g15, 1, none⟩) l15).trans x15b⟩ : _ ∧ _)
                      clear b15 x15a x15b
                      obtain ⟨A16_, c16_, x16a, x16b, l16, s16⟩ := b16.lit (now := 0) rfl (len := 1) rfl
                      have z16 := fun W (hW : Below w10.heap.size w10 W) => (⟨(hW.cell (p := ⟨g16, 0, none⟩) l16).trans x16a, (hW.cell (p := ⟨g16, 1, none⟩) l16).trans x16b⟩ : _ ∧ _)
                      clear b16 x16a x16b
                      have y1a := cell_of_row _ _ 0 _ _ _ hg1
                      have y1b := cell_of_row _ _ 1 _ _ _ hg1
                      have y1c := cell_of_row _ _ 2 _ _ _ hg1
                      have y1d := cell_of_row _ _ 3 _ _ _ hg1
                      simp only [List.getElem?_toArray, List.getElem?_cons_zero, List.getElem?_cons_succ] at y1a y1b y1c y1d
                      have l1 := heap_lt hg1
                      clear hg1
                      obtain ⟨q8b, q8o, q8B, q8d, rfl, -, q8l, q8a0, q8a1, q8a2, q8a3, q8s⟩ := pk_at (p := pS) p8 (i := 0) rfl
                      simp only [Nat.zero_mul, Nat.add_zero] at q8a0 q8a1 q8a2 q8a3
                      obtain ⟨q9b, q9o, q9B, q9d, rfl, -, q9l, q9a0, q9a1, q9a2, q9a3, q9s⟩ := pk_at (p := pX) s9 (i := 0) rfl
                      simp only [Nat.zero_mul, Nat.add_zero] at q9a0 q9a1 q9a2 q9a3
                      obtain ⟨q2b, q2o, q2B, q2d, rfl, -, q2l, q2a0, q2a1, q2a2, q2a3, q2s⟩ := pk_at (p := pS) s2 (i := 0) rfl
                      simp only [Nat.zero_mul, Nat.add_zero] at q2a0 q2a1 q2a2 q2a3
                      obtain ⟨q15b, q15o, q15B, q15d, rfl, -, q15l, q15a0, q15a1, q15a2, q15a3, q15s⟩ := pk_at (p := pM) s15 (i := 1) rfl
                      simp only [Nat.one_mul] at q15a0 q15a1 q15a2 q15a3
                      have ba : ∀ W o, Below w10.heap.size w10 W → Below w10.heap.size w10 (W.alloc o) := fun W o h => h.alloc h.size o
                      have br : Below w10.heap.size w10 w10 := Below.refl _ _
                      have rc := fun W (hW : Below w10.heap.size w10 W) b o (hb : b < w10.heap.size) => hW.cell (p := ⟨b, o, none⟩) hb
                      have bc : ∀ W W', Below w10.heap.size w10 W → Below W.heap.size W W' → Below w10.heap.size w10 W' := fun W W' h k => h.trans (k.mono h.size)
                      have cv9 : ∀ W, Below w10.heap.size w10 W → (convert 30 9 (.slice q9B 2 q9d)).run Try.prog W = .ok (.string ⟨#[10, 21]⟩) W := fun W hW => convB q9s W (Below.agree hW)
                      have cv2 : ∀ W, Below w10.heap.size w10 W → (convert 30 9 (.slice q2B 2 q2d)).run Try.prog W = .ok (.string ⟨#[10, 20]⟩) W := fun W hW => convB q2s W (Below.agree hW)
                      have cl20 : ∀ W : World, (convert 30 9 (.slice (some ⟨W.heap.size, 0, none⟩) 2 2)).run Try.prog (W.alloc (.cells #[.int .u8 10, .int .u8 20] 5)) = .ok (.string ⟨#[10, 20]⟩) (W.alloc (.cells #[.int .u8 10, .int .u8 20] 5)) := fun W => convB (S := fun _ => True) (l := [10, 20]) (Sl.lit (S := fun _ => True) (cs := [.int .u8 10, .int .u8 20]) (u8_elems [10, 20]) (by unfold maxLen; simp) (fun _ _ _ => trivial) trivial) _ (Agree.refl _ _)
                      have cl21 : ∀ W : World, (convert 30 9 (.slice (some ⟨W.heap.size, 0, none⟩) 2 2)).run Try.prog (W.alloc (.cells #[.int .u8 10, .int .u8 21] 5)) = .ok (.string ⟨#[10, 21]⟩) (W.alloc (.cells #[.int .u8 10, .int .u8 21] 5)) := fun W => convB (S := fun _ => True) (l := [10, 21]) (Sl.lit (S := fun _ => True) (cs := [.int .u8 10, .int .u8 21]) (u8_elems [10, 21]) (by unfold maxLen; simp) (fun _ _ _ => trivial) trivial) _ (Agree.refl _ _)
                      have cm20 : ∀ W : World, (convert 30 9 (.slice (some ⟨W.heap.size, 0, none⟩) 2 2)).run Try.prog ((W.alloc (.cells #[.int .u8 10, .int .u8 20] 5)).alloc (.cells #[.int .u8 10, .int .u8 21] 5)) = .ok (.string ⟨#[10, 20]⟩) ((W.alloc (.cells #[.int .u8 10, .int .u8 20] 5)).alloc (.cells #[.int .u8 10, .int .u8 21] 5)) := fun W => convB (S := fun _ => True) (l := [10, 20]) (Sl.lit (S := fun _ => True) (cs := [.int .u8 10, .int .u8 20]) (u8_elems [10, 20]) (by unfold maxLen; simp) (fun _ _ _ => trivial) trivial) _ ((Agree.refl _ _).alloc _)
                      have cn20 : ∀ W : World, (convert 30 9 (.slice (some ⟨W.heap.size + 1, 0, none⟩) 2 2)).run Try.prog ((W.alloc (.cells #[.int .u8 10, .int .u8 21] 5)).alloc (.cells #[.int .u8 10, .int .u8 20] 5)) = .ok (.string ⟨#[10, 20]⟩) ((W.alloc (.cells #[.int .u8 10, .int .u8 21] 5)).alloc (.cells #[.int .u8 10, .int .u8 20] 5)) := fun W => by have h := cl20 (W.alloc (.cells #[.int .u8 10, .int .u8 21] 5)); rw [show (W.alloc (.cells #[.int .u8 10, .int .u8 21] 5)).heap.size = W.heap.size + 1 by simp] at h; exact h
                      have cm21 : ∀ W : World, (convert 30 9 (.slice (some ⟨W.heap.size, 0, none⟩) 2 2)).run Try.prog ((W.alloc (.cells #[.int .u8 10, .int .u8 21] 5)).alloc (.cells #[.int .u8 10, .int .u8 20] 5)) = .ok (.string ⟨#[10, 21]⟩) ((W.alloc (.cells #[.int .u8 10, .int .u8 21] 5)).alloc (.cells #[.int .u8 10, .int .u8 20] 5)) := fun W => convB (S := fun _ => True) (l := [10, 21]) (Sl.lit (S := fun _ => True) (cs := [.int .u8 10, .int .u8 21]) (u8_elems [10, 21]) (by unfold maxLen; simp) (fun _ _ _ => trivial) trivial) _ ((Agree.refl _ _).alloc _)
                      have cn21 : ∀ W : World, (convert 30 9 (.slice (some ⟨W.heap.size + 1, 0, none⟩) 2 2)).run Try.prog ((W.alloc (.cells #[.int .u8 10, .int .u8 20] 5)).alloc (.cells #[.int .u8 10, .int .u8 21] 5)) = .ok (.string ⟨#[10, 21]⟩) ((W.alloc (.cells #[.int .u8 10, .int .u8 20] 5)).alloc (.cells #[.int .u8 10, .int .u8 21] 5)) := fun W => by have h := cl21 (W.alloc (.cells #[.int .u8 10, .int .u8 20] 5)); rw [show (W.alloc (.cells #[.int .u8 10, .int .u8 20] 5)).heap.size = W.heap.size + 1 by simp] at h; exact h
                      replace q8a0 : w10.cell? ⟨q8b, q8o, none⟩ = some (.int .i64 1) := q8a0
                      replace q8a1 : w10.cell? ⟨q8b, q8o + 1, none⟩ = some (.int .i64 2) := q8a1
                      replace q8a2 : w10.cell? ⟨q8b, q8o + 2, none⟩ = some (.int .i64 5) := q8a2
                      replace q8a3 : w10.cell? ⟨q8b, q8o + 3, none⟩ = some (.slice q8B 2 q8d) := q8a3
                      replace q9a3 : w10.cell? ⟨q9b, q9o + 3, none⟩ = some (.slice q9B 2 q9d) := q9a3
                      replace q2a3 : w10.cell? ⟨q2b, q2o + 3, none⟩ = some (.slice q2B 2 q2d) := q2a3
                      simp only [Nat.add_assoc, Nat.reduceAdd] at q15a2
                      replace q15a2 : w10.cell? ⟨q15b, q15o + 6, none⟩ = some (.int .i64 5) := q15a2
                      clear q9a0 q9a1 q9a2 q2a0 q2a1 q2a2 q15a0 q15a1 q15a3
                      have fld : ∀ W : World, (Instr.field 26 (.agg #[.int .i64 0, .slice none 0 0]) 0).run Try.prog W = .ok (.int .i64 0) W := fun _ => by kernel_rfl
                      go_wp2_with fail
                      simp only [List.append]
                      refine wp_region_noPanic ?_
                      refine wp_region_held_drew (S := fun X => Below w10.heap.size w10 X) (by kernel_rfl) ?_ (fun hHeld => ?_)
                      · (first | with_reducible assumption | (with_reducible refine Below.drew ?_; with_reducible assumption) | (with_reducible refine ba _ _ ?_; with_reducible assumption) | (refine bc _ _ (by assumption) (by assumption)))
                      refine wpAnyH_take (i := 0) (oi := ?o0) (v := ?v0) ?h0 ?p0 ?q0 ?r0 (fun _ _ _ h => h) (Or.inl ⟨?s0, ?y0⟩) (by assumption) ?n0
                      case h0 => simp only [List.getElem?_toArray, List.getElem?_cons_zero]; rfl
                      case p0 => kernel_rfl
                      case q0 => kernel_rfl
                      case r0 => kernel_rfl
                      case s0 => rfl
                      case y0 => (intro w hSw; (try dsimp only at hSw); go_simp <;> with_reducible rfl)
                      try simp only [Act.put, List.setIfInBounds_toArray, List.set_cons_zero, List.set_cons_succ]
                      refine wpAnyH_take (i := 1) (oi := ?o1) (v := ?v1) ?h1 ?p1 ?q1 ?r1 (fun _ _ _ h => h) (Or.inl ⟨?s1, ?y1⟩) (by assumption) ?n1
                      case h1 => simp only [List.getElem?_toArray, List.getElem?_cons_succ, List.getElem?_cons_zero]; rfl
                      case p1 => kernel_rfl
                      case q1 => kernel_rfl
                      case r1 => kernel_rfl
                      case s1 => rfl
                      case y1 => (intro w hSw; (try dsimp only at hSw); go_simp <;> with_reducible rfl)
                      try simp only [Act.put, List.setIfInBounds_toArray, List.set_cons_zero, List.set_cons_succ]
                      refine wpAnyH_ready (rs := [2]) (by kernel_rfl) (by simp) ?_
                      refine AllReadyH.cons (o := ?o2) ?h2 (fun K hK => ?k2) AllReadyH.nil
                      case h2 => simp only [List.getElem?_toArray, List.getElem?_cons_succ, List.getElem?_cons_zero]; rfl
                      (go_simp; go_at_call 19; ((with_reducible refine (sameS (S := fun _ => True) (T := fun _ => True) (n := nS) _ (s3.keep (Below.agree ?_)) (s2.keep (Below.agree ?_)) nS_now nS_len nS_now nS_len).mono ?_)); rotate_left 2; rintro e w4 ⟨rfl, hb4⟩; rotate_right 2; assumption; assumption; have hk := bc _ _ (by assumption) hb4; try clear hb4)
                      refine hK.out _ _ ?_ (fun hHeld => ?_)
                      · (first | with_reducible assumption | (with_reducible refine Below.drew ?_; with_reducible assumption) | (with_reducible refine ba _ _ ?_; with_reducible assumption) | (refine bc _ _ (by assumption) (by assumption)))
                      clear hK K
                      try simp only [Act.put, List.setIfInBounds_toArray, List.set_cons_zero, List.set_cons_succ]
                      refine wpAnyH_take (i := 3) (oi := ?o3) (v := ?v3) ?h3 ?p3 ?q3 ?r3 (fun _ _ _ h => h) (Or.inl ⟨?s3, ?y3⟩) (by assumption) ?n3
                      case h3 => simp only [List.getElem?_toArray, List.getElem?_cons_succ, List.getElem?_cons_zero]; rfl
                      case p3 => kernel_rfl
                      case q3 => kernel_rfl
                      case r3 => kernel_rfl
                      case s3 => rfl
                      case y3 => (intro w hSw; (try dsimp only at hSw); go_simp <;> with_reducible rfl)
                      try simp only [Act.put, List.setIfInBounds_toArray, List.set_cons_zero, List.set_cons_succ]
                      refine wpAnyH_take (i := 4) (oi := ?o4) (v := ?v4) ?h4 ?p4 ?q4 ?r4 (fun _ _ _ h => h) (Or.inl ⟨?s4, ?y4⟩) (by assumption) ?n4
                      case h4 => simp only [List.getElem?_toArray, List.getElem?_cons_succ, List.getElem?_cons_zero]; rfl
                      case p4 => kernel_rfl
                      case q4 => kernel_rfl
                      case r4 => kernel_rfl
                      case s4 => rfl
                      case y4 => (intro w hSw; (try dsimp only at hSw); go_simp <;> with_reducible rfl)
                      try simp only [Act.put, List.setIfInBounds_toArray, List.set_cons_zero, List.set_cons_succ]
                      refine wpAnyH_take (i := 5) (oi := ?o5) (v := ?v5) ?h5 ?p5 ?q5 ?r5 (fun _ _ _ h => h) (Or.inl ⟨?s5, ?y5⟩) (by assumption) ?n5
                      case h5 => simp only [List.getElem?_toArray, List.getElem?_cons_succ, List.getElem?_cons_zero]; rfl
                      case p5 => kernel_rfl
                      case q5 => kernel_rfl
                      case r5 => kernel_rfl
                      case s5 => rfl
                      case y5 => (intro w hSw; (try dsimp only at hSw); go_simp <;> with_reducible rfl)
                      try simp only [Act.put, List.setIfInBounds_toArray, List.set_cons_zero, List.set_cons_succ]
                      refine wpAnyH_take (i := 6) (oi := ?o6) (v := ?v6) ?h6 ?p6 ?q6 ?r6 (fun _ _ _ h => h) (Or.inl ⟨?s6, ?y6⟩) (by assumption) ?n6
                      case h6 => simp only [List.getElem?_toArray, List.getElem?_cons_succ, List.getElem?_cons_zero]; rfl
                      case p6 => kernel_rfl
                      case q6 => kernel_rfl
                      case r6 => kernel_rfl
                      case s6 => rfl
                      case y6 => (intro w hSw; (try dsimp only at hSw); go_simp <;> with_reducible rfl)
                      try simp only [Act.put, List.setIfInBounds_toArray, List.set_cons_zero, List.set_cons_succ]
                      refine wpAnyH_take (i := 7) (oi := ?o7) (v := ?v7) ?h7 ?p7 ?q7 ?r7 (fun _ _ _ h => h) (Or.inl ⟨?s7, ?y7⟩) (by assumption) ?n7
                      case h7 => simp only [List.getElem?_toArray, List.getElem?_cons_succ, List.getElem?_cons_zero]; rfl
                      case p7 => kernel_rfl
                      case q7 => kernel_rfl
                      case r7 => kernel_rfl
                      case s7 => rfl
                      case y7 => (intro w hSw; (try dsimp only at hSw); go_simp <;> with_reducible rfl)
                      try simp only [Act.put, List.setIfInBounds_toArray, List.set_cons_zero, List.set_cons_succ]
                      refine wpAnyH_take (i := 8) (oi := ?o8) (v := ?v8) ?h8 ?p8 ?q8 ?r8 (fun _ _ _ h => h) (Or.inl ⟨?s8, ?y8⟩) (by assumption) ?n8
                      case h8 => simp only [List.getElem?_toArray, List.getElem?_cons_succ, List.getElem?_cons_zero]; rfl
                      case p8 => kernel_rfl
                      case q8 => kernel_rfl
                      case r8 => kernel_rfl
                      case s8 => rfl
                      case y8 => (intro w hSw; (try dsimp only at hSw); go_simp <;> with_reducible rfl)
                      try simp only [Act.put, List.setIfInBounds_toArray, List.set_cons_zero, List.set_cons_succ]
                      refine wpAnyH_take (i := 9) (oi := ?o9) (v := ?v9) ?h9 ?p9 ?q9 ?r9 (fun _ _ _ h => h) (Or.inl ⟨?s9, ?y9⟩) (by assumption) ?n9
                      case h9 => simp only [List.getElem?_toArray, List.getElem?_cons_succ, List.getElem?_cons_zero]; rfl
                      case p9 => kernel_rfl
                      case q9 => kernel_rfl
                      case r9 => kernel_rfl
                      case s9 => rfl
                      case y9 => (intro w hSw; (try dsimp only at hSw); go_simp <;> with_reducible rfl)
                      try simp only [Act.put, List.setIfInBounds_toArray, List.set_cons_zero, List.set_cons_succ]
                      refine wpAnyH_take (i := 10) (oi := ?o10) (v := ?v10) ?h10 ?p10 ?q10 ?r10 (fun _ _ _ h => h) (Or.inl ⟨?s10, ?y10⟩) (by assumption) ?n10
                      case h10 => simp only [List.getElem?_toArray, List.getElem?_cons_succ, List.getElem?_cons_zero]; rfl
                      case p10 => kernel_rfl
                      case q10 => kernel_rfl
                      case r10 => kernel_rfl
                      case s10 => rfl
                      case y10 => (intro w hSw; (try dsimp only at hSw); go_simp <;> with_reducible rfl)
                      try simp only [Act.put, List.setIfInBounds_toArray, List.set_cons_zero, List.set_cons_succ]
                      refine wpAnyH_take (i := 11) (oi := ?o11) (v := ?v11) ?h11 ?p11 ?q11 ?r11 (fun _ _ _ h => h) (Or.inl ⟨?s11, ?y11⟩) (by assumption) ?n11
                      case h11 => simp only [List.getElem?_toArray, List.getElem?_cons_succ, List.getElem?_cons_zero]; rfl
                      case p11 => kernel_rfl
                      case q11 => kernel_rfl
                      case r11 => kernel_rfl
                      case s11 => rfl
                      case y11 => (intro w hSw; (try dsimp only at hSw); go_simp <;> with_reducible rfl)
                      try simp only [Act.put, List.setIfInBounds_toArray, List.set_cons_zero, List.set_cons_succ]
                      refine wpAnyH_take (i := 12) (oi := ?o12) (v := ?v12) ?h12 ?p12 ?q12 ?r12 (fun _ _ _ h => h) (Or.inl ⟨?s12, ?y12⟩) (by assumption) ?n12
                      case h12 => simp only [List.getElem?_toArray, List.getElem?_cons_succ, List.getElem?_cons_zero]; rfl
                      case p12 => kernel_rfl
                      case q12 => kernel_rfl
                      case r12 => kernel_rfl
                      case s12 => rfl
                      case y12 => (intro w hSw; (try dsimp only at hSw); go_simp <;> with_reducible rfl)
                      try simp only [Act.put, List.setIfInBounds_toArray, List.set_cons_zero, List.set_cons_succ]
                      refine wpAnyH_take (i := 13) (oi := ?o13) (v := ?v13) ?h13 ?p13 ?q13 ?r13 (fun _ _ _ h => h) (Or.inl ⟨?s13, ?y13⟩) (by assumption) ?n13
                      case h13 => simp only [List.getElem?_toArray, List.getElem?_cons_succ, List.getElem?_cons_zero]; rfl
                      case p13 => kernel_rfl
                      case q13 => kernel_rfl
                      case r13 => kernel_rfl
                      case s13 => rfl
                      case y13 => (intro w hSw; (try dsimp only at hSw); go_simp <;> with_reducible rfl)
                      try simp only [Act.put, List.setIfInBounds_toArray, List.set_cons_zero, List.set_cons_succ]
                      refine wpAnyH_take (i := 14) (oi := ?o14) (v := ?v14) ?h14 ?p14 ?q14 ?r14 (fun _ _ _ h => h) (Or.inl ⟨?s14, ?y14⟩) (by assumption) ?n14
                      case h14 => simp only [List.getElem?_toArray, List.getElem?_cons_succ, List.getElem?_cons_zero]; rfl
                      case p14 => kernel_rfl
                      case q14 => kernel_rfl
                      case r14 => kernel_rfl
                      case s14 => rfl
                      case y14 => (intro w hSw; (try dsimp only at hSw); go_simp <;> with_reducible rfl)
                      try simp only [Act.put, List.setIfInBounds_toArray, List.set_cons_zero, List.set_cons_succ]
                      refine wpAnyH_take (i := 15) (oi := ?o15) (v := ?v15) ?h15 ?p15 ?q15 ?r15 (fun _ _ _ h => h) (Or.inl ⟨?s15, ?y15⟩) (by assumption) ?n15
                      case h15 => simp only [List.getElem?_toArray, List.getElem?_cons_succ, List.getElem?_cons_zero]; rfl
                      case p15 => kernel_rfl
                      case q15 => kernel_rfl
                      case r15 => kernel_rfl
                      case s15 => rfl
                      case y15 => (intro w hSw; (try dsimp only at hSw); go_simp <;> with_reducible rfl)
                      try simp only [Act.put, List.setIfInBounds_toArray, List.set_cons_zero, List.set_cons_succ]
                      refine wpAnyH_take (i := 16) (oi := ?o16) (v := ?v16) ?h16 ?p16 ?q16 ?r16 (fun _ _ _ h => h) (Or.inl ⟨?s16, ?y16⟩) (by assumption) ?n16
                      case h16 => simp only [List.getElem?_toArray, List.getElem?_cons_succ, List.getElem?_cons_zero]; rfl
                      case p16 => kernel_rfl
                      case q16 => kernel_rfl
                      case r16 => kernel_rfl
                      case s16 => rfl
                      case y16 => (intro w hSw; (try dsimp only at hSw); go_simp <;> with_reducible rfl)
                      try simp only [Act.put, List.setIfInBounds_toArray, List.set_cons_zero, List.set_cons_succ]
                      refine wpAnyH_take (i := 17) (oi := ?o17) (v := ?v17) ?h17 ?p17 ?q17 ?r17 (fun _ _ _ h => h) (Or.inl ⟨?s17, ?y17⟩) (by assumption) ?n17
                      case h17 => simp only [List.getElem?_toArray, List.getElem?_cons_succ, List.getElem?_cons_zero]; rfl
                      case p17 => kernel_rfl
                      case q17 => kernel_rfl
                      case r17 => kernel_rfl
                      case s17 => rfl
                      case y17 => (intro w hSw; (try dsimp only at hSw); go_simp <;> with_reducible rfl)
                      try simp only [Act.put, List.setIfInBounds_toArray, List.set_cons_zero, List.set_cons_succ]
                      refine wpAnyH_take (i := 18) (oi := ?o18) (v := ?v18) ?h18 ?p18 ?q18 ?r18 (fun _ _ _ h => h) (Or.inl ⟨?s18, ?y18⟩) (by assumption) ?n18
                      case h18 => simp only [List.getElem?_toArray, List.getElem?_cons_succ, List.getElem?_cons_zero]; rfl
                      case p18 => kernel_rfl
                      case q18 => kernel_rfl
                      case r18 => kernel_rfl
                      case s18 => rfl
                      case y18 => (intro w hSw; (try dsimp only at hSw); go_simp <;> with_reducible rfl)
                      try simp only [Act.put, List.setIfInBounds_toArray, List.set_cons_zero, List.set_cons_succ]
                      refine wpAnyH_take (i := 19) (oi := ?o19) (v := ?v19) ?h19 ?p19 ?q19 ?r19 (fun _ _ _ h => h) (Or.inl ⟨?s19, ?y19⟩) (by assumption) ?n19
                      case h19 => simp only [List.getElem?_toArray, List.getElem?_cons_succ, List.getElem?_cons_zero]; rfl
                      case p19 => kernel_rfl
                      case q19 => kernel_rfl
                      case r19 => kernel_rfl
                      case s19 => rfl
                      case y19 => (intro w hSw; (try dsimp only at hSw); go_simp <;> with_reducible rfl)
                      try simp only [Act.put, List.setIfInBounds_toArray, List.set_cons_zero, List.set_cons_succ]
                      refine wpAnyH_take (i := 20) (oi := ?o20) (v := ?v20) ?h20 ?p20 ?q20 ?r20 (fun _ _ _ h => h) (Or.inl ⟨?s20, ?y20⟩) (by assumption) ?n20
                      case h20 => simp only [List.getElem?_toArray, List.getElem?_cons_succ, List.getElem?_cons_zero]; rfl
                      case p20 => kernel_rfl
                      case q20 => kernel_rfl
                      case r20 => kernel_rfl
                      case s20 => rfl
                      case y20 => (intro w hSw; (try dsimp only at hSw); go_simp <;> with_reducible rfl)
                      try simp only [Act.put, List.setIfInBounds_toArray, List.set_cons_zero, List.set_cons_succ]
                      refine wpAnyH_take (i := 21) (oi := ?o21) (v := ?v21) ?h21 ?p21 ?q21 ?r21 (fun _ _ _ h => h) (Or.inl ⟨?s21, ?y21⟩) (by assumption) ?n21
                      case h21 => simp only [List.getElem?_toArray, List.getElem?_cons_succ, List.getElem?_cons_zero]; rfl
                      case p21 => kernel_rfl
                      case q21 => kernel_rfl
                      case r21 => kernel_rfl
                      case s21 => rfl
                      case y21 => (intro w hSw; (try dsimp only at hSw); go_simp <;> with_reducible rfl)
                      try simp only [Act.put, List.setIfInBounds_toArray, List.set_cons_zero, List.set_cons_succ]
                      refine wpAnyH_take (i := 22) (oi := ?o22) (v := ?v22) ?h22 ?p22 ?q22 ?r22 (fun _ _ _ h => h) (Or.inl ⟨?s22, ?y22⟩) (by assumption) ?n22
                      case h22 => simp only [List.getElem?_toArray, List.getElem?_cons_succ, List.getElem?_cons_zero]; rfl
                      case p22 => kernel_rfl
                      case q22 => kernel_rfl
                      case r22 => kernel_rfl
                      case s22 => rfl
                      case y22 => (intro w hSw; (try dsimp only at hSw); go_simp <;> with_reducible rfl)
                      try simp only [Act.put, List.setIfInBounds_toArray, List.set_cons_zero, List.set_cons_succ]
                      refine wpAnyH_take (i := 23) (oi := ?o23) (v := ?v23) ?h23 ?p23 ?q23 ?r23 (fun _ _ _ h => h) (Or.inl ⟨?s23, ?y23⟩) (by assumption) ?n23
                      case h23 => simp only [List.getElem?_toArray, List.getElem?_cons_succ, List.getElem?_cons_zero]; rfl
                      case p23 => kernel_rfl
                      case q23 => kernel_rfl
                      case r23 => kernel_rfl
                      case s23 => rfl
                      case y23 => (intro w hSw; (try dsimp only at hSw); go_simp <;> with_reducible rfl)
                      try simp only [Act.put, List.setIfInBounds_toArray, List.set_cons_zero, List.set_cons_succ]
                      refine wpAnyH_ready (rs := [24]) (by kernel_rfl) (by simp) ?_
                      refine AllReadyH.cons (o := ?o24) ?h24 (fun K hK => ?k24) AllReadyH.nil
                      case h24 => simp only [List.getElem?_toArray, List.getElem?_cons_succ, List.getElem?_cons_zero]; rfl
                      (go_simp; go_at_call 22; ((with_reducible refine (samePacketS (S := fun _ => True) (T := fun _ => True) (p := pS) _ (q8s.keep (Below.agree ?_)) (hs1.keep (Below.agree ?_)) pS_fr pS_to pS_at pS_len pS_fr pS_to pS_at pS_len).mono ?_)); rotate_left 2; rintro e w4 ⟨rfl, hb4⟩; rotate_right 2; assumption; assumption; have hk := bc _ _ (by assumption) hb4; try clear hb4)
                      refine hK.out _ _ ?_ (fun hHeld => ?_)
                      · (first | with_reducible assumption | (with_reducible refine Below.drew ?_; with_reducible assumption) | (with_reducible refine ba _ _ ?_; with_reducible assumption) | (refine bc _ _ (by assumption) (by assumption)))
                      clear hK K
                      try simp only [Act.put, List.setIfInBounds_toArray, List.set_cons_zero, List.set_cons_succ]
                      refine wpAnyH_take (i := 25) (oi := ?o25) (v := ?v25) ?h25 ?p25 ?q25 ?r25 (fun _ _ _ h => h) (Or.inl ⟨?s25, ?y25⟩) (by assumption) ?n25
                      case h25 => simp only [List.getElem?_toArray, List.getElem?_cons_succ, List.getElem?_cons_zero]; rfl
                      case p25 => kernel_rfl
                      case q25 => kernel_rfl
                      case r25 => kernel_rfl
                      case s25 => rfl
                      case y25 => (intro w hSw; (try dsimp only at hSw); go_simp <;> with_reducible rfl)
                      try simp only [Act.put, List.setIfInBounds_toArray, List.set_cons_zero, List.set_cons_succ]
                      refine wpAnyH_take (i := 26) (oi := ?o26) (v := ?v26) ?h26 ?p26 ?q26 ?r26 (fun _ _ _ h => h) (Or.inl ⟨?s26, ?y26⟩) (by assumption) ?n26
                      case h26 => simp only [List.getElem?_toArray, List.getElem?_cons_succ, List.getElem?_cons_zero]; rfl
                      case p26 => kernel_rfl
                      case q26 => kernel_rfl
                      case r26 => kernel_rfl
                      case s26 => rfl
                      case y26 => (intro w hSw; (try dsimp only at hSw); go_simp <;> with_reducible rfl)
                      try simp only [Act.put, List.setIfInBounds_toArray, List.set_cons_zero, List.set_cons_succ]
                      refine wpAnyH_take (i := 27) (oi := ?o27) (v := ?v27) ?h27 ?p27 ?q27 ?r27 (fun _ _ _ h => h) (Or.inl ⟨?s27, ?y27⟩) (by assumption) ?n27
                      case h27 => simp only [List.getElem?_toArray, List.getElem?_cons_succ, List.getElem?_cons_zero]; rfl
                      case p27 => kernel_rfl
                      case q27 => kernel_rfl
                      case r27 => kernel_rfl
                      case s27 => rfl
                      case y27 => (intro w hSw; (try dsimp only at hSw); go_simp <;> with_reducible rfl)
                      try simp only [Act.put, List.setIfInBounds_toArray, List.set_cons_zero, List.set_cons_succ]
                      refine wpAnyH_take (i := 28) (oi := ?o28) (v := ?v28) ?h28 ?p28 ?q28 ?r28 (fun _ _ _ h => h) (Or.inl ⟨?s28, ?y28⟩) (by assumption) ?n28
                      case h28 => simp only [List.getElem?_toArray, List.getElem?_cons_succ, List.getElem?_cons_zero]; rfl
                      case p28 => kernel_rfl
                      case q28 => kernel_rfl
                      case r28 => kernel_rfl
                      case s28 => rfl
                      case y28 => (intro w hSw; (try dsimp only at hSw); go_simp <;> with_reducible rfl)
                      try simp only [Act.put, List.setIfInBounds_toArray, List.set_cons_zero, List.set_cons_succ]
                      refine wpAnyH_take (i := 29) (oi := ?o29) (v := ?v29) ?h29 ?p29 ?q29 ?r29 (fun _ _ _ h => h) (Or.inl ⟨?s29, ?y29⟩) (by assumption) ?n29
                      case h29 => simp only [List.getElem?_toArray, List.getElem?_cons_succ, List.getElem?_cons_zero]; rfl
                      case p29 => kernel_rfl
                      case q29 => kernel_rfl
                      case r29 => kernel_rfl
                      case s29 => rfl
                      case y29 => (intro w hSw; (try dsimp only at hSw); go_simp <;> with_reducible rfl)
                      try simp only [Act.put, List.setIfInBounds_toArray, List.set_cons_zero, List.set_cons_succ]
                      refine wpAnyH_take (i := 30) (oi := ?o30) (v := ?v30) ?h30 ?p30 ?q30 ?r30 (fun _ _ _ h => h) (Or.inl ⟨?s30, ?y30⟩) (by assumption) ?n30
                      case h30 => simp only [List.getElem?_toArray, List.getElem?_cons_succ, List.getElem?_cons_zero]; rfl
                      case p30 => kernel_rfl
                      case q30 => kernel_rfl
                      case r30 => kernel_rfl
                      case s30 => rfl
                      case y30 => (intro w hSw; (try dsimp only at hSw); go_simp <;> with_reducible rfl)
                      try simp only [Act.put, List.setIfInBounds_toArray, List.set_cons_zero, List.set_cons_succ]
                      refine wpAnyH_take (i := 31) (oi := ?o31) (v := ?v31) ?h31 ?p31 ?q31 ?r31 (fun _ _ _ h => h) (Or.inl ⟨?s31, ?y31⟩) (by assumption) ?n31
                      case h31 => simp only [List.getElem?_toArray, List.getElem?_cons_succ, List.getElem?_cons_zero]; rfl
                      case p31 => kernel_rfl
                      case q31 => kernel_rfl
                      case r31 => kernel_rfl
                      case s31 => rfl
                      case y31 => (intro w hSw; (try dsimp only at hSw); go_simp <;> with_reducible rfl)
                      try simp only [Act.put, List.setIfInBounds_toArray, List.set_cons_zero, List.set_cons_succ]
                      refine wpAnyH_take (i := 32) (oi := ?o32) (v := ?v32) ?h32 ?p32 ?q32 ?r32 (fun _ _ _ h => h) (Or.inl ⟨?s32, ?y32⟩) (by assumption) ?n32
                      case h32 => simp only [List.getElem?_toArray, List.getElem?_cons_succ, List.getElem?_cons_zero]; rfl
                      case p32 => kernel_rfl
                      case q32 => kernel_rfl
                      case r32 => kernel_rfl
                      case s32 => rfl
                      case y32 => (intro w hSw; (try dsimp only at hSw); go_simp <;> with_reducible rfl)
                      try simp only [Act.put, List.setIfInBounds_toArray, List.set_cons_zero, List.set_cons_succ]
                      refine wpAnyH_ready (rs := [33]) (by kernel_rfl) (by simp) ?_
                      refine AllReadyH.cons (o := ?o33) ?h33 (fun K hK => ?k33) AllReadyH.nil
                      case h33 => simp only [List.getElem?_toArray, List.getElem?_cons_succ, List.getElem?_cons_zero]; rfl
                      go_simp
                      refine hK.out _ _ ?_ (fun hHeld => ?_)
                      · (first | with_reducible assumption | (with_reducible refine Below.drew ?_; with_reducible assumption) | (with_reducible refine ba _ _ ?_; with_reducible assumption) | (refine bc _ _ (by assumption) (by assumption)))
                      clear hK K
                      try simp only [Act.put, List.setIfInBounds_toArray, List.set_cons_zero, List.set_cons_succ]
                      refine wpAnyH_ready (rs := [34]) (by kernel_rfl) (by simp) ?_
                      refine AllReadyH.cons (o := ?o34) ?h34 (fun K hK => ?k34) AllReadyH.nil
                      case h34 => simp only [List.getElem?_toArray, List.getElem?_cons_succ, List.getElem?_cons_zero]; rfl
                      go_simp
                      refine hK.out _ _ ?_ (fun hHeld => ?_)
                      · (first | with_reducible assumption | (with_reducible refine Below.drew ?_; with_reducible assumption) | (with_reducible refine ba _ _ ?_; with_reducible assumption) | (refine bc _ _ (by assumption) (by assumption)))
                      clear hK K
                      try simp only [Act.put, List.setIfInBounds_toArray, List.set_cons_zero, List.set_cons_succ]
                      refine wpAnyH_take (i := 35) (oi := ?o35) (v := ?v35) ?h35 ?p35 ?q35 ?r35 (fun _ _ _ h => h) (Or.inl ⟨?s35, ?y35⟩) (by assumption) ?n35
                      case h35 => simp only [List.getElem?_toArray, List.getElem?_cons_succ, List.getElem?_cons_zero]; rfl
                      case p35 => kernel_rfl
                      case q35 => kernel_rfl
                      case r35 => kernel_rfl
                      case s35 => rfl
                      case y35 => (intro w hSw; (try dsimp only at hSw); go_simp <;> with_reducible rfl)
                      try simp only [Act.put, List.setIfInBounds_toArray, List.set_cons_zero, List.set_cons_succ]
                      refine wpAnyH_take (i := 36) (oi := ?o36) (v := ?v36) ?h36 ?p36 ?q36 ?r36 (fun _ _ _ h => h) (Or.inl ⟨?s36, ?y36⟩) (by assumption) ?n36
                      case h36 => simp only [List.getElem?_toArray, List.getElem?_cons_succ, List.getElem?_cons_zero]; rfl
                      case p36 => kernel_rfl
                      case q36 => kernel_rfl
                      case r36 => kernel_rfl
                      case s36 => rfl
                      case y36 => (intro w hSw; (try dsimp only at hSw); go_simp <;> with_reducible rfl)
                      try simp only [Act.put, List.setIfInBounds_toArray, List.set_cons_zero, List.set_cons_succ]
                      refine wpAnyH_take (i := 37) (oi := ?o37) (v := ?v37) ?h37 ?p37 ?q37 ?r37 (fun _ _ _ h => h) (Or.inl ⟨?s37, ?y37⟩) (by assumption) ?n37
                      case h37 => simp only [List.getElem?_toArray, List.getElem?_cons_succ, List.getElem?_cons_zero]; rfl
                      case p37 => kernel_rfl
                      case q37 => kernel_rfl
                      case r37 => kernel_rfl
                      case s37 => rfl
                      case y37 => (intro w hSw; (try dsimp only at hSw); go_simp <;> with_reducible rfl)
                      try simp only [Act.put, List.setIfInBounds_toArray, List.set_cons_zero, List.set_cons_succ]
                      refine wpAnyH_take (i := 38) (oi := ?o38) (v := ?v38) ?h38 ?p38 ?q38 ?r38 (fun _ _ _ h => h) (Or.inl ⟨?s38, ?y38⟩) (by assumption) ?n38
                      case h38 => simp only [List.getElem?_toArray, List.getElem?_cons_succ, List.getElem?_cons_zero]; rfl
                      case p38 => kernel_rfl
                      case q38 => kernel_rfl
                      case r38 => kernel_rfl
                      case s38 => rfl
                      case y38 => (intro w hSw; (try dsimp only at hSw); go_simp <;> with_reducible rfl)
                      try simp only [Act.put, List.setIfInBounds_toArray, List.set_cons_zero, List.set_cons_succ]
                      refine wpAnyH_take (i := 39) (oi := ?o39) (v := ?v39) ?h39 ?p39 ?q39 ?r39 (fun _ _ _ h => h) (Or.inl ⟨?s39, ?y39⟩) (by assumption) ?n39
                      case h39 => simp only [List.getElem?_toArray, List.getElem?_cons_succ, List.getElem?_cons_zero]; rfl
                      case p39 => kernel_rfl
                      case q39 => kernel_rfl
                      case r39 => kernel_rfl
                      case s39 => rfl
                      case y39 => (intro w hSw; (try dsimp only at hSw); go_simp <;> with_reducible rfl)
                      try simp only [Act.put, List.setIfInBounds_toArray, List.set_cons_zero, List.set_cons_succ]
                      refine wpAnyH_take (i := 40) (oi := ?o40) (v := ?v40) ?h40 ?p40 ?q40 ?r40 (fun _ _ _ h => h) (Or.inl ⟨?s40, ?y40⟩) (by assumption) ?n40
                      case h40 => simp only [List.getElem?_toArray, List.getElem?_cons_succ, List.getElem?_cons_zero]; rfl
                      case p40 => kernel_rfl
                      case q40 => kernel_rfl
                      case r40 => kernel_rfl
                      case s40 => rfl
                      case y40 => (intro w hSw; (try dsimp only at hSw); go_simp <;> with_reducible rfl)
                      try simp only [Act.put, List.setIfInBounds_toArray, List.set_cons_zero, List.set_cons_succ]
                      refine wpAnyH_take (i := 41) (oi := ?o41) (v := ?v41) ?h41 ?p41 ?q41 ?r41 (fun _ _ _ h => h) (Or.inl ⟨?s41, ?y41⟩) (by assumption) ?n41
                      case h41 => simp only [List.getElem?_toArray, List.getElem?_cons_succ, List.getElem?_cons_zero]; rfl
                      case p41 => kernel_rfl
                      case q41 => kernel_rfl
                      case r41 => kernel_rfl
                      case s41 => rfl
                      case y41 => (intro w hSw; (try dsimp only at hSw); go_simp <;> with_reducible rfl)
                      try simp only [Act.put, List.setIfInBounds_toArray, List.set_cons_zero, List.set_cons_succ]
                      refine wpAnyH_take (i := 42) (oi := ?o42) (v := ?v42) ?h42 ?p42 ?q42 ?r42 (fun _ _ _ h => h) (Or.inl ⟨?s42, ?y42⟩) (by assumption) ?n42
                      case h42 => simp only [List.getElem?_toArray, List.getElem?_cons_succ, List.getElem?_cons_zero]; rfl
                      case p42 => kernel_rfl
                      case q42 => kernel_rfl
                      case r42 => kernel_rfl
                      case s42 => rfl
                      case y42 => (intro w hSw; (try dsimp only at hSw); go_simp <;> with_reducible rfl)
                      try simp only [Act.put, List.setIfInBounds_toArray, List.set_cons_zero, List.set_cons_succ]
                      refine wpAnyH_take (i := 43) (oi := ?o43) (v := ?v43) ?h43 ?p43 ?q43 ?r43 (fun _ _ _ h => h) (Or.inl ⟨?s43, ?y43⟩) (by assumption) ?n43
                      case h43 => simp only [List.getElem?_toArray, List.getElem?_cons_succ, List.getElem?_cons_zero]; rfl
                      case p43 => kernel_rfl
                      case q43 => kernel_rfl
                      case r43 => kernel_rfl
                      case s43 => rfl
                      case y43 => (intro w hSw; (try dsimp only at hSw); go_simp <;> with_reducible rfl)
                      try simp only [Act.put, List.setIfInBounds_toArray, List.set_cons_zero, List.set_cons_succ]
                      refine wpAnyH_ready (rs := [44]) (by kernel_rfl) (by simp) ?_
                      refine AllReadyH.cons (o := ?o44) ?h44 (fun K hK => ?k44) AllReadyH.nil
                      case h44 => simp only [List.getElem?_toArray, List.getElem?_cons_succ, List.getElem?_cons_zero]; rfl
                      go_simp
                      refine hK.out _ _ ?_ (fun hHeld => ?_)
                      · (first | with_reducible assumption | (with_reducible refine Below.drew ?_; with_reducible assumption) | (with_reducible refine ba _ _ ?_; with_reducible assumption) | (refine bc _ _ (by assumption) (by assumption)))
                      clear hK K
                      try simp only [Act.put, List.setIfInBounds_toArray, List.set_cons_zero, List.set_cons_succ]
                      refine wpAnyH_ready (rs := [45]) (by kernel_rfl) (by simp) ?_
                      refine AllReadyH.cons (o := ?o45) ?h45 (fun K hK => ?k45) AllReadyH.nil
                      case h45 => simp only [List.getElem?_toArray, List.getElem?_cons_succ, List.getElem?_cons_zero]; rfl
                      go_simp
                      refine hK.out _ _ ?_ (fun hHeld => ?_)
                      · (first | with_reducible assumption | (with_reducible refine Below.drew ?_; with_reducible assumption) | (with_reducible refine ba _ _ ?_; with_reducible assumption) | (refine bc _ _ (by assumption) (by assumption)))
                      clear hK K
                      try simp only [Act.put, List.setIfInBounds_toArray, List.set_cons_zero, List.set_cons_succ]
                      refine wpAnyH_take (i := 46) (oi := ?o46) (v := ?v46) ?h46 ?p46 ?q46 ?r46 (fun _ _ _ h => h) (Or.inl ⟨?s46, ?y46⟩) (by assumption) ?n46
                      case h46 => simp only [List.getElem?_toArray, List.getElem?_cons_succ, List.getElem?_cons_zero]; rfl
                      case p46 => kernel_rfl
                      case q46 => kernel_rfl
                      case r46 => kernel_rfl
                      case s46 => rfl
                      case y46 => (intro w hSw; (try dsimp only at hSw); go_simp <;> with_reducible rfl)
                      try simp only [Act.put, List.setIfInBounds_toArray, List.set_cons_zero, List.set_cons_succ]
                      refine wpAnyH_take (i := 47) (oi := ?o47) (v := ?v47) ?h47 ?p47 ?q47 ?r47 (fun _ _ _ h => h) (Or.inl ⟨?s47, ?y47⟩) (by assumption) ?n47
                      case h47 => simp only [List.getElem?_toArray, List.getElem?_cons_succ, List.getElem?_cons_zero]; rfl
                      case p47 => kernel_rfl
                      case q47 => kernel_rfl
                      case r47 => kernel_rfl
                      case s47 => rfl
                      case y47 => (intro w hSw; (try dsimp only at hSw); go_simp <;> with_reducible rfl)
                      try simp only [Act.put, List.setIfInBounds_toArray, List.set_cons_zero, List.set_cons_succ]
                      refine wpAnyH_take (i := 48) (oi := ?o48) (v := ?v48) ?h48 ?p48 ?q48 ?r48 (fun _ _ _ h => h) (Or.inl ⟨?s48, ?y48⟩) (by assumption) ?n48
                      case h48 => simp only [List.getElem?_toArray, List.getElem?_cons_succ, List.getElem?_cons_zero]; rfl
                      case p48 => kernel_rfl
                      case q48 => kernel_rfl
                      case r48 => kernel_rfl
                      case s48 => rfl
                      case y48 => (intro w hSw; (try dsimp only at hSw); go_simp <;> with_reducible rfl)
                      try simp only [Act.put, List.setIfInBounds_toArray, List.set_cons_zero, List.set_cons_succ]
                      refine wpAnyH_take (i := 49) (oi := ?o49) (v := ?v49) ?h49 ?p49 ?q49 ?r49 (fun _ _ _ h => h) (Or.inl ⟨?s49, ?y49⟩) (by assumption) ?n49
                      case h49 => simp only [List.getElem?_toArray, List.getElem?_cons_succ, List.getElem?_cons_zero]; rfl
                      case p49 => kernel_rfl
                      case q49 => kernel_rfl
                      case r49 => kernel_rfl
                      case s49 => rfl
                      case y49 => (intro w hSw; (try dsimp only at hSw); go_simp <;> with_reducible rfl)
                      try simp only [Act.put, List.setIfInBounds_toArray, List.set_cons_zero, List.set_cons_succ]
                      refine wpAnyH_take (i := 50) (oi := ?o50) (v := ?v50) ?h50 ?p50 ?q50 ?r50 (fun _ _ _ h => h) (Or.inl ⟨?s50, ?y50⟩) (by assumption) ?n50
                      case h50 => simp only [List.getElem?_toArray, List.getElem?_cons_succ, List.getElem?_cons_zero]; rfl
                      case p50 => kernel_rfl
                      case q50 => kernel_rfl
                      case r50 => kernel_rfl
                      case s50 => rfl
                      case y50 => (intro w hSw; (try dsimp only at hSw); go_simp <;> with_reducible rfl)
                      try simp only [Act.put, List.setIfInBounds_toArray, List.set_cons_zero, List.set_cons_succ]
                      refine wpAnyH_ready (rs := [51]) (by kernel_rfl) (by simp) ?_
                      refine AllReadyH.cons (o := ?o51) ?h51 (fun K hK => ?k51) AllReadyH.nil
                      case h51 => simp only [List.getElem?_toArray, List.getElem?_cons_succ, List.getElem?_cons_zero]; rfl
                      (go_simp; go_at_call 19; ((with_reducible refine (sameS (S := fun _ => True) (T := fun _ => True) (n := nS) _ (s13.keep (Below.agree ?_)) (s2.keep (Below.agree ?_)) nS_now nS_len nS_now nS_len).mono ?_)); rotate_left 2; rintro e w4 ⟨rfl, hb4⟩; rotate_right 2; assumption; assumption; have hk := bc _ _ (by assumption) hb4; try clear hb4)
                      refine hK.out _ _ ?_ (fun hHeld => ?_)
                      · (first | with_reducible assumption | (with_reducible refine Below.drew ?_; with_reducible assumption) | (with_reducible refine ba _ _ ?_; with_reducible assumption) | (refine bc _ _ (by assumption) (by assumption)))
                      clear hK K
                      try simp only [Act.put, List.setIfInBounds_toArray, List.set_cons_zero, List.set_cons_succ]
                      refine wpAnyH_take (i := 52) (oi := ?o52) (v := ?v52) ?h52 ?p52 ?q52 ?r52 (fun _ _ _ h => h) (Or.inl ⟨?s52, ?y52⟩) (by assumption) ?n52
                      case h52 => simp only [List.getElem?_toArray, List.getElem?_cons_succ, List.getElem?_cons_zero]; rfl
                      case p52 => kernel_rfl
                      case q52 => kernel_rfl
                      case r52 => kernel_rfl
                      case s52 => rfl
                      case y52 => (intro w hSw; (try dsimp only at hSw); go_simp <;> with_reducible rfl)
                      try simp only [Act.put, List.setIfInBounds_toArray, List.set_cons_zero, List.set_cons_succ]
                      refine wpAnyH_take (i := 53) (oi := ?o53) (v := ?v53) ?h53 ?p53 ?q53 ?r53 (fun _ _ _ h => h) (Or.inl ⟨?s53, ?y53⟩) (by assumption) ?n53
                      case h53 => simp only [List.getElem?_toArray, List.getElem?_cons_succ, List.getElem?_cons_zero]; rfl
                      case p53 => kernel_rfl
                      case q53 => kernel_rfl
                      case r53 => kernel_rfl
                      case s53 => rfl
                      case y53 => (intro w hSw; (try dsimp only at hSw); go_simp <;> with_reducible rfl)
                      try simp only [Act.put, List.setIfInBounds_toArray, List.set_cons_zero, List.set_cons_succ]
                      refine wpAnyH_take (i := 54) (oi := ?o54) (v := ?v54) ?h54 ?p54 ?q54 ?r54 (fun _ _ _ h => h) (Or.inl ⟨?s54, ?y54⟩) (by assumption) ?n54
                      case h54 => simp only [List.getElem?_toArray, List.getElem?_cons_succ, List.getElem?_cons_zero]; rfl
                      case p54 => kernel_rfl
                      case q54 => kernel_rfl
                      case r54 => kernel_rfl
                      case s54 => rfl
                      case y54 => (intro w hSw; (try dsimp only at hSw); go_simp <;> with_reducible rfl)
                      try simp only [Act.put, List.setIfInBounds_toArray, List.set_cons_zero, List.set_cons_succ]
                      refine wpAnyH_take (i := 55) (oi := ?o55) (v := ?v55) ?h55 ?p55 ?q55 ?r55 (fun _ _ _ h => h) (Or.inl ⟨?s55, ?y55⟩) (by assumption) ?n55
                      case h55 => simp only [List.getElem?_toArray, List.getElem?_cons_succ, List.getElem?_cons_zero]; rfl
                      case p55 => kernel_rfl
                      case q55 => kernel_rfl
                      case r55 => kernel_rfl
                      case s55 => rfl
                      case y55 => (intro w hSw; (try dsimp only at hSw); go_simp <;> with_reducible rfl)
                      try simp only [Act.put, List.setIfInBounds_toArray, List.set_cons_zero, List.set_cons_succ]
                      refine wpAnyH_take (i := 56) (oi := ?o56) (v := ?v56) ?h56 ?p56 ?q56 ?r56 (fun _ _ _ h => h) (Or.inl ⟨?s56, ?y56⟩) (by assumption) ?n56
                      case h56 => simp only [List.getElem?_toArray, List.getElem?_cons_succ, List.getElem?_cons_zero]; rfl
                      case p56 => kernel_rfl
                      case q56 => kernel_rfl
                      case r56 => kernel_rfl
                      case s56 => rfl
                      case y56 => (intro w hSw; (try dsimp only at hSw); go_simp <;> with_reducible rfl)
                      try simp only [Act.put, List.setIfInBounds_toArray, List.set_cons_zero, List.set_cons_succ]
                      refine wpAnyH_take (i := 57) (oi := ?o57) (v := ?v57) ?h57 ?p57 ?q57 ?r57 (fun _ _ _ h => h) (Or.inl ⟨?s57, ?y57⟩) (by assumption) ?n57
                      case h57 => simp only [List.getElem?_toArray, List.getElem?_cons_succ, List.getElem?_cons_zero]; rfl
                      case p57 => kernel_rfl
                      case q57 => kernel_rfl
                      case r57 => kernel_rfl
                      case s57 => rfl
                      case y57 => (intro w hSw; (try dsimp only at hSw); go_simp <;> with_reducible rfl)
                      try simp only [Act.put, List.setIfInBounds_toArray, List.set_cons_zero, List.set_cons_succ]
                      refine wpAnyH_take (i := 58) (oi := ?o58) (v := ?v58) ?h58 ?p58 ?q58 ?r58 (fun _ _ _ h => h) (Or.inl ⟨?s58, ?y58⟩) (by assumption) ?n58
                      case h58 => simp only [List.getElem?_toArray, List.getElem?_cons_succ, List.getElem?_cons_zero]; rfl
                      case p58 => kernel_rfl
                      case q58 => kernel_rfl
                      case r58 => kernel_rfl
                      case s58 => rfl
                      case y58 => (intro w hSw; (try dsimp only at hSw); go_simp <;> with_reducible rfl)
                      try simp only [Act.put, List.setIfInBounds_toArray, List.set_cons_zero, List.set_cons_succ]
                      refine wpAnyH_take (i := 59) (oi := ?o59) (v := ?v59) ?h59 ?p59 ?q59 ?r59 (fun _ _ _ h => h) (Or.inl ⟨?s59, ?y59⟩) (by assumption) ?n59
                      case h59 => simp only [List.getElem?_toArray, List.getElem?_cons_succ, List.getElem?_cons_zero]; rfl
                      case p59 => kernel_rfl
                      case q59 => kernel_rfl
                      case r59 => kernel_rfl
                      case s59 => rfl
                      case y59 => (intro w hSw; (try dsimp only at hSw); go_simp <;> with_reducible rfl)
                      try simp only [Act.put, List.setIfInBounds_toArray, List.set_cons_zero, List.set_cons_succ]
                      refine wpAnyH_take (i := 60) (oi := ?o60) (v := ?v60) ?h60 ?p60 ?q60 ?r60 (fun _ _ _ h => h) (Or.inl ⟨?s60, ?y60⟩) (by assumption) ?n60
                      case h60 => simp only [List.getElem?_toArray, List.getElem?_cons_succ, List.getElem?_cons_zero]; rfl
                      case p60 => kernel_rfl
                      case q60 => kernel_rfl
                      case r60 => kernel_rfl
                      case s60 => rfl
                      case y60 => (intro w hSw; (try dsimp only at hSw); go_simp <;> with_reducible rfl)
                      try simp only [Act.put, List.setIfInBounds_toArray, List.set_cons_zero, List.set_cons_succ]
                      refine wpAnyH_take (i := 61) (oi := ?o61) (v := ?v61) ?h61 ?p61 ?q61 ?r61 (fun _ _ _ h => h) (Or.inl ⟨?s61, ?y61⟩) (by assumption) ?n61
                      case h61 => simp only [List.getElem?_toArray, List.getElem?_cons_succ, List.getElem?_cons_zero]; rfl
                      case p61 => kernel_rfl
                      case q61 => kernel_rfl
                      case r61 => kernel_rfl
                      case s61 => rfl
                      case y61 => (intro w hSw; (try dsimp only at hSw); go_simp <;> with_reducible rfl)
                      try simp only [Act.put, List.setIfInBounds_toArray, List.set_cons_zero, List.set_cons_succ]
                      refine wpAnyH_take (i := 62) (oi := ?o62) (v := ?v62) ?h62 ?p62 ?q62 ?r62 (fun _ _ _ h => h) (Or.inl ⟨?s62, ?y62⟩) (by assumption) ?n62
                      case h62 => simp only [List.getElem?_toArray, List.getElem?_cons_succ, List.getElem?_cons_zero]; rfl
                      case p62 => kernel_rfl
                      case q62 => kernel_rfl
                      case r62 => kernel_rfl
                      case s62 => rfl
                      case y62 => (intro w hSw; (try dsimp only at hSw); go_simp <;> with_reducible rfl)
                      try simp only [Act.put, List.setIfInBounds_toArray, List.set_cons_zero, List.set_cons_succ]
                      refine wpAnyH_take (i := 63) (oi := ?o63) (v := ?v63) ?h63 ?p63 ?q63 ?r63 (fun _ _ _ h => h) (Or.inl ⟨?s63, ?y63⟩) (by assumption) ?n63
                      case h63 => simp only [List.getElem?_toArray, List.getElem?_cons_succ, List.getElem?_cons_zero]; rfl
                      case p63 => kernel_rfl
                      case q63 => kernel_rfl
                      case r63 => kernel_rfl
                      case s63 => rfl
                      case y63 => (intro w hSw; (try dsimp only at hSw); go_simp <;> with_reducible rfl)
                      try simp only [Act.put, List.setIfInBounds_toArray, List.set_cons_zero, List.set_cons_succ]
                      refine wpAnyH_ready (rs := [64]) (by kernel_rfl) (by simp) ?_
                      refine AllReadyH.cons (o := ?o64) ?h64 (fun K hK => ?k64) AllReadyH.nil
                      case h64 => simp only [List.getElem?_toArray, List.getElem?_cons_succ, List.getElem?_cons_zero]; rfl
                      (go_simp; go_at_call 19; ((with_reducible refine (sameS (S := fun _ => True) (T := fun _ => True) (n := nS) _ (s16.keep (Below.agree ?_)) (s2.keep (Below.agree ?_)) nS_now nS_len nS_now nS_len).mono ?_)); rotate_left 2; rintro e w4 ⟨rfl, hb4⟩; rotate_right 2; assumption; assumption; have hk := bc _ _ (by assumption) hb4; try clear hb4)
                      refine hK.out _ _ ?_ (fun hHeld => ?_)
                      · (first | with_reducible assumption | (with_reducible refine Below.drew ?_; with_reducible assumption) | (with_reducible refine ba _ _ ?_; with_reducible assumption) | (refine bc _ _ (by assumption) (by assumption)))
                      clear hK K
                      try simp only [Act.put, List.setIfInBounds_toArray, List.set_cons_zero, List.set_cons_succ]
                      refine wpAnyH_take (i := 65) (oi := ?o65) (v := ?v65) ?h65 ?p65 ?q65 ?r65 (fun _ _ _ h => h) (Or.inl ⟨?s65, ?y65⟩) (by assumption) ?n65
                      case h65 => simp only [List.getElem?_toArray, List.getElem?_cons_succ, List.getElem?_cons_zero]; rfl
                      case p65 => kernel_rfl
                      case q65 => kernel_rfl
                      case r65 => kernel_rfl
                      case s65 => rfl
                      case y65 => (intro w hSw; (try dsimp only at hSw); go_simp <;> with_reducible rfl)
                      try simp only [Act.put, List.setIfInBounds_toArray, List.set_cons_zero, List.set_cons_succ]
                      refine wpAnyH_take (i := 66) (oi := ?o66) (v := ?v66) ?h66 ?p66 ?q66 ?r66 (fun _ _ _ h => h) (Or.inl ⟨?s66, ?y66⟩) (by assumption) ?n66
                      case h66 => simp only [List.getElem?_toArray, List.getElem?_cons_succ, List.getElem?_cons_zero]; rfl
                      case p66 => kernel_rfl
                      case q66 => kernel_rfl
                      case r66 => kernel_rfl
                      case s66 => rfl
                      case y66 => (intro w hSw; (try dsimp only at hSw); go_simp <;> with_reducible rfl)
                      try simp only [Act.put, List.setIfInBounds_toArray, List.set_cons_zero, List.set_cons_succ]
                      refine wpAnyH_take (i := 67) (oi := ?o67) (v := ?v67) ?h67 ?p67 ?q67 ?r67 (fun _ _ _ h => h) (Or.inl ⟨?s67, ?y67⟩) (by assumption) ?n67
                      case h67 => simp only [List.getElem?_toArray, List.getElem?_cons_succ, List.getElem?_cons_zero]; rfl
                      case p67 => kernel_rfl
                      case q67 => kernel_rfl
                      case r67 => kernel_rfl
                      case s67 => rfl
                      case y67 => (intro w hSw; (try dsimp only at hSw); go_simp <;> with_reducible rfl)
                      try simp only [Act.put, List.setIfInBounds_toArray, List.set_cons_zero, List.set_cons_succ]
                      refine wpAnyH_take (i := 68) (oi := ?o68) (v := ?v68) ?h68 ?p68 ?q68 ?r68 (fun _ _ _ h => h) (Or.inl ⟨?s68, ?y68⟩) (by assumption) ?n68
                      case h68 => simp only [List.getElem?_toArray, List.getElem?_cons_succ, List.getElem?_cons_zero]; rfl
                      case p68 => kernel_rfl
                      case q68 => kernel_rfl
                      case r68 => kernel_rfl
                      case s68 => rfl
                      case y68 => (intro w hSw; (try dsimp only at hSw); go_simp <;> with_reducible rfl)
                      try simp only [Act.put, List.setIfInBounds_toArray, List.set_cons_zero, List.set_cons_succ]
                      refine wpAnyH_take (i := 69) (oi := ?o69) (v := ?v69) ?h69 ?p69 ?q69 ?r69 (fun _ _ _ h => h) (Or.inl ⟨?s69, ?y69⟩) (by assumption) ?n69
                      case h69 => simp only [List.getElem?_toArray, List.getElem?_cons_succ, List.getElem?_cons_zero]; rfl
                      case p69 => kernel_rfl
                      case q69 => kernel_rfl
                      case r69 => kernel_rfl
                      case s69 => rfl
                      case y69 => (intro w hSw; (try dsimp only at hSw); go_simp <;> with_reducible rfl)
                      try simp only [Act.put, List.setIfInBounds_toArray, List.set_cons_zero, List.set_cons_succ]
                      refine wpAnyH_take (i := 70) (oi := ?o70) (v := ?v70) ?h70 ?p70 ?q70 ?r70 (fun _ _ _ h => h) (Or.inl ⟨?s70, ?y70⟩) (by assumption) ?n70
                      case h70 => simp only [List.getElem?_toArray, List.getElem?_cons_succ, List.getElem?_cons_zero]; rfl
                      case p70 => kernel_rfl
                      case q70 => kernel_rfl
                      case r70 => kernel_rfl
                      case s70 => rfl
                      case y70 => (intro w hSw; (try dsimp only at hSw); go_simp <;> with_reducible rfl)
                      try simp only [Act.put, List.setIfInBounds_toArray, List.set_cons_zero, List.set_cons_succ]
                      refine wpAnyH_take (i := 71) (oi := ?o71) (v := ?v71) ?h71 ?p71 ?q71 ?r71 (fun _ _ _ h => h) (Or.inl ⟨?s71, ?y71⟩) (by assumption) ?n71
                      case h71 => simp only [List.getElem?_toArray, List.getElem?_cons_succ, List.getElem?_cons_zero]; rfl
                      case p71 => kernel_rfl
                      case q71 => kernel_rfl
                      case r71 => kernel_rfl
                      case s71 => rfl
                      case y71 => (intro w hSw; (try dsimp only at hSw); go_simp <;> with_reducible rfl)
                      try simp only [Act.put, List.setIfInBounds_toArray, List.set_cons_zero, List.set_cons_succ]
                      refine wpAnyH_ready (rs := [72]) (by kernel_rfl) (by simp) ?_
                      refine AllReadyH.cons (o := ?o72) ?h72 (fun K hK => ?k72) AllReadyH.nil
                      case h72 => simp only [List.getElem?_toArray, List.getElem?_cons_succ, List.getElem?_cons_zero]; rfl
                      (go_simp; go_at_call 10; refine (newN _).mono ?_; rintro e w4 ⟨rfl, hb4⟩; have hk := bc _ _ (by assumption) hb4; try clear hb4)
                      refine hK.out _ _ ?_ (fun hHeld => ?_)
                      · (first | with_reducible assumption | (with_reducible refine Below.drew ?_; with_reducible assumption) | (with_reducible refine ba _ _ ?_; with_reducible assumption) | (refine bc _ _ (by assumption) (by assumption)))
                      clear hK K
                      try simp only [Act.put, List.setIfInBounds_toArray, List.set_cons_zero, List.set_cons_succ]
                      refine wpAnyH_take (i := 73) (oi := ?o73) (v := ?v73) ?h73 ?p73 ?q73 ?r73 (fun _ _ _ h => h) (Or.inl ⟨?s73, ?y73⟩) (by assumption) ?n73
                      case h73 => simp only [List.getElem?_toArray, List.getElem?_cons_succ, List.getElem?_cons_zero]; rfl
                      case p73 => kernel_rfl
                      case q73 => kernel_rfl
                      case r73 => kernel_rfl
                      case s73 => rfl
                      case y73 => (intro w hSw; (try dsimp only at hSw); go_simp <;> with_reducible rfl)
                      try simp only [Act.put, List.setIfInBounds_toArray, List.set_cons_zero, List.set_cons_succ]
                      refine wpAnyH_take (i := 74) (oi := ?o74) (v := ?v74) ?h74 ?p74 ?q74 ?r74 (fun _ _ _ h => h) (Or.inl ⟨?s74, ?y74⟩) (by assumption) ?n74
                      case h74 => simp only [List.getElem?_toArray, List.getElem?_cons_succ, List.getElem?_cons_zero]; rfl
                      case p74 => kernel_rfl
                      case q74 => kernel_rfl
                      case r74 => kernel_rfl
                      case s74 => rfl
                      case y74 => (intro w hSw; (try dsimp only at hSw); go_simp <;> with_reducible rfl)
                      try simp only [Act.put, List.setIfInBounds_toArray, List.set_cons_zero, List.set_cons_succ]
                      refine wpAnyH_take (i := 75) (oi := ?o75) (v := ?v75) ?h75 ?p75 ?q75 ?r75 (fun _ _ _ h => h) (Or.inl ⟨?s75, ?y75⟩) (by assumption) ?n75
                      case h75 => simp only [List.getElem?_toArray, List.getElem?_cons_succ, List.getElem?_cons_zero]; rfl
                      case p75 => kernel_rfl
                      case q75 => kernel_rfl
                      case r75 => kernel_rfl
                      case s75 => rfl
                      case y75 => (intro w hSw; (try dsimp only at hSw); go_simp <;> with_reducible rfl)
                      try simp only [Act.put, List.setIfInBounds_toArray, List.set_cons_zero, List.set_cons_succ]
                      refine wpAnyH_take (i := 76) (oi := ?o76) (v := ?v76) ?h76 ?p76 ?q76 ?r76 (fun _ _ _ h => h) (Or.inl ⟨?s76, ?y76⟩) (by assumption) ?n76
                      case h76 => simp only [List.getElem?_toArray, List.getElem?_cons_succ, List.getElem?_cons_zero]; rfl
                      case p76 => kernel_rfl
                      case q76 => kernel_rfl
                      case r76 => kernel_rfl
                      case s76 => rfl
                      case y76 => (intro w hSw; (try dsimp only at hSw); go_simp <;> with_reducible rfl)
                      try simp only [Act.put, List.setIfInBounds_toArray, List.set_cons_zero]
                      refine wpAnyH_done (by kernel_rfl) ?_ _
                      refine NoPanic.normal ?_
                      all_goals go_wp2_with fail
                      all_goals go_ret
                      all_goals exact ⟨rfl, hw10.out.trans (Below.mono (by assumption : Below w10.heap.size w10 _) hw10.out.size)⟩
end Go.Proofs.Ytmaaniogcmlfbaa
