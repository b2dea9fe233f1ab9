/-
  Contracts of the queries' makers (XQ20): the reference's Made.
-/
import Derived.Test.YtihcaoipemcddaaDoorQ19
namespace Go.Proofs.YtihcaoipemcddaaDoor
open Go.RowKit

/-- A query that the call made. -/
def QyRes (P : Qy → Prop) (w : World) (e : Ending) (w' : World) : Prop :=
  ∃ x : Qy, ValidQ x ∧ P x ∧ ∃ B d, e = .returned (.agg #[.int .i64 x.kind, .int .i64 x.col, .int .i64 x.k, .slice B x.fs.length d]) ∧ Sl cdE.slice (fun b => w.heap.size ≤ b) w' B d x.fs ∧ Below w.heap.size w w'
def OwnS (N : Nat) (v : Value) (b : Nat) : Prop := N ≤ b ∧ ∀ k, v.ownBlock = some k → b ≠ k
/-- The same, its filters in a row of the call's own. -/
def QyOwn (P : Qy → Prop) (w : World) (e : Ending) (w' : World) : Prop :=
  ∃ x : Qy, ValidQ x ∧ P x ∧ ∃ B d, e = .returned (.agg #[.int .i64 x.kind, .int .i64 x.col, .int .i64 x.k, .slice B x.fs.length d]) ∧ Own cdE.slice (OwnS w.heap.size (.slice B x.fs.length d)) w' w.heap.size 44 (.slice B x.fs.length d) x.fs ∧ Below w.heap.size w w'
theorem QyOwn.res {P : Qy → Prop} {w : World} {e : Ending} {w' : World} (h : QyOwn P w e w') : QyRes P w e w' := by
  obtain ⟨x, hv, hp, B, d, he, ho, hb⟩ := h
  exact ⟨x, hv, hp, B, d, he, ho.toSl (fun b h _ => h.1) (fun b h _ _ => h), hb⟩
/-- The three boxes of Made. -/
structure MB (w0 : World) (q : Qy) (A : Option Addr) (c : Nat) (u v x y : Value) (wx : World) : Prop where
  bel : Below w0.heap.size w0 wx
  qc : wx.heap[w0.heap.size]? = some (.cells #[.int .i64 q.kind, .int .i64 q.col, .int .i64 q.k, .slice A q.fs.length c] 24 (0, 0))
  rc : wx.heap[w0.heap.size + 1]? = some (.cells #[.int .i64 0, .int .i64 0, .int .i64 0, .slice none 0 0] 24 (0, 0))
  ob : wx.heap[w0.heap.size + 1 + 1]? = some (.cells #[u, v, x, y] 24 (0, 0))
section
variable {w0 wx w' : World} {q : Qy} {A : Option Addr} {c : Nat} {u v x y z : Value}
theorem MB.lt (h : MB w0 q A c u v x y wx) : w0.heap.size + 3 ≤ wx.heap.size := heap_lt h.ob
theorem MB.keep (h : MB w0 q A c u v x y wx) (hs : wx.heap.size ≤ w'.heap.size) (hb : Below w0.heap.size w0 w') (hk : ∀ b, b < w0.heap.size + 3 → w'.heap[b]? = wx.heap[b]?) : MB w0 q A c u v x y w' :=
  ⟨hb, (hk _ (by omega)).trans h.qc, (hk _ (by omega)).trans h.rc, (hk _ (by omega)).trans h.ob⟩
theorem MB.call (h : MB w0 q A c u v x y wx) (hb : Below wx.heap.size wx w') : MB w0 q A c u v x y w' :=
  h.keep hb.size (h.bel.trans (hb.mono h.bel.size)) fun b hlt => hb.block b (Nat.lt_of_lt_of_le hlt h.lt)
theorem MB.grown (h : MB w0 q A c u v x y wx) {row : Option Nat} (hg : wx.grownBy w' row) (hr : ∀ k, row = some k → w0.heap.size + 3 ≤ k) : MB w0 q A c u v x y w' :=
  h.keep hg.size (h.bel.grown hg h.bel.size fun k hk => by have := hr k hk; omega) fun b hlt => hg.block b (Nat.lt_of_lt_of_le hlt h.lt) fun e => by have := hr b e.symm; omega
theorem MB.set1 (h : MB w0 q A c u v x y wx) : MB w0 q A c u z x y (wx.setCell ⟨w0.heap.size + 1 + 1, 1, none⟩ z) :=
  ⟨h.bel.setCell (by simp; omega) _, (Below.heap_setCell _ _ _ _ (by simp; omega)).trans h.qc, (Below.heap_setCell _ _ _ _ (by simp)).trans h.rc, heap_set (i := 1) h.ob⟩
theorem MB.set2 (h : MB w0 q A c u v x y wx) : MB w0 q A c u v z y (wx.setCell ⟨w0.heap.size + 1 + 1, 2, none⟩ z) :=
  ⟨h.bel.setCell (by simp; omega) _, (Below.heap_setCell _ _ _ _ (by simp; omega)).trans h.qc, (Below.heap_setCell _ _ _ _ (by simp)).trans h.rc, heap_set (i := 2) h.ob⟩
theorem MB.set3 (h : MB w0 q A c u v x y wx) : MB w0 q A c u v x z (wx.setCell ⟨w0.heap.size + 1 + 1, 3, none⟩ z) :=
  ⟨h.bel.setCell (by simp; omega) _, (Below.heap_setCell _ _ _ _ (by simp; omega)).trans h.qc, (Below.heap_setCell _ _ _ _ (by simp)).trans h.rc, heap_set (i := 3) h.ob⟩
theorem MB.drew (h : MB w0 q A c u v x y wx) : MB w0 q A c u v x y wx.drew := ⟨h.bel.drew, h.qc, h.rc, h.ob⟩
theorem MB.drewN (h : MB w0 q A c u v x y wx) (n : Nat) : MB w0 q A c u v x y (wx.drewN n) := ⟨below_drewN h.bel n, h.qc, h.rc, h.ob⟩
theorem frz {W : World} {g : Nat} {cs : Array Value} {t : TypeId} (h : W.heap[g]? = some (.cells cs t (0, 0))) (o : Nat) : W.frozen? ⟨g, o, none⟩ = false := by simp [World.frozen?, h]
end
theorem cdsT : SlT Tryd.prog 44 49 cdE 24 := ⟨Tryd.underlying44, by kernel_rfl, by decide⟩
theorem cfsT : SlT Tryd.prog 22 44 cdE.slice 24 := ⟨Tryd.underlying22, by kernel_rfl, by decide⟩
def FtS (B : Nat) (v : Value) (b : Nat) : Prop := B ≤ b ∧ ∀ k, v.ownBlock = some k → b ≠ k
/-- What the loop over the filters keeps. -/
structure MIn (w : World) (q : Qy) (A : Option Addr) (c : Nat) (u v x : Value) (fs : List (List Cd)) (s : Value) (wr : World) : Prop where
  ok : ∀ l ∈ fs, ValidFlt l
  mb : MB w q A c u v x s wr
  own : Own cdE.slice (FtS (w.heap.size + 3) s) wr (w.heap.size + 3) 44 s fs
theorem MIn.app {w wr wx w6 : World} {q : Qy} {A : Option Addr} {c : Nat} {u v x : Value} {fs : List (List Cd)} {ys : List Cd} {s s' : Value} {o : Obj} (h : MIn w q A c u v x fs s wr) (hy : ValidFlt ys) (hb : Below wr.heap.size wr wx)
    (ho : Own cdE.slice (fun b => FtS (w.heap.size + 3) s b ∧ b ≤ wx.heap.size) w6 (w.heap.size + 3) 44 s' (fs ++ [ys])) (hg : (wx.alloc o).grownBy w6 s.ownBlock) (hor : ∀ g, s'.ownBlock = some g → s.ownBlock = some g ∨ (wx.alloc o).heap.size = g) :
    MIn w q A c u v x (fs ++ [ys]) s' (w6.setCell ⟨w.heap.size + 1 + 1, 3, none⟩ s') := by
  have hz := hg.size
  have hlo := h.own.lt
  have hl := h.mb.lt
  have hbz := hb.size
  simp at hz
  have hm : MB w q A c u v x s w6 := (h.mb.call (hb.alloc hb.size _)).grown hg fun k hk => (hlo k hk).1
  refine ⟨fun l hl => ?_, hm.set3, (ho.sub fun b hb1 _ => ?_).set ?_ ?_ _⟩
  · rcases List.mem_append.1 hl with h1 | h1
    · exact h.ok l h1
    · simp at h1; subst h1; exact hy
  · obtain ⟨⟨h1, h2⟩, h3⟩ := hb1
    refine ⟨h1, fun k hk => ?_⟩
    rcases hor k hk with h6 | h6
    · exact h2 k h6
    · simp at h6; omega
  · intro e
    rcases hor _ e with h6 | h6
    · have := (hlo _ h6).1; simp at this; omega
    · simp at h6; omega
  · intro hS
    have := hS.1
    simp at this; omega
set_option maxRecDepth 100000 in
set_option maxHeartbeats 8000000 in
theorem made13O {q : Qy} {A : Option Addr} {c : Nat} {S : Nat → Prop} (w : World) (h : Sl cdE.slice S w A c q.fs) : Calls Tryd.prog 13 #[(.agg #[.int .i64 q.kind, .int .i64 q.col, .int .i64 q.k, .slice A q.fs.length c])] w (QyOwn (fun _ => True) w) := by
  obtain ⟨a, ha, ha3⟩ : ∃ r : Nat, bits BinOp.and IntKind.i64 q.kind 255 = (r : Int) ∧ r ≤ 255 := and_bd q.kind 255 (by omega)
  obtain ⟨ca, hca, hca3⟩ : ∃ r : Nat, bits BinOp.and IntKind.i64 q.col 3 = (r : Int) ∧ r ≤ 3 := and_bd q.col 3 (by omega)
  obtain ⟨ka, hka, hka3⟩ : ∃ r : Nat, bits BinOp.and IntKind.i64 q.k 65535 = (r : Int) ∧ r ≤ 65535 := and_bd q.k 65535 (by omega)
  obtain ⟨r7, hr7, hr7l⟩ : ∃ r : Nat, (a : Int).tmod 7 = (r : Int) ∧ r < 7 := tmod_bd a 7 (by omega)
  have hm := h.max
  have H := Lib.hid h
  clear h
  obtain ⟨kd, hkd⟩ : ∃ kd : Int, 1 + (r7 : Int) = kd := ⟨_, rfl⟩
  have hkd1 : 1 ≤ kd := by omega
  have hkd7 : kd ≤ 7 := by omega
  go_enter Tryd.func13, Tryd.ntmps13
  go_upto_region 2 with fail
  refine wp_world (F := fun wx => MB w q A c (.int .i64 kd) (.int .i64 0) (.int .i64 0) (.slice none 0 0) wx) ⟨(by repeat' (first | with_reducible exact Below.refl _ _ | with_reducible assumption | with_reducible refine Below.setCell ?_ ?_ _ | with_reducible refine Below.drew ?_ | with_reducible refine below_drewN ?_ _ | with_reducible refine Below.alloc ?_ ?_ _ | (rintro _ ⟨⟩; simp <;> omega) | omega | (simp <;> omega))), (Below.heap_alloc _ _ _ (by simp; omega)).trans ((Below.heap_alloc _ _ _ (by simp)).trans (heap_alloc_at rfl)), (Below.heap_alloc _ _ _ (by simp)).trans (heap_alloc_at (by simp)), heap_alloc_at (by simp)⟩ ?_
  intro w1 hM
  clear hr7 hr7l ha ha3 hkd
  have HM := Lib.hid hM
  clear hM
  have hmk : maxKF kd = 0 ∨ maxKF kd = 6 ∨ maxKF kd = 65536 := by unfold maxKF; split; exact .inr (.inl rfl); split; exact .inr (.inr rfl); exact .inl rfl
  (obtain ⟨x0, x1, x2, x3⟩ := row4 (Lib.hid HM.out.qc); obtain ⟨o0, o1, o2, o3⟩ := row4 (Lib.hid HM.out.ob); have fo := frz HM.out.ob; have fr := frz HM.out.rc; have lm := HM.out.lt)
  go_upto_if 16 with (go_at_call 35; refine (hasColRef _ _).mono ?_; rintro e w2 ⟨rfl, rfl⟩)
  go_cut [4] (fun _ wx => ∃ cc : Nat, cc ≤ 3 ∧ (hasColB kd = false → cc = 0) ∧ MB w q A c (.int .i64 kd) (.int .i64 cc) (.int .i64 0) (.slice none 0 0) wx)
  case first =>
    cases hc : hasColB kd with
    | true =>
      go_wp2_with fail
      go_meet
      case rel => exact ⟨ca, hca3, fun h => (by rw [hc] at h; cases h), HM.out.set1⟩
    | false =>
      go_wp2_with fail
      go_meet
      case rel => exact ⟨0, by omega, fun _ => rfl, HM.out⟩
  case rest =>
    obtain ⟨cc, hcc3, hcc, hM⟩ := hcut
    clear x0 x1 x2 x3 o0 o1 o2 o3 fo fr lm HM hca hca3
    have HM := Lib.hid hM
    have Hcc := Lib.hid hcc
    clear hM hcc
    (obtain ⟨x0, x1, x2, x3⟩ := row4 (Lib.hid HM.out.qc); obtain ⟨o0, o1, o2, o3⟩ := row4 (Lib.hid HM.out.ob); have fo := frz HM.out.ob; have fr := frz HM.out.rc; have lm := HM.out.lt)
    go_upto_if 24 with (go_at_call 36; refine (maxKRef _ _).mono ?_; rintro e w2 ⟨rfl, rfl⟩)
    go_cut [4] (fun _ wx => ∃ kk : Nat, (0 < maxKF kd → 1 ≤ kk) ∧ (kk : Int) ≤ maxKF kd ∧ MB w q A c (.int .i64 kd) (.int .i64 cc) (.int .i64 kk) (.slice none 0 0) wx)
    case first =>
      rcases hmk with hmk | hmk | hmk
      · go_wp2_with fail
        go_meet
        case rel => exact ⟨0, fun h => by omega, by omega, HM.out⟩
      · obtain ⟨r6, hr6, hr6l⟩ : ∃ r : Nat, (ka : Int).tmod 6 = (r : Int) ∧ r < 6 := tmod_bd ka 6 (by omega)
        obtain ⟨kk, hkk⟩ : ∃ kk : Nat, 1 + (r6 : Int) = kk := ⟨1 + r6, by omega⟩
        have hkk1 : 1 ≤ kk ∧ kk ≤ 6 := by omega
        have hwk : IntKind.i64.wrap (kk : Int) = kk := IntWalk.i64_in _ (by omega)
        have Hmk := Lib.hid hmk
        go_wp2_with fail
        go_region_law (first | (go_simp; go_at_call 36; refine (maxKRef _ _).mono ?_; rw [Hmk.out]; rintro e w3 ⟨rfl, rfl⟩))
        all_goals
          go_wp2_with fail
          go_meet
          exact ⟨kk, fun h => by omega, by rw [Hmk.out]; omega, by (try rw [hwk]); exact HM.out.set2.drew⟩
      · obtain ⟨r6, hr6, hr6l⟩ : ∃ r : Nat, (ka : Int).tmod 65536 = (r : Int) ∧ r < 65536 := tmod_bd ka 65536 (by omega)
        obtain ⟨kk, hkk⟩ : ∃ kk : Nat, 1 + (r6 : Int) = kk := ⟨1 + r6, by omega⟩
        have hkk1 : 1 ≤ kk ∧ kk ≤ 65536 := by omega
        have hwk : IntKind.i64.wrap (kk : Int) = kk := IntWalk.i64_in _ (by omega)
        have Hmk := Lib.hid hmk
        go_wp2_with fail
        go_region_law (first | (go_simp; go_at_call 36; refine (maxKRef _ _).mono ?_; rw [Hmk.out]; rintro e w3 ⟨rfl, rfl⟩))
        all_goals
          go_wp2_with fail
          go_meet
          exact ⟨kk, fun h => by omega, by rw [Hmk.out]; omega, by (try rw [hwk]); exact HM.out.set2.drew⟩
    case rest =>
      obtain ⟨kk, hkk1, hkkm, hM⟩ := hcut
      clear x0 x1 x2 x3 o0 o1 o2 o3 fo fr lm HM hka hka3 hmk
      have HM := Lib.hid hM
      have Hkk1 := Lib.hid hkk1
      have Hkkm := Lib.hid hkkm
      clear hM hkk1 hkkm
      (obtain ⟨x0, x1, x2, x3⟩ := row4 (Lib.hid HM.out.qc); obtain ⟨o0, o1, o2, o3⟩ := row4 (Lib.hid HM.out.ob); have fo := frz HM.out.ob; have fr := frz HM.out.rc; have lm := HM.out.lt)
      go_upto_if 36 with fail
      go_cut [4] (fun v wx => v = .int .i64 (nFilF kd) ∧ wx = wc)
      case first =>
        by_cases h7 : kd = 7
        · have g7 : (kd == 7) = true := by rw [h7]; rfl
          have HN := Lib.hid (show nFilF kd = 2 by unfold nFilF; rw [if_pos h7])
          clear h7
          go_wp2_with fail
          go_meet
          exact ⟨by rw [HN.out]; rfl, rfl⟩
        · have g7 : (kd == 7) = false := beqF h7
          have HN := Lib.hid (show nFilF kd = 1 by unfold nFilF; rw [if_neg h7])
          clear h7
          go_wp2_with fail
          go_meet
          exact ⟨by rw [HN.out]; rfl, rfl⟩
      case rest =>
        obtain ⟨rfl, rfl⟩ := hcut
        clear x0 x1 x2 x3 o0 o1 o2 o3 fo fr lm
        obtain ⟨N, hN⟩ : ∃ N, nFilF kd = N := ⟨_, rfl⟩
        have hN2 : N ≤ 2 := by rw [← hN]; unfold nFilF; split <;> omega
        rw [hN]
        have HN := Lib.hid hN
        clear hN
        go_wp2_with fail
        go_loopw [5] (fun i wr => ∃ (j : Nat) (fs : List (List Cd)) (A1 : Option Addr) (c1 : Nat), j ≤ N ∧ i = .int .i64 j ∧ fs.length = j ∧ MIn w q A c (.int .i64 kd) (.int .i64 cc) (.int .i64 kk) fs (.slice A1 j c1) wr) (fun i _ => N - (intOf i).toNat)
        case atStart => exact ⟨0, [], none, 0, Nat.zero_le _, rfl, rfl, by simp, HM.out, Own.nil_ _ _ _ _ _⟩
        case round =>
          obtain ⟨j, fs, A1, c1, hj, rfl, hfl, hIn⟩ := hrel
          have hj0 : (0 : Int) ≤ (j : Int) := by omega
          have HI := Lib.hid hIn
          clear hIn HM
          by_cases hlt : j < N
          · have hj1 : (j : Int) < (N : Int) := by omega
            go_wp2_with fail
            obtain ⟨wo, hwo⟩ : ∃ wo : World, wo = wr := ⟨_, rfl⟩
            subst hwo
            go_loopw [6, 7] (fun v i wx => ∃ (k : Nat) (B : Option Addr) (d : Nat) (ys : List Cd), k ≤ 3 ∧ i = .int .i64 k ∧ ys.length = k ∧ (∀ x ∈ ys, ValidCd x) ∧ v = .slice B k d ∧ Own cdE (fun _ => False) wx wo.heap.size 49 (.slice B k d) ys ∧ Below wo.heap.size wo wx) (fun _ i _ => 3 - (intOf i).toNat)
            case atStart => exact ⟨0, some ⟨wo.heap.size, 0, none⟩, 0, [], by omega, rfl, rfl, by simp, rfl, Own.litAt _ _ _ _ rfl (Nat.le_refl _), (Below.refl _ _).alloc (Nat.le_refl _) _⟩
            case round =>
              obtain ⟨k, B, d, ys, hk, rfl, hyl, hyv, rfl, ho, hb⟩ := hrel
              have hk0 : (0 : Int) ≤ (k : Int) := by omega
              have HM := Lib.hid (HI.out.mb.call hb)
              have HO := Lib.hid ho
              have HB := Lib.hid hb
              have HY := Lib.hid hyv
              have H2 := Lib.hid (H.out.keep (Below.agree HM.out.bel))
              have lo := ho.lt
              clear ho hb hyv
              (obtain ⟨x0, x1, x2, x3⟩ := row4 (Lib.hid HM.out.qc); obtain ⟨o0, o1, o2, o3⟩ := row4 (Lib.hid HM.out.ob); have fo := frz HM.out.ob; have fr := frz HM.out.rc; have lm := HM.out.lt)
              have lz := HB.out.size
              have HOS := Lib.hid (HO.out.toSl (T := fun b => FtS (w.heap.size + 3) (.slice A1 j c1) b ∧ b ≤ wr.heap.size) (fun _ h _ => h.elim) (fun b h1 h2 _ => ⟨⟨by have := HI.out.mb.lt; omega, fun g hg => by have := (HI.out.own.lt g hg).2; omega⟩, Nat.le_of_lt h2⟩))
              by_cases c1' : j < q.fs.length
              · have g1 : (j : Int) < (q.fs.length : Int) := by omega
                obtain ⟨r, hr⟩ : ∃ r, q.fs[j]? = some r := ⟨_, List.getElem?_eq_getElem c1'⟩
                obtain ⟨b1, o1', B1, d1, rfl, -, l1, z1, hs1⟩ := flt_at H2.out hr
                have hm1 := hs1.max
                have HS1 := Lib.hid hs1
                clear hr hs1
                by_cases c2 : k < r.length
                · have g2 : (k : Int) < (r.length : Int) := by omega
                  by_cases c3 : k < 3
                  · have g3 : (k : Int) < 3 := by omega
                    obtain ⟨x, hx⟩ : ∃ x, r[k]? = some x := ⟨_, List.getElem?_eq_getElem c2⟩
                    obtain ⟨b2, o2', rfl, -, l2, y0, y1, y2⟩ := cd_at HS1.out hx
                    clear hx
                    have lb2 := l2
                    go_wp2_with (first
                      | (go_at_call 23; refine (madeCdP x _).mono ?_; rintro e w4 ⟨x', hx', rfl, hb4⟩; have HX := Lib.hid hx'; have HB4 := Lib.hid hb4; have HO4 := Lib.hid (HO.out.call hb4); have lo4 := HO4.out.lt; have lz4 := hb4.size; clear hx' hb4)
                      | (at_builtin; go_must ((refine wpList_append_E (S := fun b => b = w4.heap.size) rfl (.tmp 64) (.tmp 74) rfl cdsT (base := wo.heap.size) (v := .slice B k d) (xs := ys) (ys := [x']) (by rfl) (by rfl) rfl (nz := k + 1) (by simp [hyl]) ((HO4.out.flat cdE_flat).alloc _) (Sl.litAt (S := fun b => b = w4.heap.size) rfl (.single cdE_shut) (by unfold maxLen; simp) (fun _ h _ => h) rfl) (by unfold maxLen; simp [hyl]; omega) (by simp [hyl]; omega) (by simp; omega) (fun g hg (hs : g = w4.heap.size) => absurd (lo4 g hg).2 (by omega)) ?_; intro A6 c6 w6 hown6 hg6 hor6))))
                    go_roundw
                    case rel => exact ⟨k + 1, A6, c6, ys ++ [x'], by omega, by go_num, by simp [hyl], fun u hu => (List.mem_append.1 hu).elim (HY.out u) (fun h => by simp at h; subst h; exact HX.out), rfl, hown6.flat cdE_flat, ((HB.out.trans (HB4.out.mono HB.out.size)).alloc (by omega) _).grown hg6 (by simp; omega) (fun g hg => (lo4 g hg).1)⟩
                    case measure => simp [intOf]; omega
                  · have g3 : ¬ (k : Int) < 3 := by omega
                    (go_wp2_with (at_builtin; go_must ((refine wpList_append_E (S := fun b => FtS (w.heap.size + 3) (.slice A1 j c1) b ∧ b ≤ wr.heap.size) rfl (.tmp 77) (.tmp 79) rfl cfsT (base := w.heap.size + 3) (v := .slice A1 j c1) (xs := fs) (ys := [ys]) (by rfl) (by rfl) rfl (nz := j + 1) (by simp [hfl]) ((Own.sub (HI.out.own.call HB.out) (fun b h1 h2 => ⟨h1, Nat.le_of_lt h2⟩)).alloc _) (Sl.litAt (S := fun b => FtS (w.heap.size + 3) (.slice A1 j c1) b ∧ b ≤ wr.heap.size) rfl (.single ⟨B, d, by rw [hyl], HOS.out⟩) (by unfold maxLen; simp) (fun _ h _ => h) ⟨⟨lm, fun g hg => by have := (HI.out.own.lt g hg).2; omega⟩, Nat.le_refl _⟩) (by unfold maxLen; simp [hfl]; omega) (by simp [hfl]; omega) (by simp; omega) (fun g hg hs => absurd rfl (hs.1.2 g hg)) ?_; intro A6 c6 w6 hown6 hg6 hor6; have lg6 := hg6.size; simp at lg6; have HM6 := Lib.hid (((HM.out.call ((Below.refl _ _).alloc (Nat.le_refl _) _))).grown hg6 (fun g hg => (HI.out.own.lt g hg).1)); clear x0 x1 x2 x3 o0 o1 o2 o3 fo fr; obtain ⟨o0, o1, o2, o3⟩ := row4 (Lib.hid HM6.out.ob); have fo := frz HM6.out.ob))); go_roundw; (case rel => exact ⟨j + 1, fs ++ [ys], A6, c6, by omega, by go_num, by simp [hfl], HI.out.app ⟨by omega, HY.out⟩ HB.out hown6 hg6 hor6⟩); (case measure => simp [intOf]; omega))
                · have g2 : ¬ (k : Int) < (r.length : Int) := by omega
                  (go_wp2_with (at_builtin; go_must ((refine wpList_append_E (S := fun b => FtS (w.heap.size + 3) (.slice A1 j c1) b ∧ b ≤ wr.heap.size) rfl (.tmp 77) (.tmp 79) rfl cfsT (base := w.heap.size + 3) (v := .slice A1 j c1) (xs := fs) (ys := [ys]) (by rfl) (by rfl) rfl (nz := j + 1) (by simp [hfl]) ((Own.sub (HI.out.own.call HB.out) (fun b h1 h2 => ⟨h1, Nat.le_of_lt h2⟩)).alloc _) (Sl.litAt (S := fun b => FtS (w.heap.size + 3) (.slice A1 j c1) b ∧ b ≤ wr.heap.size) rfl (.single ⟨B, d, by rw [hyl], HOS.out⟩) (by unfold maxLen; simp) (fun _ h _ => h) ⟨⟨lm, fun g hg => by have := (HI.out.own.lt g hg).2; omega⟩, Nat.le_refl _⟩) (by unfold maxLen; simp [hfl]; omega) (by simp [hfl]; omega) (by simp; omega) (fun g hg hs => absurd rfl (hs.1.2 g hg)) ?_; intro A6 c6 w6 hown6 hg6 hor6; have lg6 := hg6.size; simp at lg6; have HM6 := Lib.hid (((HM.out.call ((Below.refl _ _).alloc (Nat.le_refl _) _))).grown hg6 (fun g hg => (HI.out.own.lt g hg).1)); clear x0 x1 x2 x3 o0 o1 o2 o3 fo fr; obtain ⟨o0, o1, o2, o3⟩ := row4 (Lib.hid HM6.out.ob); have fo := frz HM6.out.ob))); go_roundw; (case rel => exact ⟨j + 1, fs ++ [ys], A6, c6, by omega, by go_num, by simp [hfl], HI.out.app ⟨by omega, HY.out⟩ HB.out hown6 hg6 hor6⟩); (case measure => simp [intOf]; omega))
              · have g1 : ¬ (j : Int) < (q.fs.length : Int) := by omega
                (go_wp2_with (at_builtin; go_must ((refine wpList_append_E (S := fun b => FtS (w.heap.size + 3) (.slice A1 j c1) b ∧ b ≤ wr.heap.size) rfl (.tmp 77) (.tmp 79) rfl cfsT (base := w.heap.size + 3) (v := .slice A1 j c1) (xs := fs) (ys := [ys]) (by rfl) (by rfl) rfl (nz := j + 1) (by simp [hfl]) ((Own.sub (HI.out.own.call HB.out) (fun b h1 h2 => ⟨h1, Nat.le_of_lt h2⟩)).alloc _) (Sl.litAt (S := fun b => FtS (w.heap.size + 3) (.slice A1 j c1) b ∧ b ≤ wr.heap.size) rfl (.single ⟨B, d, by rw [hyl], HOS.out⟩) (by unfold maxLen; simp) (fun _ h _ => h) ⟨⟨lm, fun g hg => by have := (HI.out.own.lt g hg).2; omega⟩, Nat.le_refl _⟩) (by unfold maxLen; simp [hfl]; omega) (by simp [hfl]; omega) (by simp; omega) (fun g hg hs => absurd rfl (hs.1.2 g hg)) ?_; intro A6 c6 w6 hown6 hg6 hor6; have lg6 := hg6.size; simp at lg6; have HM6 := Lib.hid (((HM.out.call ((Below.refl _ _).alloc (Nat.le_refl _) _))).grown hg6 (fun g hg => (HI.out.own.lt g hg).1)); clear x0 x1 x2 x3 o0 o1 o2 o3 fo fr; obtain ⟨o0, o1, o2, o3⟩ := row4 (Lib.hid HM6.out.ob); have fo := frz HM6.out.ob))); go_roundw; (case rel => exact ⟨j + 1, fs ++ [ys], A6, c6, by omega, by go_num, by simp [hfl], HI.out.app ⟨by omega, HY.out⟩ HB.out hown6 hg6 hor6⟩); (case measure => simp [intOf]; omega))
          · have hj1 : ¬ (j : Int) < (N : Int) := by omega
            obtain rfl : j = N := by omega
            have HM := Lib.hid HI.out.mb
            (obtain ⟨x0, x1, x2, x3⟩ := row4 (Lib.hid HM.out.qc); obtain ⟨o0, o1, o2, o3⟩ := row4 (Lib.hid HM.out.ob); have fo := frz HM.out.ob; have fr := frz HM.out.rc; have lm := HM.out.lt)
            obtain ⟨r0, r1, r2, r3⟩ := row4 (Lib.hid HM.out.rc)
            have hH : HeadOk ⟨kd, cc, kk, fs⟩ := by
              refine ⟨⟨hkd1, hkd7⟩, ⟨by dsimp only; omega, by dsimp only; omega⟩, ?_, by dsimp only; omega, Hkkm.out, fun h => ?_, by rw [HN.out]; exact hfl⟩
              · dsimp only
                cases hc : hasColB kd with
                | true => exact .inr (of_decide_eq_true hc)
                | false => exact .inl (by rw [Hcc.out hc]; rfl)
              · dsimp only at h ⊢
                have := Hkk1.out (by unfold maxKF; rcases h with h | h <;> rw [h] <;> decide)
                omega
            have HH := Lib.hid hH
            clear hH
            go_wp2_with fail
            have hbm := HM.out.bel
            refine bodyPost_ret (v := .agg #[.int .i64 kd, .int .i64 cc, .int .i64 kk, .slice A1 j c1]) (by simp [results, Tryd.results13, go_sem, *]) rfl
              ⟨⟨kd, cc, kk, fs⟩, ⟨HH.out, HI.out.ok⟩, trivial, A1, c1, by dsimp only; rw [hfl], ?_, (by repeat' (first | with_reducible exact Below.refl _ _ | with_reducible assumption | with_reducible refine Below.setCell ?_ ?_ _ | with_reducible refine Below.drew ?_ | with_reducible refine below_drewN ?_ _ | with_reducible refine Below.alloc ?_ ?_ _ | (rintro _ ⟨⟩; simp <;> omega) | omega | (simp <;> omega)))⟩
            dsimp only
            rw [hfl]
            have lo := HI.out.own.lt
            refine Own.sub (S := FtS (w.heap.size + 3) (.slice A1 j c1)) (Own.lower (base := w.heap.size + 3) ?_ (by omega)) (fun b h _ => ⟨by have := h.1; omega, h.2⟩)
            repeat' (first | with_reducible exact HI.out.own | with_reducible refine Own.set ?_ ?_ ?_ _ | (intro e; have := (lo _ e).1; dsimp only at this; omega) | (intro h; have := h.1; dsimp only at this; omega))
theorem made13P {q : Qy} {A : Option Addr} {c : Nat} {S : Nat → Prop} (w : World) (h : Sl cdE.slice S w A c q.fs) : Calls Tryd.prog 13 #[(.agg #[.int .i64 q.kind, .int .i64 q.col, .int .i64 q.k, .slice A q.fs.length c])] w (QyRes (fun _ => True) w) :=
  (made13O w h).mono fun _ _ hh => hh.res
def NotWide (x : Qy) : Prop := wideB x = false
set_option maxHeartbeats 4000000 in
theorem made14O {q : Qy} {A : Option Addr} {c : Nat} {S : Nat → Prop} (w : World) (h : Sl cdE.slice S w A c q.fs) : Calls Tryd.prog 19 #[(.agg #[.int .i64 q.kind, .int .i64 q.col, .int .i64 q.k, .slice A q.fs.length c])] w (QyOwn NotWide w) := by
  have H := Lib.hid h
  clear h
  go_enter Tryd.func19, Tryd.ntmps19
  go_upto_region 1 with fail
  refine wp_world (F := fun wx => Below w.heap.size w wx ∧ Hid (wx.heap[w.heap.size]? = some (.cells #[.int .i64 q.kind, .int .i64 q.col, .int .i64 q.k, .slice A q.fs.length c] 24 (0, 0))) ∧ Hid (wx.heap[w.heap.size + 1]? = some (.cells #[.int .i64 0, .int .i64 0, .int .i64 0, .slice none 0 0] 24 (0, 0)))) ⟨(by repeat' (first | with_reducible exact Below.refl _ _ | with_reducible assumption | with_reducible refine Below.setCell ?_ ?_ _ | with_reducible refine Below.drew ?_ | with_reducible refine below_drewN ?_ _ | with_reducible refine Below.alloc ?_ ?_ _ | (rintro _ ⟨⟩; simp <;> omega) | omega | (simp <;> omega))), Lib.hid ((Below.heap_alloc _ _ _ (by simp)).trans (heap_alloc_at rfl)), Lib.hid (heap_alloc_at (by simp))⟩ ?_
  rintro w1 ⟨bb, gq, gr⟩
  have b0 := Lib.hid bb
  have H1 := Lib.hid (H.out.keep (Below.agree bb))
  obtain ⟨x0, x1, x2, x3⟩ := row4 gq
  clear bb H
  go_upto_region 2 with (go_at_call 13; refine (made13O _ H1.out).mono ?_; rintro e w2 ⟨x, hv, -, B, d, rfl, hs, hb2⟩; have b2 := Lib.hid (b0.out.trans (hb2.mono b0.out.size)); have gr2 := mvQ gr hb2; have HS := Lib.hid hs; have HV := Lib.hid hv; obtain ⟨r0, r1, r2, r3⟩ := row4 gr2; have fr := frz gr2.out; have lr := heap_lt gr2.out; have l1 := heap_lt gr.out; clear hb2 hs hv)
  obtain ⟨⟨hk1, hk7⟩, ⟨hc0, hc3⟩, hc, hk0, hkm, hk36, hfl⟩ := HV.out.head
  have lo := Lib.hid HS.out.lt
  have HS' := Lib.hid (HS.out.sub (T := fun b => OwnS w1.heap.size (.slice B x.fs.length d) b ∧ b < w2.heap.size) (fun b h hl => ⟨h, hl⟩))
  by_cases hnw : 4 ≤ x.kind ∧ x.kind ≤ 6
  · obtain ⟨hn1, hn2⟩ := hnw
    obtain ⟨cc, hcc, hcc2⟩ : ∃ cc : Int, bits BinOp.andNot IntKind.i64 x.col 1 = cc ∧ (cc = 0 ∨ cc = 2) := by
      rcases (by omega : x.col = 0 ∨ x.col = 1 ∨ x.col = 2 ∨ x.col = 3) with e | e | e | e <;> rw [e]
      · exact ⟨0, by decide +kernel, .inl rfl⟩
      · exact ⟨0, by decide +kernel, .inl rfl⟩
      · exact ⟨2, by decide +kernel, .inr rfl⟩
      · exact ⟨2, by decide +kernel, .inr rfl⟩
    have HH := Lib.hid (show HeadOk ⟨x.kind, cc, x.k, x.fs⟩ from ⟨⟨hk1, hk7⟩, ⟨by dsimp only; omega, by dsimp only; omega⟩, .inr ⟨by dsimp only; omega, by dsimp only; omega⟩, hk0, hkm, hk36, hfl⟩)
    have HW := Lib.hid (show wideB ⟨x.kind, cc, x.k, x.fs⟩ = false from decide_eq_false fun h => by have h2 := h.2.2; dsimp only at h2; rcases hcc2 with e | e <;> rw [e] at h2 <;> revert h2 <;> decide)
    clear hc hk36 hkm hfl hcc2
    go_wp2_with fail
    have hbm := b2.out
    exact bodyPost_ret (v := .agg #[.int .i64 x.kind, .int .i64 cc, .int .i64 x.k, .slice B x.fs.length d]) (by simp [results, Tryd.results19, go_sem, *]) rfl ⟨⟨x.kind, cc, x.k, x.fs⟩, ⟨HH.out, HV.out.flt⟩, HW.out, B, d, rfl, (Own.lower (base := w1.heap.size) (Own.sub (S := fun b => OwnS w1.heap.size (.slice B x.fs.length d) b ∧ b < w2.heap.size) (by repeat' (first | with_reducible exact HS'.out | with_reducible refine Own.set ?_ ?_ ?_ _ | with_reducible refine Own.alloc ?_ _ | with_reducible refine Own.drew ?_ | (intro e; have h1 := lo.out _ e; dsimp only at h1; omega) | (rintro ⟨⟨h1, -⟩, h2⟩; dsimp only at h1 h2; omega))) (fun b h _ => ⟨by have := h.1.1; have := b0.out.size; omega, h.1.2⟩)) b0.out.size), (by repeat' (first | with_reducible exact Below.refl _ _ | with_reducible assumption | with_reducible refine Below.setCell ?_ ?_ _ | with_reducible refine Below.drew ?_ | with_reducible refine below_drewN ?_ _ | with_reducible refine Below.alloc ?_ ?_ _ | (rintro _ ⟨⟩; simp <;> omega) | omega | (simp <;> omega)))⟩
  · have HW := Lib.hid (show wideB x = false from decide_eq_false fun h => hnw ⟨h.1, h.2.1⟩)
    clear hc hk36 hkm hfl
    by_cases h4 : 4 ≤ x.kind
    · have h6 : ¬ x.kind ≤ 6 := fun h => hnw ⟨h4, h⟩
      clear hnw
      go_wp2_with fail
      have hbm := b2.out
      exact bodyPost_ret (v := .agg #[.int .i64 x.kind, .int .i64 x.col, .int .i64 x.k, .slice B x.fs.length d]) (by simp [results, Tryd.results19, go_sem, *]) rfl ⟨x, HV.out, HW.out, B, d, rfl, (Own.lower (base := w1.heap.size) (Own.sub (S := fun b => OwnS w1.heap.size (.slice B x.fs.length d) b ∧ b < w2.heap.size) (by repeat' (first | with_reducible exact HS'.out | with_reducible refine Own.set ?_ ?_ ?_ _ | with_reducible refine Own.alloc ?_ _ | with_reducible refine Own.drew ?_ | (intro e; have h1 := lo.out _ e; dsimp only at h1; omega) | (rintro ⟨⟨h1, -⟩, h2⟩; dsimp only at h1 h2; omega))) (fun b h _ => ⟨by have := h.1.1; have := b0.out.size; omega, h.1.2⟩)) b0.out.size), (by repeat' (first | with_reducible exact Below.refl _ _ | with_reducible assumption | with_reducible refine Below.setCell ?_ ?_ _ | with_reducible refine Below.drew ?_ | with_reducible refine below_drewN ?_ _ | with_reducible refine Below.alloc ?_ ?_ _ | (rintro _ ⟨⟩; simp <;> omega) | omega | (simp <;> omega)))⟩
    · clear hnw
      go_wp2_with fail
      have hbm := b2.out
      exact bodyPost_ret (v := .agg #[.int .i64 x.kind, .int .i64 x.col, .int .i64 x.k, .slice B x.fs.length d]) (by simp [results, Tryd.results19, go_sem, *]) rfl ⟨x, HV.out, HW.out, B, d, rfl, (Own.lower (base := w1.heap.size) (Own.sub (S := fun b => OwnS w1.heap.size (.slice B x.fs.length d) b ∧ b < w2.heap.size) (by repeat' (first | with_reducible exact HS'.out | with_reducible refine Own.set ?_ ?_ ?_ _ | with_reducible refine Own.alloc ?_ _ | with_reducible refine Own.drew ?_ | (intro e; have h1 := lo.out _ e; dsimp only at h1; omega) | (rintro ⟨⟨h1, -⟩, h2⟩; dsimp only at h1 h2; omega))) (fun b h _ => ⟨by have := h.1.1; have := b0.out.size; omega, h.1.2⟩)) b0.out.size), (by repeat' (first | with_reducible exact Below.refl _ _ | with_reducible assumption | with_reducible refine Below.setCell ?_ ?_ _ | with_reducible refine Below.drew ?_ | with_reducible refine below_drewN ?_ _ | with_reducible refine Below.alloc ?_ ?_ _ | (rintro _ ⟨⟩; simp <;> omega) | omega | (simp <;> omega)))⟩
theorem made14P {q : Qy} {A : Option Addr} {c : Nat} {S : Nat → Prop} (w : World) (h : Sl cdE.slice S w A c q.fs) : Calls Tryd.prog 19 #[(.agg #[.int .i64 q.kind, .int .i64 q.col, .int .i64 q.k, .slice A q.fs.length c])] w (QyRes NotWide w) :=
  (made14O w h).mono fun _ _ hh => hh.res
end Go.Proofs.YtihcaoipemcddaaDoor
