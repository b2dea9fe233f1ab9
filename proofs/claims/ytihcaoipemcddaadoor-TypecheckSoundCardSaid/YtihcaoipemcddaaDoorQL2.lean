/-
  The law 'TypecheckSound', walked: it returns true for every input, and nothing that existed changes. Condition: the package's map lies as its text lays it.
-/
import Derived.Test.YtihcaoipemcddaaDoorQ22
import Derived.Test.YtihcaoipemcddaaDoorQ23
import Derived.Test.YtihcaoipemcddaaDoorQP2
namespace Go.Proofs.YtihcaoipemcddaaDoor
open Go.RowKit

theorem rdsQT : SlT Tryd.prog 38 40 rdE 32 := ⟨Tryd.underlying38, by kernel_rfl, by decide⟩
/-- A query's box, its filters below N, and readings gathered in a row of the call's own from N on. -/
structure SndAt (w0 : World) (N g : Nat) (x : Qy) (B : Option Addr) (d : Nat) (v : Value) (ys : List Rd) (wr : World) : Prop where
  bel : Below w0.heap.size w0 wr
  lo : w0.heap.size ≤ N
  hi : N ≤ wr.heap.size
  own : Own rdE (fun _ => False) wr N 40 v ys
  ne : v.ownBlock ≠ some g
  box : wr.heap[g]? = some (.cells #[.int .i64 x.kind, .int .i64 x.col, .int .i64 x.k, .slice B x.fs.length d] 24 (0, 0))
  fs : Sl cdE.slice (fun b => b < N) wr B d x.fs
section
variable {w0 wr w' w6 : World} {N g : Nat} {x : Qy} {B : Option Addr} {d : Nat} {v v' : Value} {ys zs : List Rd}
theorem SndAt.call (h : SndAt w0 N g x B d v ys wr) (hb : Below wr.heap.size wr w') : SndAt w0 N g x B d v ys w' :=
  ⟨h.bel.trans (hb.mono h.bel.size), h.lo, Nat.le_trans h.hi hb.size, h.own.call hb, h.ne, (hb.block _ (heap_lt h.box)).trans h.box, h.fs.keep (Below.agree hb)⟩
theorem SndAt.app {o : Obj} {S : Nat → Prop} (h : SndAt w0 N g x B d v ys wr) (ho : Own rdE S w6 N 40 v' zs) (hg : (wr.alloc o).grownBy w6 v.ownBlock) (hor : ∀ k, v'.ownBlock = some k → v.ownBlock = some k ∨ (wr.alloc o).heap.size = k) : SndAt w0 N g x B d v' zs w6 := by
  have hz := hg.size
  have hl := heap_lt h.box
  have hhi := h.hi
  have hbs := h.bel.size
  simp at hz
  refine ⟨(h.bel.alloc h.bel.size _).grown hg (by simp; omega) (fun k hk => Nat.le_trans h.lo (h.own.lt k hk).1), h.lo, by omega, ho.flat rdE_flat, fun e => ?_, ?_, ?_⟩
  · rcases hor g e with h6 | h6
    · exact h.ne h6
    · simp at h6; omega
  · exact (hg.block g (by simp; omega) (fun e => h.ne e.symm)).trans ((Below.heap_alloc _ _ _ hl).trans h.box)
  · exact (h.fs.keep ((Agree.refl _ _).alloc _)).keep ((Agree.refl _ _).grown hg (fun k hk hS => by have := (h.own.lt k hk).1; omega))
end
def qL2T : List FRow := [(0, ([], (64, [12]))), (1, ([0], (65, [63]))), (2, ([1], (66, [64]))), (3, ([], (67, [8]))), (4, ([3], (68, [66]))), (5, ([2, 4], (69, [65, 67])))]
set_option maxRecDepth 100000 in
set_option maxHeartbeats 8000000 in
theorem walk_TypecheckSound {q : Qy} {l : List Rd} {A B : Option Addr} {c d : Nat} {n : Int} (w : World) (hw : WidOk w) (h : Sl cdE.slice (fun _ => True) w A c q.fs) (_hc : -9223372036854775808 ≤ q.col ∧ q.col ≤ 9223372036854775807) (k : Sl rdE (fun _ => True) w B d l) (hn : 0 ≤ n ∧ n ≤ 65535) :
    Calls Tryd.prog 4 #[(.agg #[.int .i64 q.kind, .int .i64 q.col, .int .i64 q.k, .slice A q.fs.length c]), .slice B l.length d, .int .u16 n] w fun e w' => e = .returned (.bool true) ∧ Below w.heap.size w w' := by
  have HW := Lib.hid hw
  have H := Lib.hid h
  have K := Lib.hid k.old
  have hm := h.max
  have hml := k.max
  obtain ⟨m, rfl⟩ : ∃ m : Nat, n = m := ⟨n.toNat, by omega⟩
  obtain ⟨r, hr, hr1⟩ : ∃ r : Nat, (m : Int).tmod 1000 = (r : Int) ∧ r < 1000 := tmod_bd m 1000 (by omega)
  clear hw h k
  go_enter Tryd.func4, Tryd.ntmps4
  go_upto_region 1 with fail
  refine wp_world (F := fun wx => Below w.heap.size w wx ∧ Hid (wx.heap[w.heap.size]? = some (.cells #[.int .i64 q.kind, .int .i64 q.col, .int .i64 q.k, .slice A q.fs.length c] 24 (0, 0)))) ⟨(by repeat' (first | with_reducible exact Below.refl _ _ | with_reducible assumption | with_reducible refine Below.setCell ?_ ?_ _ | with_reducible refine Below.drew ?_ | with_reducible refine below_drewN ?_ _ | with_reducible refine Below.alloc ?_ ?_ _ | (rintro _ ⟨⟩; simp <;> omega) | omega | (simp <;> omega))), Lib.hid (heap_alloc_at rfl)⟩ ?_
  rintro w1 ⟨bb, gq⟩
  have b1 := Lib.hid bb
  have W1 := mvW HW bb
  clear bb HW
  go_upto_region 2 with (go_at_call 10; refine (sanityL14 _ W1.out).mono ?_; rintro e w2 ⟨rfl, hb2⟩; have b2 := Lib.hid (b1.out.trans (hb2.mono b1.out.size)); have gq2 := mvQ gq hb2; have W2 := mvW W1 hb2; clear hb2)
  obtain ⟨x0, x1, x2, x3⟩ := row4 gq2
  have H2 := Lib.hid (H.out.keep (Below.agree b2.out))
  clear gq W1 b1 H
  go_cut [8, 9] (fun p s wx => ∃ (N g : Nat) (x : Qy) (B : Option Addr) (d : Nat) (b : Nat), p = .pointer (some ⟨g, 0, none⟩) ∧ s = .slice (some ⟨b, 0, none⟩) 0 0 ∧ ValidQ x ∧ NotWide x ∧ SndAt w2 N g x B d (.slice (some ⟨b, 0, none⟩) 0 0) [] wx)
  case first =>
    go_wp2_with (go_at_call 19; refine (made14P (q := q) _ H2.out).mono ?_; rintro e wC ⟨x, hv, hnw, B, d, rfl, hs, hbC⟩; have HC := Lib.hid hs; have bC := Lib.hid hbC; have HV := Lib.hid hv; have HN := Lib.hid hnw; clear hs hbC hv hnw)
    go_meet
    case rel => exact ⟨wC.heap.size, _, x, B, d, _, rfl, rfl, HV.out, HN.out, ⟨(bC.out.alloc bC.out.size _).alloc (by have := bC.out.size; simp; omega) _, bC.out.size, by simp; omega, (Own.litAt _ _ _ _ rfl (Nat.le_refl _)).alloc _, by simp [Value.ownBlock], heap_alloc_at (by simp), (HC.out.sub (fun b _ h => h)).keep (by repeat' (first | with_reducible exact Agree.refl _ _ | with_reducible assumption | with_reducible refine Agree.alloc ?_ _ | with_reducible refine Agree.drew ?_ | with_reducible refine Agree.drewN ?_ _ | with_reducible refine Agree.call ?_ (by with_reducible assumption)))⟩⟩
  obtain ⟨N, g, x, B2, d2, b0, rfl, rfl, hv, hnw, hS⟩ := hcut
  have HV := Lib.hid hv
  have HNW := Lib.hid hnw
  have HS := Lib.hid hS
  clear hv hnw hS x0 x1 x2 x3 gq2 H2
  have K2 := Lib.hid (K.out.keep (Below.agree b2.out))
  (first | go_values | go_skip | go_guarded | go_step | go_upon | go_back)
  (first | go_values | go_skip | go_guarded | go_step | go_upon | go_back)
  go_cut [9] (fun s wx => ∃ (j : Nat) (B3 : Option Addr) (d3 : Nat) (ys : List Rd), j ≤ 40 ∧ ys.length = j ∧ (∀ y ∈ ys, ValidR y) ∧ s = .slice B3 j d3 ∧ SndAt w2 N g x B2 d2 (.slice B3 j d3) ys wx)
  case first =>
    go_wp2_with fail
    go_loopw [9, 10] (fun s i wr => ∃ (j : Nat) (B3 : Option Addr) (d3 : Nat) (ys : List Rd), j ≤ l.length ∧ j ≤ 40 ∧ i = .int .i64 j ∧ ys.length = j ∧ (∀ y ∈ ys, ValidR y) ∧ s = .slice B3 j d3 ∧ SndAt w2 N g x B2 d2 (.slice B3 j d3) ys wr) (fun _ i _ => l.length - (intOf i).toNat)
    case atStart => exact ⟨0, _, _, [], by omega, by omega, rfl, rfl, by simp, rfl, HS.out⟩
    case round =>
      clear HS
      obtain ⟨j, B3, d3, ys, hj, hj40, rfl, hyl, hyv, rfl, hS⟩ := hrel
      have HS := Lib.hid hS
      have HY := Lib.hid hyv
      clear hS hyv
      have hj0 : (0 : Int) ≤ (j : Int) := by omega
      by_cases hlt : j < l.length ∧ j < 40
      · obtain ⟨hl1, hl2⟩ := hlt
        have hj1 : (j : Int) < (l.length : Int) := by omega
        have hj2 : (j : Int) < 40 := by omega
        obtain ⟨y, hy⟩ : ∃ y, l[j]? = some y := ⟨_, List.getElem?_eq_getElem hl1⟩
        obtain ⟨b4, o4, rfl, -, l4, y0, y1, y2, y3⟩ := rd_at (K2.out.keep (Below.agree HS.out.bel)) hy
        clear hy
        go_wp2_with (first
          | (go_at_call 20; refine (madeRdP y _).mono ?_; rintro e w4 ⟨y', hy', rfl, hb4⟩; have HY' := Lib.hid hy'; have HS4 := Lib.hid (HS.out.call hb4); have lo4 := HS4.out.own.lt; have lz4 := HS4.out.hi; clear hy' hb4)
          | (at_builtin; go_must ((refine wpList_append_E (S := fun b => b = w4.heap.size) rfl (.tmp 30) (.tmp 36) rfl rdsQT (base := N) (v := .slice B3 j d3) (xs := ys) (ys := [y']) (by rfl) (by rfl) rfl (nz := j + 1) (by simp [hyl]) ((HS4.out.own.flat rdE_flat).alloc _) (Sl.litAt (S := fun b => b = w4.heap.size) rfl (.single rdE_shut) (by unfold maxLen; simp) (fun _ h _ => h) rfl) (by unfold maxLen; simp [hyl]; omega) (by simp [hyl]; omega) (by simp; omega) (fun g hg (hs : g = w4.heap.size) => absurd (lo4 g hg).2 (by omega)) ?_; intro A6 c6 w6 hown6 hg6 hor6))))
        go_roundw
        case rel => exact ⟨j + 1, A6, c6, ys ++ [y'], by omega, by omega, by go_num, by simp [hyl], fun u hu => (List.mem_append.1 hu).elim (HY.out u) (fun h => by simp at h; subst h; exact HY'.out), rfl, HS4.out.app hown6 hg6 hor6⟩
        case measure => simp [intOf]; omega
      · by_cases hl1 : j < l.length
        · have hj1 : (j : Int) < (l.length : Int) := by omega
          have hj2 : ¬ (j : Int) < 40 := by omega
          go_wp2_with fail
          go_meet
          exact ⟨j, B3, d3, ys, hj40, hyl, HY.out, rfl, HS.out⟩
        · have hj1 : ¬ (j : Int) < (l.length : Int) := by omega
          go_wp2_with fail
          go_meet
          exact ⟨j, B3, d3, ys, hj40, hyl, HY.out, rfl, HS.out⟩
  obtain ⟨j, B3, d3, ys, hj40, rfl, hyv, rfl, hS⟩ := hcut
  obtain ⟨w5, hwv⟩ : ∃ x, x = wc := ⟨_, rfl⟩
  subst hwv
  have HS := Lib.hid hS
  have HY := Lib.hid hyv
  have W5 := Lib.hid (W2.out.keep hS.bel)
  have b5 := Lib.hid (b2.out.trans (hS.bel.mono b2.out.size))
  have S5 := Lib.hid (hS.own.toSl (T := fun _ => True) (fun _ h _ => h.elim) (fun _ _ _ _ => trivial))
  have F5 := Lib.hid hS.fs
  have gx := Lib.hid hS.box
  clear hS hyv W2 b2 K K2
  obtain ⟨rows, hrows⟩ : ∃ rows : Nat, ys.length + r = rows := ⟨_, rfl⟩
  have hrw : (ys.length : Int) + (r : Int) = (rows : Int) := by omega
  have hrb : rows ≤ 1039 := by omega
  have hjr : ys.length ≤ rows := by omega
  obtain ⟨y0, y1, y2, y3⟩ := row4 gx
  have hwr : IntKind.u16.wrap (r : Int) = (r : Int) := IntWalk.u16_in _ (by omega)
  obtain ⟨L, hL⟩ : ∃ L, (boundF x rows).1.length = L := ⟨_, rfl⟩
  have HL := Lib.hid hL
  have hkk := HV.out.head.1
  have hLs : (L : Int) = sumsC x.kind := by rw [← hL]; exact bound_len hkk.1 hkk.2
  have hL32 : L ≤ 32 := by have := sums_le hkk.1 hkk.2; omega
  have hL16 : x.kind ≠ 7 → L ≤ 16 := fun h => by have := (sums_le hkk.1 hkk.2).2.2 h; omega
  have HLS := Lib.hid hLs
  have HL16 := Lib.hid hL16
  have HCV := Lib.hid (check_val HV.out HNW.out (n := rows) (by omega) (by omega))
  clear hL hLs hL16 hkk hrows
  go_upto_region 8 with fail
  cases hok : (boundF x rows).2 with
  | false =>
    have HP := Lib.hid (show checkTF x rows = ([], 141) by rw [HCV.out, hok]; rfl)
    clear hok
    go_wp2_with (go_at_call 11; refine (checkP (q := x) rows _ W5.out F5.out HP.out).mono ?_; rintro e wC ⟨B, d, rfl, hs, hbC⟩; have bC := Lib.hid (b5.out.trans (hbC.mono b5.out.size)); clear hs hbC)
    go_ret
    exact ⟨rfl, bC.out.alloc bC.out.size _⟩
  | true =>
    have HP := Lib.hid (show checkTF x rows = ((boundF x rows).1, 0) by rw [HCV.out, hok]; rfl)
    have HOK := Lib.hid hok
    clear hok
    go_cut [12, 13] (fun p e wx => ∃ g, p = .pointer (some ⟨g, 0, none⟩) ∧ e = .int .i64 0 ∧ Bx wx g (boundF x rows).1 ∧ Below w5.heap.size w5 wx)
    case first =>
      go_wp2_with (go_at_call 11; refine (checkP (q := x) rows _ W5.out F5.out HP.out).mono ?_; rintro e wC ⟨B, d, rfl, hs, hbC⟩; have HC := Lib.hid hs; have bC := Lib.hid hbC; clear hs hbC)
      go_meet
      case rel => exact ⟨_, rfl, rfl, ⟨B, d, heap_alloc_at rfl, (HC.out.sub (fun _ _ _ => trivial)).keep ((Agree.refl _ _).alloc _)⟩, bC.out.alloc bC.out.size _⟩
    obtain ⟨g6, rfl, rfl, hbx, hb⟩ := hcut
    obtain ⟨w6, hwv⟩ : ∃ x, x = wc := ⟨_, rfl⟩
    subst hwv
    have b6 := Lib.hid (b5.out.trans (hb.mono b5.out.size))
    have gx6 := mvQ gx hb
    have S6 := Lib.hid (S5.out.keep (Below.agree hb))
    have F6 := Lib.hid (F5.out.keep (Below.agree hb))
    obtain ⟨B7, d7, g7, s7⟩ := hbx
    rw [HL.out] at g7
    have G7 := Lib.hid g7
    have S7 := Lib.hid s7
    have hm7 := s7.max
    rw [HL.out] at hm7
    have z7 : ∀ W, Below w6.heap.size w6 W → _ ∧ _ ∧ _ := fun W hW => one (mvQ G7 hW)
    have zx : ∀ W, Below w6.heap.size w6 W → _ ∧ _ ∧ _ ∧ _ := fun W hW => row4 (mvQ gx6 hW)
    have br : Below w6.heap.size w6 w6 := Below.refl _ _
    have ba : ∀ W o, Below w6.heap.size w6 W → Below w6.heap.size w6 (W.alloc o) := fun W o h => h.alloc h.size o
    have bc : ∀ W W', Below w6.heap.size w6 W → Below W.heap.size W W' → Below w6.heap.size w6 W' := fun W W' h k => h.trans (k.mono h.size)
    have hne : ((L : Int) != sumsC x.kind) = false := by rw [HLS.out]; simp
    clear y0 y1 y2 y3 hb g7 s7 W5 b5 gx S5 F5 HS
    go_upto_region 11 with fail
    refine wp_region_noPanic ?_
    refine wp_region_held_drew (S := fun X => Below w6.heap.size w6 X) (by kernel_rfl) ?_ (fun hHeld => ?_)
    · (first | with_reducible assumption | (with_reducible refine Below.drew ?_; with_reducible assumption) | (with_reducible refine ba _ _ ?_; with_reducible assumption) | (with_reducible refine Below.drew ?_; with_reducible refine ba _ _ ?_; with_reducible assumption) | exact Below.refl _ _ | exact (Below.refl _ _).drew | exact (Below.refl _ _).alloc (Nat.le_refl _) _ | (refine bc _ _ (by assumption) (by assumption)))
    refine RegOk.begin_ (n := 6) (T := qL2T) ⟨by kernel_rfl, by kernel_rfl, by kernel_rfl, by kernel_rfl⟩ fun hR => ?_
    refine hR.take (i := 0) (oi := ?ow1_0) (v := ?vw1_0) (m' := 1) ?hw1_0 (by kernel_rfl) (by kernel_rfl) (fun _ _ _ h => h) (Or.inl ⟨?sw1_0, ?yw1_0⟩) (by assumption) ?nw1_0
    case hw1_0 => simp only [List.getElem?_toArray, List.getElem?_cons_succ, List.getElem?_cons_zero]; rfl
    case sw1_0 => rfl
    case yw1_0 => (intro w hSw; (try dsimp only at hSw); go_simp <;> with_reducible rfl)
    try simp only [Act.put, List.setIfInBounds_toArray, List.set_cons_zero, List.set_cons_succ]
    refine hR.take (i := 1) (oi := ?ow2_1) (v := ?vw2_1) (m' := 3) ?hw2_1 (by kernel_rfl) (by kernel_rfl) (fun _ _ _ h => h) (Or.inl ⟨?sw2_1, ?yw2_1⟩) (by assumption) ?nw2_1
    case hw2_1 => simp only [List.getElem?_toArray, List.getElem?_cons_succ, List.getElem?_cons_zero]; rfl
    case sw2_1 => rfl
    case yw2_1 => (intro w hSw; (try dsimp only at hSw); go_simp <;> with_reducible rfl)
    try simp only [Act.put, List.setIfInBounds_toArray, List.set_cons_zero, List.set_cons_succ]
    refine hR.take (i := 2) (oi := ?ow3_2) (v := ?vw3_2) (m' := 7) ?hw3_2 (by kernel_rfl) (by kernel_rfl) (fun _ _ _ h => h) (Or.inl ⟨?sw3_2, ?yw3_2⟩) (by assumption) ?nw3_2
    case hw3_2 => simp only [List.getElem?_toArray, List.getElem?_cons_succ, List.getElem?_cons_zero]; rfl
    case sw3_2 => rfl
    case yw3_2 => (intro w hSw; (try dsimp only at hSw); go_simp <;> with_reducible rfl)
    try simp only [Act.put, List.setIfInBounds_toArray, List.set_cons_zero, List.set_cons_succ]
    refine hR.take (i := 3) (oi := ?ow4_3) (v := ?vw4_3) (m' := 15) ?hw4_3 (by kernel_rfl) (by kernel_rfl) (fun _ _ _ h => h) (Or.inl ⟨?sw4_3, ?yw4_3⟩) (by assumption) ?nw4_3
    case hw4_3 => simp only [List.getElem?_toArray, List.getElem?_cons_succ, List.getElem?_cons_zero]; rfl
    case sw4_3 => rfl
    case yw4_3 => (intro w hSw; (try dsimp only at hSw); go_simp <;> with_reducible rfl)
    try simp only [Act.put, List.setIfInBounds_toArray, List.set_cons_zero, List.set_cons_succ]
    refine hR.come (rs := [4]) (by kernel_rfl) (by simp) ?_
    refine AllReadyH.cons (o := ?o5_4) ?h5_4 (fun K hK => ?kw5_4) AllReadyH.nil
    case h5_4 => simp only [List.getElem?_toArray, List.getElem?_cons_succ, List.getElem?_cons_zero]; rfl
    go_simp
    go_at_call 15; refine (sumsP (q := x) _).mono ?_; rintro e wA ⟨rfl, hA⟩; have hk := bc _ _ (by (first | with_reducible assumption | (with_reducible refine Below.drew ?_; with_reducible assumption) | (with_reducible refine ba _ _ ?_; with_reducible assumption) | (with_reducible refine Below.drew ?_; with_reducible refine ba _ _ ?_; with_reducible assumption) | exact Below.refl _ _ | exact (Below.refl _ _).drew | exact (Below.refl _ _).alloc (Nat.le_refl _) _ | (refine bc _ _ (by assumption) (by assumption)))) hA; clear hA
    refine hK.out _ _ ?_ (fun hHeld => ?_)
    · (first | with_reducible assumption | (with_reducible refine Below.drew ?_; with_reducible assumption) | (with_reducible refine ba _ _ ?_; with_reducible assumption) | (with_reducible refine Below.drew ?_; with_reducible refine ba _ _ ?_; with_reducible assumption) | exact Below.refl _ _ | exact (Below.refl _ _).drew | exact (Below.refl _ _).alloc (Nat.le_refl _) _ | (refine bc _ _ (by assumption) (by assumption)))
    clear hK K
    refine RegOk.put_ (m' := 31) (by kernel_rfl) ?_
    try simp only [Act.put, List.setIfInBounds_toArray, List.set_cons_zero, List.set_cons_succ]
    refine hR.take (i := 5) (oi := ?ow6_5) (v := ?vw6_5) (m' := 63) ?hw6_5 (by kernel_rfl) (by kernel_rfl) (fun _ _ _ h => h) (Or.inl ⟨?sw6_5, ?yw6_5⟩) (by assumption) ?nw6_5
    case hw6_5 => simp only [List.getElem?_toArray, List.getElem?_cons_succ, List.getElem?_cons_zero]; rfl
    case sw6_5 => rfl
    case yw6_5 => (intro w hSw; (try dsimp only at hSw); go_simp <;> with_reducible rfl)
    try simp only [Act.put, List.setIfInBounds_toArray, List.set_cons_zero, List.set_cons_succ]
    refine hR.all (by kernel_rfl) ?_ _
    refine NoPanic.normal ?_
    go_wp2_with fail
    go_loopw [14] (fun i wr => ∃ v : Nat, v ≤ L ∧ i = .int .i64 v ∧ Hid (Below w6.heap.size w6 wr)) (fun i _ => L - (intOf i).toNat)
    case atStart => exact ⟨0, Nat.zero_le _, rfl, Lib.hid (by assumption)⟩
    case round =>
      clear hk
      obtain ⟨v, hv, rfl, hbr⟩ := hrel
      have hk := hbr.out
      have hv0 : (0 : Int) ≤ (v : Int) := by omega
      by_cases hlt : v < L
      · have hv1 : (v : Int) < (L : Int) := by omega
        have hvs : (v : Int) < sumsC x.kind := by rw [← HLS.out]; exact hv1
        have hbl := bound_lt HV.out (n := rows) (by omega) (by omega) HOK.out hvs
        obtain ⟨bv, hbv⟩ : ∃ bv, (rows : Int) * capF x v = bv := ⟨_, rfl⟩
        obtain ⟨b8, o8, rfl, -, l8, v8⟩ := i64_at (S7.out.keep (Below.agree hk)) (i := v) (r := bv) (by rw [bound_at HV.out.head.1.1 HV.out.head.1.2 hvs, hbv])
        have htl := total_le HV.out (v := v) (by omega) HY.out
        have ht0 := (totalF_bd (q := x) v (k6_of HV.out) HY.out).1
        have hcap := (cap_nn HV.out (v := v) (by omega)).1
        have hjj : (ys.length : Int) * capF x v ≤ (rows : Int) * capF x v := Int.mul_le_mul_of_nonneg_right (by omega) hcap
        rw [hbv] at hbl hjj
        obtain ⟨s, hs⟩ : ∃ s, totalF x ys v = s := ⟨_, rfl⟩
        rw [hs] at htl ht0
        have hsb : s ≤ bv := Int.le_trans htl hjj
        have HT := Lib.hid hs
        have n1 : ¬ s < 0 := by omega
        have n2 : ¬ bv < s := by omega
        have n3 : ¬ (4611686018427387904 : Int) ≤ bv := by omega
        have n8 : ∀ W, Below wr.heap.size wr W → W.cell? ⟨b8, o8 + v, none⟩ = some (.int .i64 bv) := fun W hW => (hW.cell (p := ⟨b8, _, none⟩) l8).trans v8
        have hv7 : x.kind ≠ 7 → v < 16 := fun h => by have := HL16.out h; omega
        have HV7 := Lib.hid hv7
        clear hbl htl ht0 hcap hjj hs hbv hv7 hsb hvs
        go_wp2_with (go_at_call 21; refine (totalL14 (q := x) (l := ys) (v := v) _ (F6.out.keep (Below.agree hk)) (S6.out.keep (Below.agree hk)) HV.out HY.out (by omega) (by omega) HV7.out).mono ?_; rw [HT.out]; rintro e w9 ⟨rfl, h9⟩; have hk9 := bc _ _ hk h9)
        go_roundw
        case rel => exact ⟨v + 1, by omega, by go_num, Lib.hid hk9⟩
        case measure => simp [intOf]; omega
      · have hv1 : ¬ (v : Int) < (L : Int) := by omega
        go_wp2_with fail
        go_ret
        exact ⟨rfl, b6.out.trans (hk.mono b6.out.size)⟩
end Go.Proofs.YtihcaoipemcddaaDoor
