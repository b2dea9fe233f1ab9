/-
  The law 'ReadingColumnsDetermineReadings', walked: it returns true for every input, and nothing that existed changes. No condition.
-/
import Derived.Test.YtlolppjnpmdpgaaRdS
import Derived.Test.YtlolppjnpmdpgaaRdRow
import Derived.Test.YtlolppjnpmdpgaaRdLawBi
import Derived.Test.YtlolppjnpmdpgaaRaw
namespace Go.Proofs.Ytlolppjnpmdpgaa
open Go.RowKit

theorem padF_get {N i : Nat} {l : List Int} (h : l.length ≤ i) (hi : i < N) : (padF N l)[i]? = some 0 := by
  unfold padF
  rw [List.getElem?_append_right h, List.getElem?_replicate, if_pos (by omega)]
theorem padF_old {N i : Nat} {l : List Int} {x : Int} (h : l[i]? = some x) : (padF N l)[i]? = some x := by
  unfold padF
  rw [List.getElem?_append_left (List.getElem?_eq_some_iff.1 h).1, h]
theorem col_get {s : Str} {i : Nat} {r : Rd} (h : s.l[i]? = some r) (c : Nat) : (colF s 4 c)[i]? = some (fieldF r c) := padF_old (by rw [List.getElem?_map, h]; rfl)
theorem col_get0 {s : Str} {i : Nat} (h : s.l.length ≤ i) (hi : i < 16) (c : Nat) : (colF s 4 c)[i]? = some 0 := padF_get (by simpa using h) hi
theorem live_get {s : Str} {i : Nat} {b : Bool} (h : s.g[i]? = some b) : (liveColF s 4)[i]? = some (if b then 0 else 1) := padF_old (by rw [List.getElem?_map, h]; rfl)
theorem live_get0 {s : Str} {i : Nat} (h : s.g.length ≤ i) (hi : i < 16) : (liveColF s 4)[i]? = some 0 := padF_get (by simpa using h) hi
theorem live_len16 {s : Str} (h : s.g.length ≤ 16) : (liveColF s 4).length = 16 := padF_len (N := 16) (by simpa using h)
theorem colk_len {s : Str} (hl : s.l.length ≤ 16) (hg : s.g.length ≤ 16) {k : Nat} (hk : k < 5) : ∃ x, (columnsF s 4)[k]? = some x ∧ x.length = 16 := by
  rcases (by omega : k < 4 ∨ k = 4) with h | rfl
  · exact ⟨_, cols_idx s h, col_len16 hl k⟩
  · exact ⟨_, rfl, live_len16 hg⟩
theorem liveT_over {s : Str} (hg : s.g.length = s.l.length) {j : Nat} (h : s.l.length ≤ j) : liveT s j = liveF s := by
  unfold liveT liveF
  rw [List.take_of_length_le (by simp [hg]; omega)]
theorem liveT_stay {s : Str} (hg : s.g.length = s.l.length) {j : Nat} (h : s.l.length ≤ j) : liveT s (j + 1) = liveT s j := by rw [liveT_over hg h, liveT_over hg (by omega)]
theorem list_set_twice {l : List Int} {k : Nat} {x y : Int} (h : l[k]? = some y) : (l.set k x).set k y = l := by
  apply List.ext_getElem?
  intro i
  by_cases e : k = i
  · subst e
    rw [List.getElem?_set_self (by simpa using (List.getElem?_eq_some_iff.1 h).1), h]
  · rw [List.getElem?_set_ne e, List.getElem?_set_ne e]
theorem live_set_back {s : Str} {k : Nat} (h : s.g[k]? = some false) : (liveColF ⟨s.l, s.g.set k true⟩ 4).set k 1 = liveColF s 4 := by
  unfold liveColF padF
  have hk := (List.getElem?_eq_some_iff.1 h).1
  rw [show (⟨s.l, s.g.set k true⟩ : Str).g = s.g.set k true from rfl, List.map_set, List.length_set, List.set_append_left _ _ (by simpa using hk)]
  congr 1
  exact list_set_twice (by rw [List.getElem?_map, h]; rfl)
theorem retractF_natC {s : Str} {k : Nat} (h : k < s.l.length) : retractF s (k : Int) = if s.g.getD k false then (emptyStr, 120) else (⟨s.l, s.g.set k true⟩, 0) := by
  unfold retractF
  rw [if_neg (by omega)]
  rfl
theorem cols_back {s : Str} {k : Nat} (h : s.g[k]? = some false) : (columnsF ⟨s.l, s.g.set k true⟩ 4).set 4 ((liveColF ⟨s.l, s.g.set k true⟩ 4).set k 1) = columnsF s 4 := by
  rw [live_set_back h]; rfl

theorem Coll.drew_ {α : Type} {E : Enc α} {e : TypeId} {w0 : World} {B : Nat} {xs : List α} {v : Value} {wr : World} (h : Coll E e w0 B xs v wr) : Coll E e w0 B xs v wr.drew := ⟨h.own.drew, h.bel.drew, h.base, h.size⟩
theorem Coll.appD {α : Type} {E : Enc α} (hE : E.Flat) {e e2 : TypeId} {w0 wr w6 : World} {B : Nat} {xs ys : List α} {v v' : Value} {S : Nat → Prop} {cells : Array Value} (h : Coll E e w0 B xs v wr)
    (ho : Own E S w6 B e v' (xs ++ ys)) (hg : (wr.alloc (.cells cells e2)).drew.grownBy w6 v.ownBlock) : Coll E e w0 B (xs ++ ys) v' w6 := by
  have hz := hg.size
  have h1 := h.size
  have h2 := h.base
  simp at hz
  exact ⟨ho.flat hE, (h.bel.alloc (by omega) _).drew.grown hg (by simp; omega) (fun k hk => by have := (h.own.lt k hk).1; omega), h.base, by omega⟩
def cdA : List FRow := [(0, ([], (57, [10]))), (1, ([], (58, [7]))), (2, ([1], (59, [57]))), (3, ([2], (60, [58]))), (4, ([], (61, [11]))), (5, ([3, 4], (62, [59, 60]))), (6, ([5], (63, [61]))), (7, ([6], (64, [62]))), (8, ([], (65, [7]))), (9, ([8], (66, [64]))), (10, ([9], (67, [65]))), (11, ([], (68, [11]))), (12, ([10, 11], (69, [66, 67]))), (13, ([12], (70, [68]))), (14, ([13], (71, [69]))), (15, ([], (72, [7]))), (16, ([15], (73, [71]))), (17, ([16], (74, [72]))), (18, ([], (75, [11]))), (19, ([17, 18], (76, [73, 74]))), (20, ([19], (77, [75]))), (21, ([20], (78, [76]))), (22, ([], (79, [7]))), (23, ([22], (80, [78]))), (24, ([23], (81, [79]))), (25, ([], (82, [11]))), (26, ([24, 25], (83, [80, 81]))), (27, ([26], (84, [82]))), (28, ([27], (85, [83]))), (29, ([7, 14, 21, 28], (86, [63, 70, 77, 84]))), (30, ([29], (87, [85]))), (31, ([0, 30], (88, [56, 86]))), (32, ([31, 31, 0, 1, 2, 3, 4, 5, 6, 7, 8, 9, 10, 11, 12, 13, 14, 15, 16, 17, 18, 19, 20, 21, 22, 23, 24, 25, 26, 27, 28, 29, 30, 31], (11, [87])))]
def cdB : List FRow := [(0, ([], (89, [7]))), (1, ([0], (90, [88]))), (2, ([1], (91, [89]))), (3, ([], (92, [11]))), (4, ([2, 3], (93, [90, 91]))), (5, ([4], (94, [92]))), (6, ([5], (95, [93]))), (7, ([6], (96, [94]))), (8, ([7], (97, [11, 95]))), (9, ([7], (98, [6, 95]))), (10, ([9, 7], (99, [97, 95]))), (11, ([10, 7], (100, [98, 95]))), (12, ([8, 11, 7], (101, [96, 99, 95]))), (13, ([12, 7, 7], (102, [100, 95]))), (14, ([13], (103, [7, 101]))), (15, ([14, 13], (104, [102, 101]))), (16, ([15, 13], (105, [103, 101]))), (17, ([13], (106, [11, 101]))), (18, ([16, 17, 13], (107, [104, 105, 101]))), (19, ([18, 13], (108, [106, 101]))), (20, ([13], (109, [7, 101]))), (21, ([20, 13], (110, [108, 101]))), (22, ([21, 13], (111, [109, 101]))), (23, ([13], (112, [11, 101]))), (24, ([22, 23, 13], (113, [110, 111, 101]))), (25, ([24, 13], (114, [112, 101]))), (26, ([19, 25, 13], (115, [107, 113, 101]))), (27, ([13], (116, [7, 101]))), (28, ([27, 13], (117, [115, 101]))), (29, ([28, 13], (118, [116, 101]))), (30, ([13], (119, [11, 101]))), (31, ([29, 30, 13], (120, [117, 118, 101]))), (32, ([31, 13], (121, [119, 101]))), (33, ([26, 32, 13], (122, [114, 120, 101]))), (34, ([13], (123, [7, 101]))), (35, ([34, 13], (124, [122, 101]))), (36, ([35, 13], (125, [123, 101]))), (37, ([13], (126, [11, 101]))), (38, ([36, 37, 13], (127, [124, 125, 101]))), (39, ([38, 13], (128, [126, 101]))), (40, ([33, 39, 13], (129, [121, 127, 101]))), (41, ([40, 13], (130, [128, 101]))), (42, ([13, 41, 7], (131, [101, 129, 95]))), (43, ([7, 42], (132, [95, 130])))]
theorem retractR_eqC {s : Str} {A B : Option Addr} {c d : Nat} {i : Int} {S : Nat → Prop} {p : Str × Int} (w : World) (h : Sl rdE S w A c s.l) (k : Sl .bool S w B d s.g) (ok : OkStr s) (hl : s.l.length ≤ 1000) (hp : retractF s i = p) :
    Calls Try.prog 15 #[.agg #[.slice A s.l.length c, .slice B s.g.length d], .int .i64 i] w (StRes S w p) := by
  rw [← hp]; exact retractR_any w h k ok hl
set_option maxRecDepth 100000 in
set_option maxHeartbeats 8000000 in
theorem walk_ReadingColumnsDetermineReadings {l : List ROp} {at_ : UInt8} {A : Option Addr} {c : Nat} (w : World) (h : Sl ropE (fun _ => True) w A c l) :
    Calls Try.prog 6 #[.slice A l.length c, .int .u8 (at_.toNat : Int)] w fun e w' => e = .returned (.bool true) ∧ Below w.heap.size w w' := by
  have s0 := Lib.hid h
  clear h
  go_enter Try.func6, Try.ntmps6
  go_wp2_with fail
  refine (sanityR _).mono ?_
  rintro e w1 ⟨rfl, bb⟩
  have b0 := Lib.hid bb
  replace s0 := mvS s0 bb
  clear bb
  go_wp2_with fail
  refine (madeR _ s0.out (by decide)).mono ?_
  obtain ⟨ok, hl⟩ := madeF_ok 16 l
  generalize madeF 16 l = s at *
  rintro e w2 ⟨A2, c2, B2, d2, rfl, hs, hg, bb⟩
  replace b0 := Lib.hid (b0.out.trans (bb.mono b0.out.size))
  have s2 := hs.any
  have k2 := hg.any
  clear bb hs hg s0
  have hlen := Lib.hid hl
  have hglen := Lib.hid ok.len
  have hck : checkF s.l.length 4 = 0 := by unfold checkF; rw [if_neg (by omega), if_neg (by show ¬ 2 ^ 4 < s.l.length; omega)]
  replace hck := Lib.hid hck
  clear hl
  go_wp2_with fail
  refine (columnsP_eq (s := s) (log := 4) _ hck.out (s2.out.keep ((Agree.refl _ _).alloc _)) (k2.out.keep ((Agree.refl _ _).alloc _)) ok rfl).mono ?_
  rintro e w3 ⟨A3, c3, rfl, hs, hb⟩
  have bb : Below w2.heap.size w2 w3 := ((Below.refl _ _).alloc (Nat.le_refl _) _).trans (hb.mono (by simp))
  replace b0 := Lib.hid (b0.out.trans (bb.mono b0.out.size))
  have gs : Hid (w3.heap[w2.heap.size]? = some (.cells #[.slice A2 s.l.length c2, .slice B2 s.g.length d2] 30 (0, 0))) := Lib.hid ((hb.block _ (by first | omega | (simp <;> omega) | (simp [World.setCell] <;> omega))).trans (heap_alloc_at rfl))
  replace s2 := mvS s2 bb; replace k2 := mvS k2 bb
  have s3 := hs.any
  clear bb hb hs
  generalize w2.heap.size = n2 at *
  have hlc : (columnsF s 4).length = 5 := rfl
  obtain ⟨b3, o3, _, _, rfl, -, l3, -, -⟩ := col_at s3.out (cols_idx s (k := 0) (by omega))
  have hm3 := s3.out.capMax
  have hle3 := s3.out.le
  rw [hlc] at hle3
  go_wp2_with fail
  have hlc' := Lib.hid hlc
  clear hlc
  go_loop [9] (fun k => ∃ j : Nat, j ≤ 5 ∧ k = .int .i64 j) (fun k => 5 - (intOf k).toNat)
  case atStart => exact ⟨0, by omega, rfl⟩
  case round =>
    obtain ⟨j, hj, rfl⟩ := hrel
    have hj0 : (0 : Int) ≤ (j : Int) := by omega
    by_cases hj5 : j < 5
    · have hj6 : (j : Int) < 5 := by omega
      obtain ⟨x, hx, hx16⟩ := colk_len hlen.out (by rw [hglen.out]; exact hlen.out) hj5
      obtain ⟨B5, d5, y5, hs5⟩ := col_at2 s3.out hx
      rw [hx16] at y5
      clear hx hx16 hs5
      go_wp2_with fail
      go_round
      case rel => exact ⟨j + 1, by omega, by go_num⟩
      case measure => simp [intOf]; omega
    · have hj6 : ¬ (j : Int) < 5 := by omega
      go_wp2_with fail
      clear hj hj0 hj5 hj6 
      go_loopw [10, 11] (fun v i wr => ∃ j : Nat, j ≤ 16 ∧ i = .int .i64 j ∧ Coll rdE 24 w3 w3.heap.size (liveT s j) v wr) (fun _ i _ => 16 - (intOf i).toNat)
      case atStart => exact ⟨0, Nat.zero_le _, rfl, ⟨Own.litAt _ _ _ _ (by simp) (Nat.le_refl _), (Below.refl _ _).alloc (Nat.le_refl _) _, Nat.le_refl _, by simp⟩⟩
      case round =>
        obtain ⟨j, hj, rfl, hC⟩ := hrel
        have hj0 : (0 : Int) ≤ (j : Int) := by omega
        have hsz := hC.size
        have hll := liveT_len s j
        have lo := hC.own.lt
        obtain ⟨A1, c1, rfl, -⟩ := hC.own.form
        have HC := Lib.hid hC
        clear hC
        by_cases hlt : j < 16
        · have hj16 : (j : Int) < 16 := by omega
          have hv5 : ∀ k, k < 5 → ∃ x, (columnsF s 4)[k]? = some x ∧ x.length = 16 := fun k hk => colk_len hlen.out (by rw [hglen.out]; exact hlen.out) hk
          obtain ⟨x0, hx0, hn0⟩ := hv5 0 (by omega)
          obtain ⟨B0, d0, yy0, hs0⟩ := col_at2 s3.out hx0
          rw [hn0] at yy0
          obtain ⟨u0, hu0⟩ : ∃ u, x0[j]? = some u := ⟨_, List.getElem?_eq_getElem (by omega)⟩
          obtain ⟨q0, p0, e0, -, lq0, zz0⟩ := u64_at hs0 hu0
          subst e0
          have yh0 := hold yy0
          have zh0 := hold zz0
          have yc0 := yh0 _ HC.out.bel
          have zc0 := zh0 _ HC.out.bel
          clear hs0 lq0 yy0 zz0 hn0
          obtain ⟨x1, hx1, hn1⟩ := hv5 1 (by omega)
          obtain ⟨B1, d1, yy1, hs1⟩ := col_at2 s3.out hx1
          rw [hn1] at yy1
          obtain ⟨u1, hu1⟩ : ∃ u, x1[j]? = some u := ⟨_, List.getElem?_eq_getElem (by omega)⟩
          obtain ⟨q1, p1, e1, -, lq1, zz1⟩ := u64_at hs1 hu1
          subst e1
          have yh1 := hold yy1
          have zh1 := hold zz1
          have yc1 := yh1 _ HC.out.bel
          have zc1 := zh1 _ HC.out.bel
          clear hs1 lq1 yy1 zz1 hn1
          obtain ⟨x2, hx2, hn2⟩ := hv5 2 (by omega)
          obtain ⟨B2, d2, yy2, hs2⟩ := col_at2 s3.out hx2
          rw [hn2] at yy2
          obtain ⟨u2, hu2⟩ : ∃ u, x2[j]? = some u := ⟨_, List.getElem?_eq_getElem (by omega)⟩
          obtain ⟨q2, p2, e2, -, lq2, zz2⟩ := u64_at hs2 hu2
          subst e2
          have yh2 := hold yy2
          have zh2 := hold zz2
          have yc2 := yh2 _ HC.out.bel
          have zc2 := zh2 _ HC.out.bel
          clear hs2 lq2 yy2 zz2 hn2
          obtain ⟨x3, hx3, hn3⟩ := hv5 3 (by omega)
          obtain ⟨B3, d3, yy3, hs3⟩ := col_at2 s3.out hx3
          rw [hn3] at yy3
          obtain ⟨u3, hu3⟩ : ∃ u, x3[j]? = some u := ⟨_, List.getElem?_eq_getElem (by omega)⟩
          obtain ⟨q3, p3, e3, -, lq3, zz3⟩ := u64_at hs3 hu3
          subst e3
          have yh3 := hold yy3
          have zh3 := hold zz3
          have yc3 := yh3 _ HC.out.bel
          have zc3 := zh3 _ HC.out.bel
          clear hs3 lq3 yy3 zz3 hn3
          obtain ⟨x4, hx4, hn4⟩ := hv5 4 (by omega)
          obtain ⟨B4, d4, yy4, hs4⟩ := col_at2 s3.out hx4
          rw [hn4] at yy4
          obtain ⟨u4, hu4⟩ : ∃ u, x4[j]? = some u := ⟨_, List.getElem?_eq_getElem (by omega)⟩
          obtain ⟨q4, p4, e4, -, lq4, zz4⟩ := u64_at hs4 hu4
          subst e4
          have yh4 := hold yy4
          have zh4 := hold zz4
          have yc4 := yh4 _ HC.out.bel
          have zc4 := zh4 _ HC.out.bel
          clear hs4 lq4 yy4 zz4 hn4
          simp only [Nat.add_zero] at yh0 yc0
          rw [cols_idx s (by omega)] at hx0 hx1 hx2 hx3
          injection hx0 with hx0; injection hx1 with hx1; injection hx2 with hx2; injection hx3 with hx3
          have hx4' : liveColF s 4 = x4 := by injection hx4
          rw [← hx0] at hu0; rw [← hx1] at hu1; rw [← hx2] at hu2; rw [← hx3] at hu3; rw [← hx4'] at hu4
          clear hx0 hx1 hx2 hx3 hx4 hx4' hv5
          have bw : Below w3.heap.size w3 wr := HC.out.bel
          have zs : ∀ W, Below w3.heap.size w3 W → _ ∧ _ ∧ _ ∧ _ ∧ _ := fun W hW => two (mv gs hW)
          have ba : ∀ W o, Below w3.heap.size w3 W → Below w3.heap.size w3 (W.alloc o) := fun W o h => h.alloc h.size o
          have bc : ∀ W W', Below w3.heap.size w3 W → Below W.heap.size W W' → Below w3.heap.size w3 W' := fun W W' h k => h.trans (k.mono h.size)
          by_cases hjl : j < s.l.length
          · obtain ⟨r, hr⟩ : ∃ r, s.l[j]? = some r := ⟨_, List.getElem?_eq_getElem hjl⟩
            obtain ⟨b, hb⟩ : ∃ b, s.g[j]? = some b := ⟨_, List.getElem?_eq_getElem (by rw [hglen.out]; exact hjl)⟩
            have hS := Lib.hid (liveT_snoc hr hb)
            have hv := ok.valid _ (List.mem_of_getElem? hr)
            rw [col_get hr] at hu0 hu1 hu2 hu3
            rw [live_get hb] at hu4
            injection hu0 with hu0; injection hu1 with hu1; injection hu2 with hu2; injection hu3 with hu3; injection hu4 with hu4
            have hu0' : r.who = u0 := hu0
            have hu1' : r.whn = u1 := hu1
            have hu2' : r.knd = u2 := hu2
            have hu3' : r.val = u3 := hu3
            obtain ⟨who, whn, knd, val⟩ := r
            dsimp only at hu0' hu1' hu2' hu3'
            subst hu0'; subst hu1'; subst hu2'; subst hu3'
            obtain ⟨⟨v1, v2⟩, ⟨v3, v4⟩, ⟨v5, v6⟩, v7, v8⟩ := hv
            dsimp only at v1 v2 v3 v4 v5 v6 v7 v8
            clear hu0 hu1 hu2 hu3 hr hb
            cases b with
            | true =>
              have hu4' : u4 = 0 := by simpa using hu4.symm
              subst hu4'
              clear hu4
              have hge : ((s.l.length : Int) ≤ (j : Int)) = False := by simp; omega
              go_wp2_with fail
              as_aux_lemma =>
                refine wp_region_noPanic ?_
                refine wp_region_held_drew (S := fun X => Below w3.heap.size w3 X) (by kernel_rfl) ?_ (fun hHeld => ?_)
                · (first | with_reducible assumption | (with_reducible refine Below.drew ?_; with_reducible assumption) | (with_reducible refine ba _ _ ?_; with_reducible assumption) | (with_reducible refine Below.drew ?_; with_reducible refine ba _ _ ?_; with_reducible assumption) | exact Below.refl _ _ | exact (Below.refl _ _).drew | exact (Below.refl _ _).alloc (Nat.le_refl _) _ | (refine bc _ _ (by assumption) (by assumption)))
                refine RegOk.begin_ (n := 44) (T := cdB) ⟨by kernel_rfl, by kernel_rfl, by kernel_rfl, by kernel_rfl⟩ fun hR => ?_
                refine hR.take (i := 0) (oi := ?oz1_0) (v := ?vz1_0) (m' := 1) ?hz1_0 (by kernel_rfl) (by kernel_rfl) (fun _ _ _ h => h) (Or.inl ⟨?sz1_0, ?yz1_0⟩) (by assumption) ?nz1_0
                case hz1_0 => simp only [List.getElem?_toArray, List.getElem?_cons_succ, List.getElem?_cons_zero]; rfl
                case sz1_0 => rfl
                case yz1_0 => (intro w hSw; (try dsimp only at hSw); go_simp <;> with_reducible rfl)
                try simp only [Act.put, List.setIfInBounds_toArray, List.set_cons_zero, List.set_cons_succ]
                refine hR.take (i := 1) (oi := ?oz2_1) (v := ?vz2_1) (m' := 3) ?hz2_1 (by kernel_rfl) (by kernel_rfl) (fun _ _ _ h => h) (Or.inl ⟨?sz2_1, ?yz2_1⟩) (by assumption) ?nz2_1
                case hz2_1 => simp only [List.getElem?_toArray, List.getElem?_cons_succ, List.getElem?_cons_zero]; rfl
                case sz2_1 => rfl
                case yz2_1 => (intro w hSw; (try dsimp only at hSw); go_simp <;> with_reducible rfl)
                try simp only [Act.put, List.setIfInBounds_toArray, List.set_cons_zero, List.set_cons_succ]
                refine hR.take (i := 2) (oi := ?oz3_2) (v := ?vz3_2) (m' := 7) ?hz3_2 (by kernel_rfl) (by kernel_rfl) (fun _ _ _ h => h) (Or.inl ⟨?sz3_2, ?yz3_2⟩) (by assumption) ?nz3_2
                case hz3_2 => simp only [List.getElem?_toArray, List.getElem?_cons_succ, List.getElem?_cons_zero]; rfl
                case sz3_2 => rfl
                case yz3_2 => (intro w hSw; (try dsimp only at hSw); go_simp <;> with_reducible rfl)
                try simp only [Act.put, List.setIfInBounds_toArray, List.set_cons_zero, List.set_cons_succ]
                refine hR.take (i := 3) (oi := ?oz4_3) (v := ?vz4_3) (m' := 15) ?hz4_3 (by kernel_rfl) (by kernel_rfl) (fun _ _ _ h => h) (Or.inl ⟨?sz4_3, ?yz4_3⟩) (by assumption) ?nz4_3
                case hz4_3 => simp only [List.getElem?_toArray, List.getElem?_cons_succ, List.getElem?_cons_zero]; rfl
                case sz4_3 => rfl
                case yz4_3 => (intro w hSw; (try dsimp only at hSw); go_simp <;> with_reducible rfl)
                try simp only [Act.put, List.setIfInBounds_toArray, List.set_cons_zero, List.set_cons_succ]
                refine hR.take (i := 4) (oi := ?oz5_4) (v := ?vz5_4) (m' := 31) ?hz5_4 (by kernel_rfl) (by kernel_rfl) (fun _ _ _ h => h) (Or.inl ⟨?sz5_4, ?yz5_4⟩) (by assumption) ?nz5_4
                case hz5_4 => simp only [List.getElem?_toArray, List.getElem?_cons_succ, List.getElem?_cons_zero]; rfl
                case sz5_4 => rfl
                case yz5_4 => (intro w hSw; (try dsimp only at hSw); go_simp <;> with_reducible rfl)
                try simp only [Act.put, List.setIfInBounds_toArray, List.set_cons_zero, List.set_cons_succ]
                refine hR.take (i := 5) (oi := ?oz6_5) (v := ?vz6_5) (m' := 63) ?hz6_5 (by kernel_rfl) (by kernel_rfl) (fun _ _ _ h => h) (Or.inl ⟨?sz6_5, ?yz6_5⟩) (by assumption) ?nz6_5
                case hz6_5 => simp only [List.getElem?_toArray, List.getElem?_cons_succ, List.getElem?_cons_zero]; rfl
                case sz6_5 => rfl
                case yz6_5 => (intro w hSw; (try dsimp only at hSw); go_simp <;> with_reducible rfl)
                try simp only [Act.put, List.setIfInBounds_toArray, List.set_cons_zero, List.set_cons_succ]
                refine hR.take (i := 6) (oi := ?oz7_6) (v := ?vz7_6) (m' := 127) ?hz7_6 (by kernel_rfl) (by kernel_rfl) (fun _ _ _ h => h) (Or.inl ⟨?sz7_6, ?yz7_6⟩) (by assumption) ?nz7_6
                case hz7_6 => simp only [List.getElem?_toArray, List.getElem?_cons_succ, List.getElem?_cons_zero]; rfl
                case sz7_6 => rfl
                case yz7_6 => (intro w hSw; (try dsimp only at hSw); go_simp <;> with_reducible rfl)
                try simp only [Act.put, List.setIfInBounds_toArray, List.set_cons_zero, List.set_cons_succ]
                refine hR.take (i := 7) (oi := ?oz8_7) (v := ?vz8_7) (m' := 255) ?hz8_7 (by kernel_rfl) (by kernel_rfl) (fun _ _ _ h => h) (Or.inl ⟨?sz8_7, ?yz8_7⟩) (by assumption) ?nz8_7
                case hz8_7 => simp only [List.getElem?_toArray, List.getElem?_cons_succ, List.getElem?_cons_zero]; rfl
                case sz8_7 => rfl
                case yz8_7 => (intro w hSw; (try dsimp only at hSw); go_simp <;> with_reducible rfl)
                try simp only [Act.put, List.setIfInBounds_toArray, List.set_cons_zero, List.set_cons_succ]
                refine hR.take (i := 8) (oi := ?oz9_8) (v := ?vz9_8) (m' := 511) ?hz9_8 (by kernel_rfl) (by kernel_rfl) (fun _ _ _ h => h) (Or.inl ⟨?sz9_8, ?yz9_8⟩) (by assumption) ?nz9_8
                case hz9_8 => simp only [List.getElem?_toArray, List.getElem?_cons_succ, List.getElem?_cons_zero]; rfl
                case sz9_8 => rfl
                case yz9_8 => (intro w hSw; (try dsimp only at hSw); go_simp <;> with_reducible rfl)
                try simp only [Act.put, List.setIfInBounds_toArray, List.set_cons_zero, List.set_cons_succ]
                refine hR.take (i := 9) (oi := ?oz10_9) (v := ?vz10_9) (m' := 1023) ?hz10_9 (by kernel_rfl) (by kernel_rfl) (fun _ _ _ h => h) (Or.inl ⟨?sz10_9, ?yz10_9⟩) (by assumption) ?nz10_9
                case hz10_9 => simp only [List.getElem?_toArray, List.getElem?_cons_succ, List.getElem?_cons_zero]; rfl
                case sz10_9 => rfl
                case yz10_9 => (intro w hSw; (try dsimp only at hSw); go_simp <;> with_reducible rfl)
                try simp only [Act.put, List.setIfInBounds_toArray, List.set_cons_zero, List.set_cons_succ]
                refine hR.take (i := 10) (oi := ?oz11_10) (v := ?vz11_10) (m' := 2047) ?hz11_10 (by kernel_rfl) (by kernel_rfl) (fun _ _ _ h => h) (Or.inl ⟨?sz11_10, ?yz11_10⟩) (by assumption) ?nz11_10
                case hz11_10 => simp only [List.getElem?_toArray, List.getElem?_cons_succ, List.getElem?_cons_zero]; rfl
                case sz11_10 => rfl
                case yz11_10 => (intro w hSw; (try dsimp only at hSw); go_simp <;> with_reducible rfl)
                try simp only [Act.put, List.setIfInBounds_toArray, List.set_cons_zero, List.set_cons_succ]
                refine hR.take (i := 11) (oi := ?oz12_11) (v := ?vz12_11) (m' := 4095) ?hz12_11 (by kernel_rfl) (by kernel_rfl) (fun _ _ _ h => h) (Or.inl ⟨?sz12_11, ?yz12_11⟩) (by assumption) ?nz12_11
                case hz12_11 => simp only [List.getElem?_toArray, List.getElem?_cons_succ, List.getElem?_cons_zero]; rfl
                case sz12_11 => rfl
                case yz12_11 => (intro w hSw; (try dsimp only at hSw); go_simp <;> with_reducible rfl)
                try simp only [Act.put, List.setIfInBounds_toArray, List.set_cons_zero, List.set_cons_succ]
                refine hR.take (i := 12) (oi := ?oz13_12) (v := ?vz13_12) (m' := 8191) ?hz13_12 (by kernel_rfl) (by kernel_rfl) (fun _ _ _ h => h) (Or.inl ⟨?sz13_12, ?yz13_12⟩) (by assumption) ?nz13_12
                case hz13_12 => simp only [List.getElem?_toArray, List.getElem?_cons_succ, List.getElem?_cons_zero]; rfl
                case sz13_12 => rfl
                case yz13_12 => (intro w hSw; (try dsimp only at hSw); go_simp <;> with_reducible rfl)
                try simp only [Act.put, List.setIfInBounds_toArray, List.set_cons_zero, List.set_cons_succ]
                refine hR.take (i := 13) (oi := ?oz14_13) (v := ?vz14_13) (m' := 16383) ?hz14_13 (by kernel_rfl) (by kernel_rfl) (fun _ _ _ h => h) (Or.inl ⟨?sz14_13, ?yz14_13⟩) (by assumption) ?nz14_13
                case hz14_13 => simp only [List.getElem?_toArray, List.getElem?_cons_succ, List.getElem?_cons_zero]; rfl
                case sz14_13 => rfl
                case yz14_13 => (intro w hSw; (try dsimp only at hSw); go_simp <;> with_reducible rfl)
                try simp only [Act.put, List.setIfInBounds_toArray, List.set_cons_zero, List.set_cons_succ]
                refine hR.take (i := 14) (oi := ?oz15_14) (v := ?vz15_14) (m' := 32767) ?hz15_14 (by kernel_rfl) (by kernel_rfl) (fun _ _ _ h => h) (Or.inr ⟨?sz15_14, ?yz15_14⟩) (by assumption) ?nz15_14
                case hz15_14 => simp only [List.getElem?_toArray, List.getElem?_cons_succ, List.getElem?_cons_zero]; rfl
                case sz15_14 => rfl
                case yz15_14 => rfl
                try simp only [Act.put, List.setIfInBounds_toArray, List.set_cons_zero, List.set_cons_succ]
                refine hR.take (i := 15) (oi := ?oz16_15) (v := ?vz16_15) (m' := 65535) ?hz16_15 (by kernel_rfl) (by kernel_rfl) (fun _ _ _ h => h) (Or.inr ⟨?sz16_15, ?yz16_15⟩) (by assumption) ?nz16_15
                case hz16_15 => simp only [List.getElem?_toArray, List.getElem?_cons_succ, List.getElem?_cons_zero]; rfl
                case sz16_15 => rfl
                case yz16_15 => rfl
                try simp only [Act.put, List.setIfInBounds_toArray, List.set_cons_zero, List.set_cons_succ]
                refine hR.take (i := 16) (oi := ?oz17_16) (v := ?vz17_16) (m' := 131071) ?hz17_16 (by kernel_rfl) (by kernel_rfl) (fun _ _ _ h => h) (Or.inr ⟨?sz17_16, ?yz17_16⟩) (by assumption) ?nz17_16
                case hz17_16 => simp only [List.getElem?_toArray, List.getElem?_cons_succ, List.getElem?_cons_zero]; rfl
                case sz17_16 => rfl
                case yz17_16 => rfl
                try simp only [Act.put, List.setIfInBounds_toArray, List.set_cons_zero, List.set_cons_succ]
                refine hR.take (i := 17) (oi := ?oz18_17) (v := ?vz18_17) (m' := 262143) ?hz18_17 (by kernel_rfl) (by kernel_rfl) (fun _ _ _ h => h) (Or.inr ⟨?sz18_17, ?yz18_17⟩) (by assumption) ?nz18_17
                case hz18_17 => simp only [List.getElem?_toArray, List.getElem?_cons_succ, List.getElem?_cons_zero]; rfl
                case sz18_17 => rfl
                case yz18_17 => rfl
                try simp only [Act.put, List.setIfInBounds_toArray, List.set_cons_zero, List.set_cons_succ]
                refine hR.take (i := 18) (oi := ?oz19_18) (v := ?vz19_18) (m' := 524287) ?hz19_18 (by kernel_rfl) (by kernel_rfl) (fun _ _ _ h => h) (Or.inr ⟨?sz19_18, ?yz19_18⟩) (by assumption) ?nz19_18
                case hz19_18 => simp only [List.getElem?_toArray, List.getElem?_cons_succ, List.getElem?_cons_zero]; rfl
                case sz19_18 => rfl
                case yz19_18 => rfl
                try simp only [Act.put, List.setIfInBounds_toArray, List.set_cons_zero, List.set_cons_succ]
                refine hR.take (i := 19) (oi := ?oz20_19) (v := ?vz20_19) (m' := 1048575) ?hz20_19 (by kernel_rfl) (by kernel_rfl) (fun _ _ _ h => h) (Or.inr ⟨?sz20_19, ?yz20_19⟩) (by assumption) ?nz20_19
                case hz20_19 => simp only [List.getElem?_toArray, List.getElem?_cons_succ, List.getElem?_cons_zero]; rfl
                case sz20_19 => rfl
                case yz20_19 => rfl
                try simp only [Act.put, List.setIfInBounds_toArray, List.set_cons_zero, List.set_cons_succ]
                refine hR.take (i := 20) (oi := ?oz21_20) (v := ?vz21_20) (m' := 2097151) ?hz21_20 (by kernel_rfl) (by kernel_rfl) (fun _ _ _ h => h) (Or.inr ⟨?sz21_20, ?yz21_20⟩) (by assumption) ?nz21_20
                case hz21_20 => simp only [List.getElem?_toArray, List.getElem?_cons_succ, List.getElem?_cons_zero]; rfl
                case sz21_20 => rfl
                case yz21_20 => rfl
                try simp only [Act.put, List.setIfInBounds_toArray, List.set_cons_zero, List.set_cons_succ]
                refine hR.take (i := 21) (oi := ?oz22_21) (v := ?vz22_21) (m' := 4194303) ?hz22_21 (by kernel_rfl) (by kernel_rfl) (fun _ _ _ h => h) (Or.inr ⟨?sz22_21, ?yz22_21⟩) (by assumption) ?nz22_21
                case hz22_21 => simp only [List.getElem?_toArray, List.getElem?_cons_succ, List.getElem?_cons_zero]; rfl
                case sz22_21 => rfl
                case yz22_21 => rfl
                try simp only [Act.put, List.setIfInBounds_toArray, List.set_cons_zero, List.set_cons_succ]
                refine hR.take (i := 22) (oi := ?oz23_22) (v := ?vz23_22) (m' := 8388607) ?hz23_22 (by kernel_rfl) (by kernel_rfl) (fun _ _ _ h => h) (Or.inr ⟨?sz23_22, ?yz23_22⟩) (by assumption) ?nz23_22
                case hz23_22 => simp only [List.getElem?_toArray, List.getElem?_cons_succ, List.getElem?_cons_zero]; rfl
                case sz23_22 => rfl
                case yz23_22 => rfl
                try simp only [Act.put, List.setIfInBounds_toArray, List.set_cons_zero, List.set_cons_succ]
                refine hR.take (i := 23) (oi := ?oz24_23) (v := ?vz24_23) (m' := 16777215) ?hz24_23 (by kernel_rfl) (by kernel_rfl) (fun _ _ _ h => h) (Or.inr ⟨?sz24_23, ?yz24_23⟩) (by assumption) ?nz24_23
                case hz24_23 => simp only [List.getElem?_toArray, List.getElem?_cons_succ, List.getElem?_cons_zero]; rfl
                case sz24_23 => rfl
                case yz24_23 => rfl
                try simp only [Act.put, List.setIfInBounds_toArray, List.set_cons_zero, List.set_cons_succ]
                refine hR.take (i := 24) (oi := ?oz25_24) (v := ?vz25_24) (m' := 33554431) ?hz25_24 (by kernel_rfl) (by kernel_rfl) (fun _ _ _ h => h) (Or.inr ⟨?sz25_24, ?yz25_24⟩) (by assumption) ?nz25_24
                case hz25_24 => simp only [List.getElem?_toArray, List.getElem?_cons_succ, List.getElem?_cons_zero]; rfl
                case sz25_24 => rfl
                case yz25_24 => rfl
                try simp only [Act.put, List.setIfInBounds_toArray, List.set_cons_zero, List.set_cons_succ]
                refine hR.take (i := 25) (oi := ?oz26_25) (v := ?vz26_25) (m' := 67108863) ?hz26_25 (by kernel_rfl) (by kernel_rfl) (fun _ _ _ h => h) (Or.inr ⟨?sz26_25, ?yz26_25⟩) (by assumption) ?nz26_25
                case hz26_25 => simp only [List.getElem?_toArray, List.getElem?_cons_succ, List.getElem?_cons_zero]; rfl
                case sz26_25 => rfl
                case yz26_25 => rfl
                try simp only [Act.put, List.setIfInBounds_toArray, List.set_cons_zero, List.set_cons_succ]
                refine hR.take (i := 26) (oi := ?oz27_26) (v := ?vz27_26) (m' := 134217727) ?hz27_26 (by kernel_rfl) (by kernel_rfl) (fun _ _ _ h => h) (Or.inr ⟨?sz27_26, ?yz27_26⟩) (by assumption) ?nz27_26
                case hz27_26 => simp only [List.getElem?_toArray, List.getElem?_cons_succ, List.getElem?_cons_zero]; rfl
                case sz27_26 => rfl
                case yz27_26 => rfl
                try simp only [Act.put, List.setIfInBounds_toArray, List.set_cons_zero, List.set_cons_succ]
                refine hR.take (i := 27) (oi := ?oz28_27) (v := ?vz28_27) (m' := 268435455) ?hz28_27 (by kernel_rfl) (by kernel_rfl) (fun _ _ _ h => h) (Or.inr ⟨?sz28_27, ?yz28_27⟩) (by assumption) ?nz28_27
                case hz28_27 => simp only [List.getElem?_toArray, List.getElem?_cons_succ, List.getElem?_cons_zero]; rfl
                case sz28_27 => rfl
                case yz28_27 => rfl
                try simp only [Act.put, List.setIfInBounds_toArray, List.set_cons_zero, List.set_cons_succ]
                refine hR.take (i := 28) (oi := ?oz29_28) (v := ?vz29_28) (m' := 536870911) ?hz29_28 (by kernel_rfl) (by kernel_rfl) (fun _ _ _ h => h) (Or.inr ⟨?sz29_28, ?yz29_28⟩) (by assumption) ?nz29_28
                case hz29_28 => simp only [List.getElem?_toArray, List.getElem?_cons_succ, List.getElem?_cons_zero]; rfl
                case sz29_28 => rfl
                case yz29_28 => rfl
                try simp only [Act.put, List.setIfInBounds_toArray, List.set_cons_zero, List.set_cons_succ]
                refine hR.take (i := 29) (oi := ?oz30_29) (v := ?vz30_29) (m' := 1073741823) ?hz30_29 (by kernel_rfl) (by kernel_rfl) (fun _ _ _ h => h) (Or.inr ⟨?sz30_29, ?yz30_29⟩) (by assumption) ?nz30_29
                case hz30_29 => simp only [List.getElem?_toArray, List.getElem?_cons_succ, List.getElem?_cons_zero]; rfl
                case sz30_29 => rfl
                case yz30_29 => rfl
                try simp only [Act.put, List.setIfInBounds_toArray, List.set_cons_zero, List.set_cons_succ]
                refine hR.take (i := 30) (oi := ?oz31_30) (v := ?vz31_30) (m' := 2147483647) ?hz31_30 (by kernel_rfl) (by kernel_rfl) (fun _ _ _ h => h) (Or.inr ⟨?sz31_30, ?yz31_30⟩) (by assumption) ?nz31_30
                case hz31_30 => simp only [List.getElem?_toArray, List.getElem?_cons_succ, List.getElem?_cons_zero]; rfl
                case sz31_30 => rfl
                case yz31_30 => rfl
                try simp only [Act.put, List.setIfInBounds_toArray, List.set_cons_zero, List.set_cons_succ]
                refine hR.take (i := 31) (oi := ?oz32_31) (v := ?vz32_31) (m' := 4294967295) ?hz32_31 (by kernel_rfl) (by kernel_rfl) (fun _ _ _ h => h) (Or.inr ⟨?sz32_31, ?yz32_31⟩) (by assumption) ?nz32_31
                case hz32_31 => simp only [List.getElem?_toArray, List.getElem?_cons_succ, List.getElem?_cons_zero]; rfl
                case sz32_31 => rfl
                case yz32_31 => rfl
                try simp only [Act.put, List.setIfInBounds_toArray, List.set_cons_zero, List.set_cons_succ]
                refine hR.take (i := 32) (oi := ?oz33_32) (v := ?vz33_32) (m' := 8589934591) ?hz33_32 (by kernel_rfl) (by kernel_rfl) (fun _ _ _ h => h) (Or.inr ⟨?sz33_32, ?yz33_32⟩) (by assumption) ?nz33_32
                case hz33_32 => simp only [List.getElem?_toArray, List.getElem?_cons_succ, List.getElem?_cons_zero]; rfl
                case sz33_32 => rfl
                case yz33_32 => rfl
                try simp only [Act.put, List.setIfInBounds_toArray, List.set_cons_zero, List.set_cons_succ]
                refine hR.take (i := 33) (oi := ?oz34_33) (v := ?vz34_33) (m' := 17179869183) ?hz34_33 (by kernel_rfl) (by kernel_rfl) (fun _ _ _ h => h) (Or.inr ⟨?sz34_33, ?yz34_33⟩) (by assumption) ?nz34_33
                case hz34_33 => simp only [List.getElem?_toArray, List.getElem?_cons_succ, List.getElem?_cons_zero]; rfl
                case sz34_33 => rfl
                case yz34_33 => rfl
                try simp only [Act.put, List.setIfInBounds_toArray, List.set_cons_zero, List.set_cons_succ]
                refine hR.take (i := 34) (oi := ?oz35_34) (v := ?vz35_34) (m' := 34359738367) ?hz35_34 (by kernel_rfl) (by kernel_rfl) (fun _ _ _ h => h) (Or.inr ⟨?sz35_34, ?yz35_34⟩) (by assumption) ?nz35_34
                case hz35_34 => simp only [List.getElem?_toArray, List.getElem?_cons_succ, List.getElem?_cons_zero]; rfl
                case sz35_34 => rfl
                case yz35_34 => rfl
                try simp only [Act.put, List.setIfInBounds_toArray, List.set_cons_zero, List.set_cons_succ]
                refine hR.take (i := 35) (oi := ?oz36_35) (v := ?vz36_35) (m' := 68719476735) ?hz36_35 (by kernel_rfl) (by kernel_rfl) (fun _ _ _ h => h) (Or.inr ⟨?sz36_35, ?yz36_35⟩) (by assumption) ?nz36_35
                case hz36_35 => simp only [List.getElem?_toArray, List.getElem?_cons_succ, List.getElem?_cons_zero]; rfl
                case sz36_35 => rfl
                case yz36_35 => rfl
                try simp only [Act.put, List.setIfInBounds_toArray, List.set_cons_zero, List.set_cons_succ]
                refine hR.take (i := 36) (oi := ?oz37_36) (v := ?vz37_36) (m' := 137438953471) ?hz37_36 (by kernel_rfl) (by kernel_rfl) (fun _ _ _ h => h) (Or.inr ⟨?sz37_36, ?yz37_36⟩) (by assumption) ?nz37_36
                case hz37_36 => simp only [List.getElem?_toArray, List.getElem?_cons_succ, List.getElem?_cons_zero]; rfl
                case sz37_36 => rfl
                case yz37_36 => rfl
                try simp only [Act.put, List.setIfInBounds_toArray, List.set_cons_zero, List.set_cons_succ]
                refine hR.take (i := 37) (oi := ?oz38_37) (v := ?vz38_37) (m' := 274877906943) ?hz38_37 (by kernel_rfl) (by kernel_rfl) (fun _ _ _ h => h) (Or.inr ⟨?sz38_37, ?yz38_37⟩) (by assumption) ?nz38_37
                case hz38_37 => simp only [List.getElem?_toArray, List.getElem?_cons_succ, List.getElem?_cons_zero]; rfl
                case sz38_37 => rfl
                case yz38_37 => rfl
                try simp only [Act.put, List.setIfInBounds_toArray, List.set_cons_zero, List.set_cons_succ]
                refine hR.take (i := 38) (oi := ?oz39_38) (v := ?vz39_38) (m' := 549755813887) ?hz39_38 (by kernel_rfl) (by kernel_rfl) (fun _ _ _ h => h) (Or.inr ⟨?sz39_38, ?yz39_38⟩) (by assumption) ?nz39_38
                case hz39_38 => simp only [List.getElem?_toArray, List.getElem?_cons_succ, List.getElem?_cons_zero]; rfl
                case sz39_38 => rfl
                case yz39_38 => rfl
                try simp only [Act.put, List.setIfInBounds_toArray, List.set_cons_zero, List.set_cons_succ]
                refine hR.take (i := 39) (oi := ?oz40_39) (v := ?vz40_39) (m' := 1099511627775) ?hz40_39 (by kernel_rfl) (by kernel_rfl) (fun _ _ _ h => h) (Or.inr ⟨?sz40_39, ?yz40_39⟩) (by assumption) ?nz40_39
                case hz40_39 => simp only [List.getElem?_toArray, List.getElem?_cons_succ, List.getElem?_cons_zero]; rfl
                case sz40_39 => rfl
                case yz40_39 => rfl
                try simp only [Act.put, List.setIfInBounds_toArray, List.set_cons_zero, List.set_cons_succ]
                refine hR.take (i := 40) (oi := ?oz41_40) (v := ?vz41_40) (m' := 2199023255551) ?hz41_40 (by kernel_rfl) (by kernel_rfl) (fun _ _ _ h => h) (Or.inr ⟨?sz41_40, ?yz41_40⟩) (by assumption) ?nz41_40
                case hz41_40 => simp only [List.getElem?_toArray, List.getElem?_cons_succ, List.getElem?_cons_zero]; rfl
                case sz41_40 => rfl
                case yz41_40 => rfl
                try simp only [Act.put, List.setIfInBounds_toArray, List.set_cons_zero, List.set_cons_succ]
                refine hR.take (i := 41) (oi := ?oz42_41) (v := ?vz42_41) (m' := 4398046511103) ?hz42_41 (by kernel_rfl) (by kernel_rfl) (fun _ _ _ h => h) (Or.inr ⟨?sz42_41, ?yz42_41⟩) (by assumption) ?nz42_41
                case hz42_41 => simp only [List.getElem?_toArray, List.getElem?_cons_succ, List.getElem?_cons_zero]; rfl
                case sz42_41 => rfl
                case yz42_41 => rfl
                try simp only [Act.put, List.setIfInBounds_toArray, List.set_cons_zero, List.set_cons_succ]
                refine hR.take (i := 42) (oi := ?oz43_42) (v := ?vz43_42) (m' := 8796093022207) ?hz43_42 (by kernel_rfl) (by kernel_rfl) (fun _ _ _ h => h) (Or.inl ⟨?sz43_42, ?yz43_42⟩) (by assumption) ?nz43_42
                case hz43_42 => simp only [List.getElem?_toArray, List.getElem?_cons_succ, List.getElem?_cons_zero]; rfl
                case sz43_42 => rfl
                case yz43_42 => (intro w hSw; (try dsimp only at hSw); go_simp <;> with_reducible rfl)
                try simp only [Act.put, List.setIfInBounds_toArray, List.set_cons_zero, List.set_cons_succ]
                refine hR.take (i := 43) (oi := ?oz44_43) (v := ?vz44_43) (m' := 17592186044415) ?hz44_43 (by kernel_rfl) (by kernel_rfl) (fun _ _ _ h => h) (Or.inl ⟨?sz44_43, ?yz44_43⟩) (by assumption) ?nz44_43
                case hz44_43 => simp only [List.getElem?_toArray, List.getElem?_cons_succ, List.getElem?_cons_zero]; rfl
                case sz44_43 => rfl
                case yz44_43 => (intro w hSw; (try dsimp only at hSw); go_simp <;> with_reducible rfl)
                try simp only [Act.put, List.setIfInBounds_toArray, List.set_cons_zero, List.set_cons_succ]
                refine hR.all (by kernel_rfl) ?_ _
                refine NoPanic.normal ?_
                go_wp2_with fail
                go_roundw
                case rel => exact ⟨j + 1, by omega, by go_num, by rw [hS.out]; simpa using HC.out.drew_⟩
                case measure => simp [intOf]; omega
            | false =>
              have hu4' : u4 = 1 := by simpa using hu4.symm
              subst hu4'
              clear hu4
              have HO := Lib.hid HC.out.own
              have i1 : IntKind.i64.wrap who = who := IntWalk.i64_in _ (by omega)
              have i2 : IntKind.i64.wrap whn = whn := IntWalk.i64_in _ (by omega)
              have i3 : IntKind.i64.wrap knd = knd := IntWalk.i64_in _ (by omega)
              have i4 : IntKind.i64.wrap val = val := IntWalk.i64_in _ (by omega)
              go_wp2_with fail
              as_aux_lemma =>
                refine wp_region_noPanic ?_
                refine wp_region_held_drew (S := fun X => Below w3.heap.size w3 X) (by kernel_rfl) ?_ (fun hHeld => ?_)
                · (first | with_reducible assumption | (with_reducible refine Below.drew ?_; with_reducible assumption) | (with_reducible refine ba _ _ ?_; with_reducible assumption) | (with_reducible refine Below.drew ?_; with_reducible refine ba _ _ ?_; with_reducible assumption) | exact Below.refl _ _ | exact (Below.refl _ _).drew | exact (Below.refl _ _).alloc (Nat.le_refl _) _ | (refine bc _ _ (by assumption) (by assumption)))
                refine RegOk.begin_ (n := 33) (T := cdA) ⟨by kernel_rfl, by kernel_rfl, by kernel_rfl, by kernel_rfl⟩ fun hR => ?_
                refine hR.take (i := 0) (oi := ?oz45_0) (v := ?vz45_0) (m' := 1) ?hz45_0 (by kernel_rfl) (by kernel_rfl) (fun _ _ _ h => h) (Or.inl ⟨?sz45_0, ?yz45_0⟩) (by assumption) ?nz45_0
                case hz45_0 => simp only [List.getElem?_toArray, List.getElem?_cons_succ, List.getElem?_cons_zero]; rfl
                case sz45_0 => rfl
                case yz45_0 => (intro w hSw; (try dsimp only at hSw); go_simp <;> with_reducible rfl)
                try simp only [Act.put, List.setIfInBounds_toArray, List.set_cons_zero, List.set_cons_succ]
                refine hR.take (i := 1) (oi := ?oz46_1) (v := ?vz46_1) (m' := 3) ?hz46_1 (by kernel_rfl) (by kernel_rfl) (fun _ _ _ h => h) (Or.inl ⟨?sz46_1, ?yz46_1⟩) (by assumption) ?nz46_1
                case hz46_1 => simp only [List.getElem?_toArray, List.getElem?_cons_succ, List.getElem?_cons_zero]; rfl
                case sz46_1 => rfl
                case yz46_1 => (intro w hSw; (try dsimp only at hSw); go_simp <;> with_reducible rfl)
                try simp only [Act.put, List.setIfInBounds_toArray, List.set_cons_zero, List.set_cons_succ]
                refine hR.take (i := 2) (oi := ?oz47_2) (v := ?vz47_2) (m' := 7) ?hz47_2 (by kernel_rfl) (by kernel_rfl) (fun _ _ _ h => h) (Or.inl ⟨?sz47_2, ?yz47_2⟩) (by assumption) ?nz47_2
                case hz47_2 => simp only [List.getElem?_toArray, List.getElem?_cons_succ, List.getElem?_cons_zero]; rfl
                case sz47_2 => rfl
                case yz47_2 => (intro w hSw; (try dsimp only at hSw); go_simp <;> with_reducible rfl)
                try simp only [Act.put, List.setIfInBounds_toArray, List.set_cons_zero, List.set_cons_succ]
                refine hR.take (i := 3) (oi := ?oz48_3) (v := ?vz48_3) (m' := 15) ?hz48_3 (by kernel_rfl) (by kernel_rfl) (fun _ _ _ h => h) (Or.inl ⟨?sz48_3, ?yz48_3⟩) (by assumption) ?nz48_3
                case hz48_3 => simp only [List.getElem?_toArray, List.getElem?_cons_succ, List.getElem?_cons_zero]; rfl
                case sz48_3 => rfl
                case yz48_3 => (intro w hSw; (try dsimp only at hSw); go_simp <;> with_reducible rfl)
                try simp only [Act.put, List.setIfInBounds_toArray, List.set_cons_zero, List.set_cons_succ]
                refine hR.take (i := 4) (oi := ?oz49_4) (v := ?vz49_4) (m' := 31) ?hz49_4 (by kernel_rfl) (by kernel_rfl) (fun _ _ _ h => h) (Or.inl ⟨?sz49_4, ?yz49_4⟩) (by assumption) ?nz49_4
                case hz49_4 => simp only [List.getElem?_toArray, List.getElem?_cons_succ, List.getElem?_cons_zero]; rfl
                case sz49_4 => rfl
                case yz49_4 => (intro w hSw; (try dsimp only at hSw); go_simp <;> with_reducible rfl)
                try simp only [Act.put, List.setIfInBounds_toArray, List.set_cons_zero, List.set_cons_succ]
                refine hR.take (i := 5) (oi := ?oz50_5) (v := ?vz50_5) (m' := 63) ?hz50_5 (by kernel_rfl) (by kernel_rfl) (fun _ _ _ h => h) (Or.inl ⟨?sz50_5, ?yz50_5⟩) (by assumption) ?nz50_5
                case hz50_5 => simp only [List.getElem?_toArray, List.getElem?_cons_succ, List.getElem?_cons_zero]; rfl
                case sz50_5 => rfl
                case yz50_5 => (intro w hSw; (try dsimp only at hSw); go_simp <;> with_reducible rfl)
                try simp only [Act.put, List.setIfInBounds_toArray, List.set_cons_zero, List.set_cons_succ]
                refine hR.take (i := 6) (oi := ?oz51_6) (v := ?vz51_6) (m' := 127) ?hz51_6 (by kernel_rfl) (by kernel_rfl) (fun _ _ _ h => h) (Or.inl ⟨?sz51_6, ?yz51_6⟩) (by assumption) ?nz51_6
                case hz51_6 => simp only [List.getElem?_toArray, List.getElem?_cons_succ, List.getElem?_cons_zero]; rfl
                case sz51_6 => rfl
                case yz51_6 => (intro w hSw; (try dsimp only at hSw); go_simp <;> with_reducible rfl)
                try simp only [Act.put, List.setIfInBounds_toArray, List.set_cons_zero, List.set_cons_succ]
                refine hR.take (i := 7) (oi := ?oz52_7) (v := ?vz52_7) (m' := 255) ?hz52_7 (by kernel_rfl) (by kernel_rfl) (fun _ _ _ h => h) (Or.inl ⟨?sz52_7, ?yz52_7⟩) (by assumption) ?nz52_7
                case hz52_7 => simp only [List.getElem?_toArray, List.getElem?_cons_succ, List.getElem?_cons_zero]; rfl
                case sz52_7 => rfl
                case yz52_7 => (intro w hSw; (try dsimp only at hSw); go_simp <;> with_reducible rfl)
                try simp only [Act.put, List.setIfInBounds_toArray, List.set_cons_zero, List.set_cons_succ]
                refine hR.take (i := 8) (oi := ?oz53_8) (v := ?vz53_8) (m' := 511) ?hz53_8 (by kernel_rfl) (by kernel_rfl) (fun _ _ _ h => h) (Or.inl ⟨?sz53_8, ?yz53_8⟩) (by assumption) ?nz53_8
                case hz53_8 => simp only [List.getElem?_toArray, List.getElem?_cons_succ, List.getElem?_cons_zero]; rfl
                case sz53_8 => rfl
                case yz53_8 => (intro w hSw; (try dsimp only at hSw); go_simp <;> with_reducible rfl)
                try simp only [Act.put, List.setIfInBounds_toArray, List.set_cons_zero, List.set_cons_succ]
                refine hR.take (i := 9) (oi := ?oz54_9) (v := ?vz54_9) (m' := 1023) ?hz54_9 (by kernel_rfl) (by kernel_rfl) (fun _ _ _ h => h) (Or.inl ⟨?sz54_9, ?yz54_9⟩) (by assumption) ?nz54_9
                case hz54_9 => simp only [List.getElem?_toArray, List.getElem?_cons_succ, List.getElem?_cons_zero]; rfl
                case sz54_9 => rfl
                case yz54_9 => (intro w hSw; (try dsimp only at hSw); go_simp <;> with_reducible rfl)
                try simp only [Act.put, List.setIfInBounds_toArray, List.set_cons_zero, List.set_cons_succ]
                refine hR.take (i := 10) (oi := ?oz55_10) (v := ?vz55_10) (m' := 2047) ?hz55_10 (by kernel_rfl) (by kernel_rfl) (fun _ _ _ h => h) (Or.inl ⟨?sz55_10, ?yz55_10⟩) (by assumption) ?nz55_10
                case hz55_10 => simp only [List.getElem?_toArray, List.getElem?_cons_succ, List.getElem?_cons_zero]; rfl
                case sz55_10 => rfl
                case yz55_10 => (intro w hSw; (try dsimp only at hSw); go_simp <;> with_reducible rfl)
                try simp only [Act.put, List.setIfInBounds_toArray, List.set_cons_zero, List.set_cons_succ]
                refine hR.take (i := 11) (oi := ?oz56_11) (v := ?vz56_11) (m' := 4095) ?hz56_11 (by kernel_rfl) (by kernel_rfl) (fun _ _ _ h => h) (Or.inl ⟨?sz56_11, ?yz56_11⟩) (by assumption) ?nz56_11
                case hz56_11 => simp only [List.getElem?_toArray, List.getElem?_cons_succ, List.getElem?_cons_zero]; rfl
                case sz56_11 => rfl
                case yz56_11 => (intro w hSw; (try dsimp only at hSw); go_simp <;> with_reducible rfl)
                try simp only [Act.put, List.setIfInBounds_toArray, List.set_cons_zero, List.set_cons_succ]
                refine hR.take (i := 12) (oi := ?oz57_12) (v := ?vz57_12) (m' := 8191) ?hz57_12 (by kernel_rfl) (by kernel_rfl) (fun _ _ _ h => h) (Or.inl ⟨?sz57_12, ?yz57_12⟩) (by assumption) ?nz57_12
                case hz57_12 => simp only [List.getElem?_toArray, List.getElem?_cons_succ, List.getElem?_cons_zero]; rfl
                case sz57_12 => rfl
                case yz57_12 => (intro w hSw; (try dsimp only at hSw); go_simp <;> with_reducible rfl)
                try simp only [Act.put, List.setIfInBounds_toArray, List.set_cons_zero, List.set_cons_succ]
                refine hR.take (i := 13) (oi := ?oz58_13) (v := ?vz58_13) (m' := 16383) ?hz58_13 (by kernel_rfl) (by kernel_rfl) (fun _ _ _ h => h) (Or.inl ⟨?sz58_13, ?yz58_13⟩) (by assumption) ?nz58_13
                case hz58_13 => simp only [List.getElem?_toArray, List.getElem?_cons_succ, List.getElem?_cons_zero]; rfl
                case sz58_13 => rfl
                case yz58_13 => (intro w hSw; (try dsimp only at hSw); go_simp <;> with_reducible rfl)
                try simp only [Act.put, List.setIfInBounds_toArray, List.set_cons_zero, List.set_cons_succ]
                refine hR.take (i := 14) (oi := ?oz59_14) (v := ?vz59_14) (m' := 32767) ?hz59_14 (by kernel_rfl) (by kernel_rfl) (fun _ _ _ h => h) (Or.inl ⟨?sz59_14, ?yz59_14⟩) (by assumption) ?nz59_14
                case hz59_14 => simp only [List.getElem?_toArray, List.getElem?_cons_succ, List.getElem?_cons_zero]; rfl
                case sz59_14 => rfl
                case yz59_14 => (intro w hSw; (try dsimp only at hSw); go_simp <;> with_reducible rfl)
                try simp only [Act.put, List.setIfInBounds_toArray, List.set_cons_zero, List.set_cons_succ]
                refine hR.take (i := 15) (oi := ?oz60_15) (v := ?vz60_15) (m' := 65535) ?hz60_15 (by kernel_rfl) (by kernel_rfl) (fun _ _ _ h => h) (Or.inl ⟨?sz60_15, ?yz60_15⟩) (by assumption) ?nz60_15
                case hz60_15 => simp only [List.getElem?_toArray, List.getElem?_cons_succ, List.getElem?_cons_zero]; rfl
                case sz60_15 => rfl
                case yz60_15 => (intro w hSw; (try dsimp only at hSw); go_simp <;> with_reducible rfl)
                try simp only [Act.put, List.setIfInBounds_toArray, List.set_cons_zero, List.set_cons_succ]
                refine hR.take (i := 16) (oi := ?oz61_16) (v := ?vz61_16) (m' := 131071) ?hz61_16 (by kernel_rfl) (by kernel_rfl) (fun _ _ _ h => h) (Or.inl ⟨?sz61_16, ?yz61_16⟩) (by assumption) ?nz61_16
                case hz61_16 => simp only [List.getElem?_toArray, List.getElem?_cons_succ, List.getElem?_cons_zero]; rfl
                case sz61_16 => rfl
                case yz61_16 => (intro w hSw; (try dsimp only at hSw); go_simp <;> with_reducible rfl)
                try simp only [Act.put, List.setIfInBounds_toArray, List.set_cons_zero, List.set_cons_succ]
                refine hR.take (i := 17) (oi := ?oz62_17) (v := ?vz62_17) (m' := 262143) ?hz62_17 (by kernel_rfl) (by kernel_rfl) (fun _ _ _ h => h) (Or.inl ⟨?sz62_17, ?yz62_17⟩) (by assumption) ?nz62_17
                case hz62_17 => simp only [List.getElem?_toArray, List.getElem?_cons_succ, List.getElem?_cons_zero]; rfl
                case sz62_17 => rfl
                case yz62_17 => (intro w hSw; (try dsimp only at hSw); go_simp <;> with_reducible rfl)
                try simp only [Act.put, List.setIfInBounds_toArray, List.set_cons_zero, List.set_cons_succ]
                refine hR.take (i := 18) (oi := ?oz63_18) (v := ?vz63_18) (m' := 524287) ?hz63_18 (by kernel_rfl) (by kernel_rfl) (fun _ _ _ h => h) (Or.inl ⟨?sz63_18, ?yz63_18⟩) (by assumption) ?nz63_18
                case hz63_18 => simp only [List.getElem?_toArray, List.getElem?_cons_succ, List.getElem?_cons_zero]; rfl
                case sz63_18 => rfl
                case yz63_18 => (intro w hSw; (try dsimp only at hSw); go_simp <;> with_reducible rfl)
                try simp only [Act.put, List.setIfInBounds_toArray, List.set_cons_zero, List.set_cons_succ]
                refine hR.take (i := 19) (oi := ?oz64_19) (v := ?vz64_19) (m' := 1048575) ?hz64_19 (by kernel_rfl) (by kernel_rfl) (fun _ _ _ h => h) (Or.inl ⟨?sz64_19, ?yz64_19⟩) (by assumption) ?nz64_19
                case hz64_19 => simp only [List.getElem?_toArray, List.getElem?_cons_succ, List.getElem?_cons_zero]; rfl
                case sz64_19 => rfl
                case yz64_19 => (intro w hSw; (try dsimp only at hSw); go_simp <;> with_reducible rfl)
                try simp only [Act.put, List.setIfInBounds_toArray, List.set_cons_zero, List.set_cons_succ]
                refine hR.take (i := 20) (oi := ?oz65_20) (v := ?vz65_20) (m' := 2097151) ?hz65_20 (by kernel_rfl) (by kernel_rfl) (fun _ _ _ h => h) (Or.inl ⟨?sz65_20, ?yz65_20⟩) (by assumption) ?nz65_20
                case hz65_20 => simp only [List.getElem?_toArray, List.getElem?_cons_succ, List.getElem?_cons_zero]; rfl
                case sz65_20 => rfl
                case yz65_20 => (intro w hSw; (try dsimp only at hSw); go_simp <;> with_reducible rfl)
                try simp only [Act.put, List.setIfInBounds_toArray, List.set_cons_zero, List.set_cons_succ]
                refine hR.take (i := 21) (oi := ?oz66_21) (v := ?vz66_21) (m' := 4194303) ?hz66_21 (by kernel_rfl) (by kernel_rfl) (fun _ _ _ h => h) (Or.inl ⟨?sz66_21, ?yz66_21⟩) (by assumption) ?nz66_21
                case hz66_21 => simp only [List.getElem?_toArray, List.getElem?_cons_succ, List.getElem?_cons_zero]; rfl
                case sz66_21 => rfl
                case yz66_21 => (intro w hSw; (try dsimp only at hSw); go_simp <;> with_reducible rfl)
                try simp only [Act.put, List.setIfInBounds_toArray, List.set_cons_zero, List.set_cons_succ]
                refine hR.take (i := 22) (oi := ?oz67_22) (v := ?vz67_22) (m' := 8388607) ?hz67_22 (by kernel_rfl) (by kernel_rfl) (fun _ _ _ h => h) (Or.inl ⟨?sz67_22, ?yz67_22⟩) (by assumption) ?nz67_22
                case hz67_22 => simp only [List.getElem?_toArray, List.getElem?_cons_succ, List.getElem?_cons_zero]; rfl
                case sz67_22 => rfl
                case yz67_22 => (intro w hSw; (try dsimp only at hSw); go_simp <;> with_reducible rfl)
                try simp only [Act.put, List.setIfInBounds_toArray, List.set_cons_zero, List.set_cons_succ]
                refine hR.take (i := 23) (oi := ?oz68_23) (v := ?vz68_23) (m' := 16777215) ?hz68_23 (by kernel_rfl) (by kernel_rfl) (fun _ _ _ h => h) (Or.inl ⟨?sz68_23, ?yz68_23⟩) (by assumption) ?nz68_23
                case hz68_23 => simp only [List.getElem?_toArray, List.getElem?_cons_succ, List.getElem?_cons_zero]; rfl
                case sz68_23 => rfl
                case yz68_23 => (intro w hSw; (try dsimp only at hSw); go_simp <;> with_reducible rfl)
                try simp only [Act.put, List.setIfInBounds_toArray, List.set_cons_zero, List.set_cons_succ]
                refine hR.take (i := 24) (oi := ?oz69_24) (v := ?vz69_24) (m' := 33554431) ?hz69_24 (by kernel_rfl) (by kernel_rfl) (fun _ _ _ h => h) (Or.inl ⟨?sz69_24, ?yz69_24⟩) (by assumption) ?nz69_24
                case hz69_24 => simp only [List.getElem?_toArray, List.getElem?_cons_succ, List.getElem?_cons_zero]; rfl
                case sz69_24 => rfl
                case yz69_24 => (intro w hSw; (try dsimp only at hSw); go_simp <;> with_reducible rfl)
                try simp only [Act.put, List.setIfInBounds_toArray, List.set_cons_zero, List.set_cons_succ]
                refine hR.take (i := 25) (oi := ?oz70_25) (v := ?vz70_25) (m' := 67108863) ?hz70_25 (by kernel_rfl) (by kernel_rfl) (fun _ _ _ h => h) (Or.inl ⟨?sz70_25, ?yz70_25⟩) (by assumption) ?nz70_25
                case hz70_25 => simp only [List.getElem?_toArray, List.getElem?_cons_succ, List.getElem?_cons_zero]; rfl
                case sz70_25 => rfl
                case yz70_25 => (intro w hSw; (try dsimp only at hSw); go_simp <;> with_reducible rfl)
                try simp only [Act.put, List.setIfInBounds_toArray, List.set_cons_zero, List.set_cons_succ]
                refine hR.take (i := 26) (oi := ?oz71_26) (v := ?vz71_26) (m' := 134217727) ?hz71_26 (by kernel_rfl) (by kernel_rfl) (fun _ _ _ h => h) (Or.inl ⟨?sz71_26, ?yz71_26⟩) (by assumption) ?nz71_26
                case hz71_26 => simp only [List.getElem?_toArray, List.getElem?_cons_succ, List.getElem?_cons_zero]; rfl
                case sz71_26 => rfl
                case yz71_26 => (intro w hSw; (try dsimp only at hSw); go_simp <;> with_reducible rfl)
                try simp only [Act.put, List.setIfInBounds_toArray, List.set_cons_zero, List.set_cons_succ]
                refine hR.take (i := 27) (oi := ?oz72_27) (v := ?vz72_27) (m' := 268435455) ?hz72_27 (by kernel_rfl) (by kernel_rfl) (fun _ _ _ h => h) (Or.inl ⟨?sz72_27, ?yz72_27⟩) (by assumption) ?nz72_27
                case hz72_27 => simp only [List.getElem?_toArray, List.getElem?_cons_succ, List.getElem?_cons_zero]; rfl
                case sz72_27 => rfl
                case yz72_27 => (intro w hSw; (try dsimp only at hSw); go_simp <;> with_reducible rfl)
                try simp only [Act.put, List.setIfInBounds_toArray, List.set_cons_zero, List.set_cons_succ]
                refine hR.take (i := 28) (oi := ?oz73_28) (v := ?vz73_28) (m' := 536870911) ?hz73_28 (by kernel_rfl) (by kernel_rfl) (fun _ _ _ h => h) (Or.inl ⟨?sz73_28, ?yz73_28⟩) (by assumption) ?nz73_28
                case hz73_28 => simp only [List.getElem?_toArray, List.getElem?_cons_succ, List.getElem?_cons_zero]; rfl
                case sz73_28 => rfl
                case yz73_28 => (intro w hSw; (try dsimp only at hSw); go_simp <;> with_reducible rfl)
                try simp only [Act.put, List.setIfInBounds_toArray, List.set_cons_zero, List.set_cons_succ]
                refine hR.take (i := 29) (oi := ?oz74_29) (v := ?vz74_29) (m' := 1073741823) ?hz74_29 (by kernel_rfl) (by kernel_rfl) (fun _ _ _ h => h) (Or.inl ⟨?sz74_29, ?yz74_29⟩) (by assumption) ?nz74_29
                case hz74_29 => simp only [List.getElem?_toArray, List.getElem?_cons_succ, List.getElem?_cons_zero]; rfl
                case sz74_29 => rfl
                case yz74_29 => (intro w hSw; (try dsimp only at hSw); go_simp <;> with_reducible rfl)
                try simp only [Act.put, List.setIfInBounds_toArray, List.set_cons_zero, List.set_cons_succ]
                refine hR.come (rs := [30]) (by kernel_rfl) (by simp) ?_
                refine AllReadyH.cons (o := ?o75_30) ?h75_30 (fun K hK => ?k75_30) AllReadyH.nil
                case h75_30 => simp only [List.getElem?_toArray, List.getElem?_cons_succ, List.getElem?_cons_zero]; rfl
                go_simp
                have hk := ba _ (.cells #[.int .i64 who, .int .i64 whn, .int .i64 knd, .int .i64 val] 24) (by assumption : Below w3.heap.size w3 wr)
                refine hK.out _ _ ?_ (fun hHeld => ?_)
                · (first | with_reducible assumption | (with_reducible refine Below.drew ?_; with_reducible assumption) | (with_reducible refine ba _ _ ?_; with_reducible assumption) | (with_reducible refine Below.drew ?_; with_reducible refine ba _ _ ?_; with_reducible assumption) | exact Below.refl _ _ | exact (Below.refl _ _).drew | exact (Below.refl _ _).alloc (Nat.le_refl _) _ | (refine bc _ _ (by assumption) (by assumption)))
                clear hK K
                refine RegOk.put_ (m' := 2147483647) (by kernel_rfl) ?_
                try simp only [Act.put, List.setIfInBounds_toArray, List.set_cons_zero, List.set_cons_succ]
                refine hR.come (rs := [31]) (by kernel_rfl) (by simp) ?_
                refine AllReadyH.cons (o := ?o76_31) ?h76_31 (fun K hK => ?k76_31) AllReadyH.nil
                case h76_31 => simp only [List.getElem?_toArray, List.getElem?_cons_succ, List.getElem?_cons_zero]; rfl
                refine step_append_E (S := fun b => b = wr.heap.size) rfl (.tmp 56) (.tmp 86) rfl rdsT (base := w3.heap.size) (v := .slice A1 (liveT s j).length c1) (xs := liveT s j) (ys := [⟨who, whn, knd, val⟩]) (by rfl) (by rfl) rfl (nz := (liveT s j).length + 1) (by simp) (by repeat' (first | with_reducible refine Own.drew ?_ | with_reducible refine Own.alloc ?_ _ | exact HO.out.flat rdE_flat)) (Sl.litAt (S := fun b => b = wr.heap.size) rfl (.single (rdE_shut (r := ⟨who, whn, knd, val⟩))) (by unfold maxLen; simp) (fun _ h _ => h) rfl).drew (by unfold maxLen; simp; omega) (by simp; omega) (by simp; omega) (fun g hg (hs : g = wr.heap.size) => absurd (lo g hg).2 (by omega)) ?_
                intro A5 c5 w5 hown5 hg5 hor5
                have hfin := HC.out.appD rdE_flat hown5 hg5
                have hk5 := hfin.bel
                refine hK.out _ _ ?_ (fun hHeld => ?_)
                · (first | with_reducible assumption | (with_reducible refine Below.drew ?_; with_reducible assumption) | (with_reducible refine ba _ _ ?_; with_reducible assumption) | (with_reducible refine Below.drew ?_; with_reducible refine ba _ _ ?_; with_reducible assumption) | exact Below.refl _ _ | exact (Below.refl _ _).drew | exact (Below.refl _ _).alloc (Nat.le_refl _) _ | (refine bc _ _ (by assumption) (by assumption)))
                clear hK K
                refine RegOk.put_ (m' := 4294967295) (by kernel_rfl) ?_
                try simp only [Act.put, List.setIfInBounds_toArray, List.set_cons_zero, List.set_cons_succ]
                refine hR.take (i := 32) (oi := ?oz77_32) (v := ?vz77_32) (m' := 8589934591) ?hz77_32 (by kernel_rfl) (by kernel_rfl) (fun _ _ _ h => h) (Or.inl ⟨?sz77_32, ?yz77_32⟩) (by assumption) ?nz77_32
                case hz77_32 => simp only [List.getElem?_toArray, List.getElem?_cons_succ, List.getElem?_cons_zero]; rfl
                case sz77_32 => rfl
                case yz77_32 => (intro w hSw; (try dsimp only at hSw); go_simp <;> with_reducible rfl)
                try simp only [Act.put, List.setIfInBounds_toArray, List.set_cons_zero, List.set_cons_succ]
                refine hR.all (by kernel_rfl) ?_ _
                refine NoPanic.normal ?_
                go_wp2_with fail
                go_roundw
                case rel => exact ⟨j + 1, by omega, by go_num, by rw [hS.out]; exact hfin⟩
                case measure => simp [intOf]; omega
          · have hjl' : s.l.length ≤ j := by omega
            rw [col_get0 hjl' hlt] at hu0 hu1 hu2 hu3
            rw [live_get0 (by rw [hglen.out]; exact hjl') hlt] at hu4
            obtain rfl : u0 = 0 := by simpa using hu0.symm
            obtain rfl : u1 = 0 := by simpa using hu1.symm
            obtain rfl : u2 = 0 := by simpa using hu2.symm
            obtain rfl : u3 = 0 := by simpa using hu3.symm
            obtain rfl : u4 = 0 := by simpa using hu4.symm
            have hS := Lib.hid (liveT_stay hglen.out hjl')
            have hge : ((s.l.length : Int) ≤ (j : Int)) = True := by simp; omega
            clear hu0 hu1 hu2 hu3 hu4
            go_wp2_with fail
            as_aux_lemma =>
              refine wp_region_noPanic ?_
              refine wp_region_held_drew (S := fun X => Below w3.heap.size w3 X) (by kernel_rfl) ?_ (fun hHeld => ?_)
              · (first | with_reducible assumption | (with_reducible refine Below.drew ?_; with_reducible assumption) | (with_reducible refine ba _ _ ?_; with_reducible assumption) | (with_reducible refine Below.drew ?_; with_reducible refine ba _ _ ?_; with_reducible assumption) | exact Below.refl _ _ | exact (Below.refl _ _).drew | exact (Below.refl _ _).alloc (Nat.le_refl _) _ | (refine bc _ _ (by assumption) (by assumption)))
              refine RegOk.begin_ (n := 44) (T := cdB) ⟨by kernel_rfl, by kernel_rfl, by kernel_rfl, by kernel_rfl⟩ fun hR => ?_
              refine hR.take (i := 0) (oi := ?oz78_0) (v := ?vz78_0) (m' := 1) ?hz78_0 (by kernel_rfl) (by kernel_rfl) (fun _ _ _ h => h) (Or.inl ⟨?sz78_0, ?yz78_0⟩) (by assumption) ?nz78_0
              case hz78_0 => simp only [List.getElem?_toArray, List.getElem?_cons_succ, List.getElem?_cons_zero]; rfl
              case sz78_0 => rfl
              case yz78_0 => (intro w hSw; (try dsimp only at hSw); go_simp <;> with_reducible rfl)
              try simp only [Act.put, List.setIfInBounds_toArray, List.set_cons_zero, List.set_cons_succ]
              refine hR.take (i := 1) (oi := ?oz79_1) (v := ?vz79_1) (m' := 3) ?hz79_1 (by kernel_rfl) (by kernel_rfl) (fun _ _ _ h => h) (Or.inl ⟨?sz79_1, ?yz79_1⟩) (by assumption) ?nz79_1
              case hz79_1 => simp only [List.getElem?_toArray, List.getElem?_cons_succ, List.getElem?_cons_zero]; rfl
              case sz79_1 => rfl
              case yz79_1 => (intro w hSw; (try dsimp only at hSw); go_simp <;> with_reducible rfl)
              try simp only [Act.put, List.setIfInBounds_toArray, List.set_cons_zero, List.set_cons_succ]
              refine hR.take (i := 2) (oi := ?oz80_2) (v := ?vz80_2) (m' := 7) ?hz80_2 (by kernel_rfl) (by kernel_rfl) (fun _ _ _ h => h) (Or.inl ⟨?sz80_2, ?yz80_2⟩) (by assumption) ?nz80_2
              case hz80_2 => simp only [List.getElem?_toArray, List.getElem?_cons_succ, List.getElem?_cons_zero]; rfl
              case sz80_2 => rfl
              case yz80_2 => (intro w hSw; (try dsimp only at hSw); go_simp <;> with_reducible rfl)
              try simp only [Act.put, List.setIfInBounds_toArray, List.set_cons_zero, List.set_cons_succ]
              refine hR.take (i := 3) (oi := ?oz81_3) (v := ?vz81_3) (m' := 15) ?hz81_3 (by kernel_rfl) (by kernel_rfl) (fun _ _ _ h => h) (Or.inl ⟨?sz81_3, ?yz81_3⟩) (by assumption) ?nz81_3
              case hz81_3 => simp only [List.getElem?_toArray, List.getElem?_cons_succ, List.getElem?_cons_zero]; rfl
              case sz81_3 => rfl
              case yz81_3 => (intro w hSw; (try dsimp only at hSw); go_simp <;> with_reducible rfl)
              try simp only [Act.put, List.setIfInBounds_toArray, List.set_cons_zero, List.set_cons_succ]
              refine hR.take (i := 4) (oi := ?oz82_4) (v := ?vz82_4) (m' := 31) ?hz82_4 (by kernel_rfl) (by kernel_rfl) (fun _ _ _ h => h) (Or.inl ⟨?sz82_4, ?yz82_4⟩) (by assumption) ?nz82_4
              case hz82_4 => simp only [List.getElem?_toArray, List.getElem?_cons_succ, List.getElem?_cons_zero]; rfl
              case sz82_4 => rfl
              case yz82_4 => (intro w hSw; (try dsimp only at hSw); go_simp <;> with_reducible rfl)
              try simp only [Act.put, List.setIfInBounds_toArray, List.set_cons_zero, List.set_cons_succ]
              refine hR.take (i := 5) (oi := ?oz83_5) (v := ?vz83_5) (m' := 63) ?hz83_5 (by kernel_rfl) (by kernel_rfl) (fun _ _ _ h => h) (Or.inl ⟨?sz83_5, ?yz83_5⟩) (by assumption) ?nz83_5
              case hz83_5 => simp only [List.getElem?_toArray, List.getElem?_cons_succ, List.getElem?_cons_zero]; rfl
              case sz83_5 => rfl
              case yz83_5 => (intro w hSw; (try dsimp only at hSw); go_simp <;> with_reducible rfl)
              try simp only [Act.put, List.setIfInBounds_toArray, List.set_cons_zero, List.set_cons_succ]
              refine hR.take (i := 6) (oi := ?oz84_6) (v := ?vz84_6) (m' := 127) ?hz84_6 (by kernel_rfl) (by kernel_rfl) (fun _ _ _ h => h) (Or.inl ⟨?sz84_6, ?yz84_6⟩) (by assumption) ?nz84_6
              case hz84_6 => simp only [List.getElem?_toArray, List.getElem?_cons_succ, List.getElem?_cons_zero]; rfl
              case sz84_6 => rfl
              case yz84_6 => (intro w hSw; (try dsimp only at hSw); go_simp <;> with_reducible rfl)
              try simp only [Act.put, List.setIfInBounds_toArray, List.set_cons_zero, List.set_cons_succ]
              refine hR.take (i := 7) (oi := ?oz85_7) (v := ?vz85_7) (m' := 255) ?hz85_7 (by kernel_rfl) (by kernel_rfl) (fun _ _ _ h => h) (Or.inl ⟨?sz85_7, ?yz85_7⟩) (by assumption) ?nz85_7
              case hz85_7 => simp only [List.getElem?_toArray, List.getElem?_cons_succ, List.getElem?_cons_zero]; rfl
              case sz85_7 => rfl
              case yz85_7 => (intro w hSw; (try dsimp only at hSw); go_simp <;> with_reducible rfl)
              try simp only [Act.put, List.setIfInBounds_toArray, List.set_cons_zero, List.set_cons_succ]
              refine hR.take (i := 8) (oi := ?oz86_8) (v := ?vz86_8) (m' := 511) ?hz86_8 (by kernel_rfl) (by kernel_rfl) (fun _ _ _ h => h) (Or.inl ⟨?sz86_8, ?yz86_8⟩) (by assumption) ?nz86_8
              case hz86_8 => simp only [List.getElem?_toArray, List.getElem?_cons_succ, List.getElem?_cons_zero]; rfl
              case sz86_8 => rfl
              case yz86_8 => (intro w hSw; (try dsimp only at hSw); go_simp <;> with_reducible rfl)
              try simp only [Act.put, List.setIfInBounds_toArray, List.set_cons_zero, List.set_cons_succ]
              refine hR.take (i := 9) (oi := ?oz87_9) (v := ?vz87_9) (m' := 1023) ?hz87_9 (by kernel_rfl) (by kernel_rfl) (fun _ _ _ h => h) (Or.inl ⟨?sz87_9, ?yz87_9⟩) (by assumption) ?nz87_9
              case hz87_9 => simp only [List.getElem?_toArray, List.getElem?_cons_succ, List.getElem?_cons_zero]; rfl
              case sz87_9 => rfl
              case yz87_9 => (intro w hSw; (try dsimp only at hSw); go_simp <;> with_reducible rfl)
              try simp only [Act.put, List.setIfInBounds_toArray, List.set_cons_zero, List.set_cons_succ]
              refine hR.take (i := 10) (oi := ?oz88_10) (v := ?vz88_10) (m' := 2047) ?hz88_10 (by kernel_rfl) (by kernel_rfl) (fun _ _ _ h => h) (Or.inl ⟨?sz88_10, ?yz88_10⟩) (by assumption) ?nz88_10
              case hz88_10 => simp only [List.getElem?_toArray, List.getElem?_cons_succ, List.getElem?_cons_zero]; rfl
              case sz88_10 => rfl
              case yz88_10 => (intro w hSw; (try dsimp only at hSw); go_simp <;> with_reducible rfl)
              try simp only [Act.put, List.setIfInBounds_toArray, List.set_cons_zero, List.set_cons_succ]
              refine hR.take (i := 11) (oi := ?oz89_11) (v := ?vz89_11) (m' := 4095) ?hz89_11 (by kernel_rfl) (by kernel_rfl) (fun _ _ _ h => h) (Or.inl ⟨?sz89_11, ?yz89_11⟩) (by assumption) ?nz89_11
              case hz89_11 => simp only [List.getElem?_toArray, List.getElem?_cons_succ, List.getElem?_cons_zero]; rfl
              case sz89_11 => rfl
              case yz89_11 => (intro w hSw; (try dsimp only at hSw); go_simp <;> with_reducible rfl)
              try simp only [Act.put, List.setIfInBounds_toArray, List.set_cons_zero, List.set_cons_succ]
              refine hR.take (i := 12) (oi := ?oz90_12) (v := ?vz90_12) (m' := 8191) ?hz90_12 (by kernel_rfl) (by kernel_rfl) (fun _ _ _ h => h) (Or.inl ⟨?sz90_12, ?yz90_12⟩) (by assumption) ?nz90_12
              case hz90_12 => simp only [List.getElem?_toArray, List.getElem?_cons_succ, List.getElem?_cons_zero]; rfl
              case sz90_12 => rfl
              case yz90_12 => (intro w hSw; (try dsimp only at hSw); go_simp <;> with_reducible rfl)
              try simp only [Act.put, List.setIfInBounds_toArray, List.set_cons_zero, List.set_cons_succ]
              refine hR.take (i := 13) (oi := ?oz91_13) (v := ?vz91_13) (m' := 16383) ?hz91_13 (by kernel_rfl) (by kernel_rfl) (fun _ _ _ h => h) (Or.inl ⟨?sz91_13, ?yz91_13⟩) (by assumption) ?nz91_13
              case hz91_13 => simp only [List.getElem?_toArray, List.getElem?_cons_succ, List.getElem?_cons_zero]; rfl
              case sz91_13 => rfl
              case yz91_13 => (intro w hSw; (try dsimp only at hSw); go_simp <;> with_reducible rfl)
              try simp only [Act.put, List.setIfInBounds_toArray, List.set_cons_zero, List.set_cons_succ]
              refine hR.take (i := 14) (oi := ?oz92_14) (v := ?vz92_14) (m' := 32767) ?hz92_14 (by kernel_rfl) (by kernel_rfl) (fun _ _ _ h => h) (Or.inl ⟨?sz92_14, ?yz92_14⟩) (by assumption) ?nz92_14
              case hz92_14 => simp only [List.getElem?_toArray, List.getElem?_cons_succ, List.getElem?_cons_zero]; rfl
              case sz92_14 => rfl
              case yz92_14 => (intro w hSw; (try dsimp only at hSw); go_simp <;> with_reducible rfl)
              try simp only [Act.put, List.setIfInBounds_toArray, List.set_cons_zero, List.set_cons_succ]
              refine hR.take (i := 15) (oi := ?oz93_15) (v := ?vz93_15) (m' := 65535) ?hz93_15 (by kernel_rfl) (by kernel_rfl) (fun _ _ _ h => h) (Or.inl ⟨?sz93_15, ?yz93_15⟩) (by assumption) ?nz93_15
              case hz93_15 => simp only [List.getElem?_toArray, List.getElem?_cons_succ, List.getElem?_cons_zero]; rfl
              case sz93_15 => rfl
              case yz93_15 => (intro w hSw; (try dsimp only at hSw); go_simp <;> with_reducible rfl)
              try simp only [Act.put, List.setIfInBounds_toArray, List.set_cons_zero, List.set_cons_succ]
              refine hR.take (i := 16) (oi := ?oz94_16) (v := ?vz94_16) (m' := 131071) ?hz94_16 (by kernel_rfl) (by kernel_rfl) (fun _ _ _ h => h) (Or.inl ⟨?sz94_16, ?yz94_16⟩) (by assumption) ?nz94_16
              case hz94_16 => simp only [List.getElem?_toArray, List.getElem?_cons_succ, List.getElem?_cons_zero]; rfl
              case sz94_16 => rfl
              case yz94_16 => (intro w hSw; (try dsimp only at hSw); go_simp <;> with_reducible rfl)
              try simp only [Act.put, List.setIfInBounds_toArray, List.set_cons_zero, List.set_cons_succ]
              refine hR.take (i := 17) (oi := ?oz95_17) (v := ?vz95_17) (m' := 262143) ?hz95_17 (by kernel_rfl) (by kernel_rfl) (fun _ _ _ h => h) (Or.inl ⟨?sz95_17, ?yz95_17⟩) (by assumption) ?nz95_17
              case hz95_17 => simp only [List.getElem?_toArray, List.getElem?_cons_succ, List.getElem?_cons_zero]; rfl
              case sz95_17 => rfl
              case yz95_17 => (intro w hSw; (try dsimp only at hSw); go_simp <;> with_reducible rfl)
              try simp only [Act.put, List.setIfInBounds_toArray, List.set_cons_zero, List.set_cons_succ]
              refine hR.take (i := 18) (oi := ?oz96_18) (v := ?vz96_18) (m' := 524287) ?hz96_18 (by kernel_rfl) (by kernel_rfl) (fun _ _ _ h => h) (Or.inl ⟨?sz96_18, ?yz96_18⟩) (by assumption) ?nz96_18
              case hz96_18 => simp only [List.getElem?_toArray, List.getElem?_cons_succ, List.getElem?_cons_zero]; rfl
              case sz96_18 => rfl
              case yz96_18 => (intro w hSw; (try dsimp only at hSw); go_simp <;> with_reducible rfl)
              try simp only [Act.put, List.setIfInBounds_toArray, List.set_cons_zero, List.set_cons_succ]
              refine hR.take (i := 19) (oi := ?oz97_19) (v := ?vz97_19) (m' := 1048575) ?hz97_19 (by kernel_rfl) (by kernel_rfl) (fun _ _ _ h => h) (Or.inl ⟨?sz97_19, ?yz97_19⟩) (by assumption) ?nz97_19
              case hz97_19 => simp only [List.getElem?_toArray, List.getElem?_cons_succ, List.getElem?_cons_zero]; rfl
              case sz97_19 => rfl
              case yz97_19 => (intro w hSw; (try dsimp only at hSw); go_simp <;> with_reducible rfl)
              try simp only [Act.put, List.setIfInBounds_toArray, List.set_cons_zero, List.set_cons_succ]
              refine hR.take (i := 20) (oi := ?oz98_20) (v := ?vz98_20) (m' := 2097151) ?hz98_20 (by kernel_rfl) (by kernel_rfl) (fun _ _ _ h => h) (Or.inl ⟨?sz98_20, ?yz98_20⟩) (by assumption) ?nz98_20
              case hz98_20 => simp only [List.getElem?_toArray, List.getElem?_cons_succ, List.getElem?_cons_zero]; rfl
              case sz98_20 => rfl
              case yz98_20 => (intro w hSw; (try dsimp only at hSw); go_simp <;> with_reducible rfl)
              try simp only [Act.put, List.setIfInBounds_toArray, List.set_cons_zero, List.set_cons_succ]
              refine hR.take (i := 21) (oi := ?oz99_21) (v := ?vz99_21) (m' := 4194303) ?hz99_21 (by kernel_rfl) (by kernel_rfl) (fun _ _ _ h => h) (Or.inl ⟨?sz99_21, ?yz99_21⟩) (by assumption) ?nz99_21
              case hz99_21 => simp only [List.getElem?_toArray, List.getElem?_cons_succ, List.getElem?_cons_zero]; rfl
              case sz99_21 => rfl
              case yz99_21 => (intro w hSw; (try dsimp only at hSw); go_simp <;> with_reducible rfl)
              try simp only [Act.put, List.setIfInBounds_toArray, List.set_cons_zero, List.set_cons_succ]
              refine hR.take (i := 22) (oi := ?oz100_22) (v := ?vz100_22) (m' := 8388607) ?hz100_22 (by kernel_rfl) (by kernel_rfl) (fun _ _ _ h => h) (Or.inl ⟨?sz100_22, ?yz100_22⟩) (by assumption) ?nz100_22
              case hz100_22 => simp only [List.getElem?_toArray, List.getElem?_cons_succ, List.getElem?_cons_zero]; rfl
              case sz100_22 => rfl
              case yz100_22 => (intro w hSw; (try dsimp only at hSw); go_simp <;> with_reducible rfl)
              try simp only [Act.put, List.setIfInBounds_toArray, List.set_cons_zero, List.set_cons_succ]
              refine hR.take (i := 23) (oi := ?oz101_23) (v := ?vz101_23) (m' := 16777215) ?hz101_23 (by kernel_rfl) (by kernel_rfl) (fun _ _ _ h => h) (Or.inl ⟨?sz101_23, ?yz101_23⟩) (by assumption) ?nz101_23
              case hz101_23 => simp only [List.getElem?_toArray, List.getElem?_cons_succ, List.getElem?_cons_zero]; rfl
              case sz101_23 => rfl
              case yz101_23 => (intro w hSw; (try dsimp only at hSw); go_simp <;> with_reducible rfl)
              try simp only [Act.put, List.setIfInBounds_toArray, List.set_cons_zero, List.set_cons_succ]
              refine hR.take (i := 24) (oi := ?oz102_24) (v := ?vz102_24) (m' := 33554431) ?hz102_24 (by kernel_rfl) (by kernel_rfl) (fun _ _ _ h => h) (Or.inl ⟨?sz102_24, ?yz102_24⟩) (by assumption) ?nz102_24
              case hz102_24 => simp only [List.getElem?_toArray, List.getElem?_cons_succ, List.getElem?_cons_zero]; rfl
              case sz102_24 => rfl
              case yz102_24 => (intro w hSw; (try dsimp only at hSw); go_simp <;> with_reducible rfl)
              try simp only [Act.put, List.setIfInBounds_toArray, List.set_cons_zero, List.set_cons_succ]
              refine hR.take (i := 25) (oi := ?oz103_25) (v := ?vz103_25) (m' := 67108863) ?hz103_25 (by kernel_rfl) (by kernel_rfl) (fun _ _ _ h => h) (Or.inl ⟨?sz103_25, ?yz103_25⟩) (by assumption) ?nz103_25
              case hz103_25 => simp only [List.getElem?_toArray, List.getElem?_cons_succ, List.getElem?_cons_zero]; rfl
              case sz103_25 => rfl
              case yz103_25 => (intro w hSw; (try dsimp only at hSw); go_simp <;> with_reducible rfl)
              try simp only [Act.put, List.setIfInBounds_toArray, List.set_cons_zero, List.set_cons_succ]
              refine hR.take (i := 26) (oi := ?oz104_26) (v := ?vz104_26) (m' := 134217727) ?hz104_26 (by kernel_rfl) (by kernel_rfl) (fun _ _ _ h => h) (Or.inl ⟨?sz104_26, ?yz104_26⟩) (by assumption) ?nz104_26
              case hz104_26 => simp only [List.getElem?_toArray, List.getElem?_cons_succ, List.getElem?_cons_zero]; rfl
              case sz104_26 => rfl
              case yz104_26 => (intro w hSw; (try dsimp only at hSw); go_simp <;> with_reducible rfl)
              try simp only [Act.put, List.setIfInBounds_toArray, List.set_cons_zero, List.set_cons_succ]
              refine hR.take (i := 27) (oi := ?oz105_27) (v := ?vz105_27) (m' := 268435455) ?hz105_27 (by kernel_rfl) (by kernel_rfl) (fun _ _ _ h => h) (Or.inl ⟨?sz105_27, ?yz105_27⟩) (by assumption) ?nz105_27
              case hz105_27 => simp only [List.getElem?_toArray, List.getElem?_cons_succ, List.getElem?_cons_zero]; rfl
              case sz105_27 => rfl
              case yz105_27 => (intro w hSw; (try dsimp only at hSw); go_simp <;> with_reducible rfl)
              try simp only [Act.put, List.setIfInBounds_toArray, List.set_cons_zero, List.set_cons_succ]
              refine hR.take (i := 28) (oi := ?oz106_28) (v := ?vz106_28) (m' := 536870911) ?hz106_28 (by kernel_rfl) (by kernel_rfl) (fun _ _ _ h => h) (Or.inl ⟨?sz106_28, ?yz106_28⟩) (by assumption) ?nz106_28
              case hz106_28 => simp only [List.getElem?_toArray, List.getElem?_cons_succ, List.getElem?_cons_zero]; rfl
              case sz106_28 => rfl
              case yz106_28 => (intro w hSw; (try dsimp only at hSw); go_simp <;> with_reducible rfl)
              try simp only [Act.put, List.setIfInBounds_toArray, List.set_cons_zero, List.set_cons_succ]
              refine hR.take (i := 29) (oi := ?oz107_29) (v := ?vz107_29) (m' := 1073741823) ?hz107_29 (by kernel_rfl) (by kernel_rfl) (fun _ _ _ h => h) (Or.inl ⟨?sz107_29, ?yz107_29⟩) (by assumption) ?nz107_29
              case hz107_29 => simp only [List.getElem?_toArray, List.getElem?_cons_succ, List.getElem?_cons_zero]; rfl
              case sz107_29 => rfl
              case yz107_29 => (intro w hSw; (try dsimp only at hSw); go_simp <;> with_reducible rfl)
              try simp only [Act.put, List.setIfInBounds_toArray, List.set_cons_zero, List.set_cons_succ]
              refine hR.take (i := 30) (oi := ?oz108_30) (v := ?vz108_30) (m' := 2147483647) ?hz108_30 (by kernel_rfl) (by kernel_rfl) (fun _ _ _ h => h) (Or.inl ⟨?sz108_30, ?yz108_30⟩) (by assumption) ?nz108_30
              case hz108_30 => simp only [List.getElem?_toArray, List.getElem?_cons_succ, List.getElem?_cons_zero]; rfl
              case sz108_30 => rfl
              case yz108_30 => (intro w hSw; (try dsimp only at hSw); go_simp <;> with_reducible rfl)
              try simp only [Act.put, List.setIfInBounds_toArray, List.set_cons_zero, List.set_cons_succ]
              refine hR.take (i := 31) (oi := ?oz109_31) (v := ?vz109_31) (m' := 4294967295) ?hz109_31 (by kernel_rfl) (by kernel_rfl) (fun _ _ _ h => h) (Or.inl ⟨?sz109_31, ?yz109_31⟩) (by assumption) ?nz109_31
              case hz109_31 => simp only [List.getElem?_toArray, List.getElem?_cons_succ, List.getElem?_cons_zero]; rfl
              case sz109_31 => rfl
              case yz109_31 => (intro w hSw; (try dsimp only at hSw); go_simp <;> with_reducible rfl)
              try simp only [Act.put, List.setIfInBounds_toArray, List.set_cons_zero, List.set_cons_succ]
              refine hR.take (i := 32) (oi := ?oz110_32) (v := ?vz110_32) (m' := 8589934591) ?hz110_32 (by kernel_rfl) (by kernel_rfl) (fun _ _ _ h => h) (Or.inl ⟨?sz110_32, ?yz110_32⟩) (by assumption) ?nz110_32
              case hz110_32 => simp only [List.getElem?_toArray, List.getElem?_cons_succ, List.getElem?_cons_zero]; rfl
              case sz110_32 => rfl
              case yz110_32 => (intro w hSw; (try dsimp only at hSw); go_simp <;> with_reducible rfl)
              try simp only [Act.put, List.setIfInBounds_toArray, List.set_cons_zero, List.set_cons_succ]
              refine hR.take (i := 33) (oi := ?oz111_33) (v := ?vz111_33) (m' := 17179869183) ?hz111_33 (by kernel_rfl) (by kernel_rfl) (fun _ _ _ h => h) (Or.inl ⟨?sz111_33, ?yz111_33⟩) (by assumption) ?nz111_33
              case hz111_33 => simp only [List.getElem?_toArray, List.getElem?_cons_succ, List.getElem?_cons_zero]; rfl
              case sz111_33 => rfl
              case yz111_33 => (intro w hSw; (try dsimp only at hSw); go_simp <;> with_reducible rfl)
              try simp only [Act.put, List.setIfInBounds_toArray, List.set_cons_zero, List.set_cons_succ]
              refine hR.take (i := 34) (oi := ?oz112_34) (v := ?vz112_34) (m' := 34359738367) ?hz112_34 (by kernel_rfl) (by kernel_rfl) (fun _ _ _ h => h) (Or.inl ⟨?sz112_34, ?yz112_34⟩) (by assumption) ?nz112_34
              case hz112_34 => simp only [List.getElem?_toArray, List.getElem?_cons_succ, List.getElem?_cons_zero]; rfl
              case sz112_34 => rfl
              case yz112_34 => (intro w hSw; (try dsimp only at hSw); go_simp <;> with_reducible rfl)
              try simp only [Act.put, List.setIfInBounds_toArray, List.set_cons_zero, List.set_cons_succ]
              refine hR.take (i := 35) (oi := ?oz113_35) (v := ?vz113_35) (m' := 68719476735) ?hz113_35 (by kernel_rfl) (by kernel_rfl) (fun _ _ _ h => h) (Or.inl ⟨?sz113_35, ?yz113_35⟩) (by assumption) ?nz113_35
              case hz113_35 => simp only [List.getElem?_toArray, List.getElem?_cons_succ, List.getElem?_cons_zero]; rfl
              case sz113_35 => rfl
              case yz113_35 => (intro w hSw; (try dsimp only at hSw); go_simp <;> with_reducible rfl)
              try simp only [Act.put, List.setIfInBounds_toArray, List.set_cons_zero, List.set_cons_succ]
              refine hR.take (i := 36) (oi := ?oz114_36) (v := ?vz114_36) (m' := 137438953471) ?hz114_36 (by kernel_rfl) (by kernel_rfl) (fun _ _ _ h => h) (Or.inl ⟨?sz114_36, ?yz114_36⟩) (by assumption) ?nz114_36
              case hz114_36 => simp only [List.getElem?_toArray, List.getElem?_cons_succ, List.getElem?_cons_zero]; rfl
              case sz114_36 => rfl
              case yz114_36 => (intro w hSw; (try dsimp only at hSw); go_simp <;> with_reducible rfl)
              try simp only [Act.put, List.setIfInBounds_toArray, List.set_cons_zero, List.set_cons_succ]
              refine hR.take (i := 37) (oi := ?oz115_37) (v := ?vz115_37) (m' := 274877906943) ?hz115_37 (by kernel_rfl) (by kernel_rfl) (fun _ _ _ h => h) (Or.inl ⟨?sz115_37, ?yz115_37⟩) (by assumption) ?nz115_37
              case hz115_37 => simp only [List.getElem?_toArray, List.getElem?_cons_succ, List.getElem?_cons_zero]; rfl
              case sz115_37 => rfl
              case yz115_37 => (intro w hSw; (try dsimp only at hSw); go_simp <;> with_reducible rfl)
              try simp only [Act.put, List.setIfInBounds_toArray, List.set_cons_zero, List.set_cons_succ]
              refine hR.take (i := 38) (oi := ?oz116_38) (v := ?vz116_38) (m' := 549755813887) ?hz116_38 (by kernel_rfl) (by kernel_rfl) (fun _ _ _ h => h) (Or.inl ⟨?sz116_38, ?yz116_38⟩) (by assumption) ?nz116_38
              case hz116_38 => simp only [List.getElem?_toArray, List.getElem?_cons_succ, List.getElem?_cons_zero]; rfl
              case sz116_38 => rfl
              case yz116_38 => (intro w hSw; (try dsimp only at hSw); go_simp <;> with_reducible rfl)
              try simp only [Act.put, List.setIfInBounds_toArray, List.set_cons_zero, List.set_cons_succ]
              refine hR.take (i := 39) (oi := ?oz117_39) (v := ?vz117_39) (m' := 1099511627775) ?hz117_39 (by kernel_rfl) (by kernel_rfl) (fun _ _ _ h => h) (Or.inl ⟨?sz117_39, ?yz117_39⟩) (by assumption) ?nz117_39
              case hz117_39 => simp only [List.getElem?_toArray, List.getElem?_cons_succ, List.getElem?_cons_zero]; rfl
              case sz117_39 => rfl
              case yz117_39 => (intro w hSw; (try dsimp only at hSw); go_simp <;> with_reducible rfl)
              try simp only [Act.put, List.setIfInBounds_toArray, List.set_cons_zero, List.set_cons_succ]
              refine hR.take (i := 40) (oi := ?oz118_40) (v := ?vz118_40) (m' := 2199023255551) ?hz118_40 (by kernel_rfl) (by kernel_rfl) (fun _ _ _ h => h) (Or.inl ⟨?sz118_40, ?yz118_40⟩) (by assumption) ?nz118_40
              case hz118_40 => simp only [List.getElem?_toArray, List.getElem?_cons_succ, List.getElem?_cons_zero]; rfl
              case sz118_40 => rfl
              case yz118_40 => (intro w hSw; (try dsimp only at hSw); go_simp <;> with_reducible rfl)
              try simp only [Act.put, List.setIfInBounds_toArray, List.set_cons_zero, List.set_cons_succ]
              refine hR.take (i := 41) (oi := ?oz119_41) (v := ?vz119_41) (m' := 4398046511103) ?hz119_41 (by kernel_rfl) (by kernel_rfl) (fun _ _ _ h => h) (Or.inl ⟨?sz119_41, ?yz119_41⟩) (by assumption) ?nz119_41
              case hz119_41 => simp only [List.getElem?_toArray, List.getElem?_cons_succ, List.getElem?_cons_zero]; rfl
              case sz119_41 => rfl
              case yz119_41 => (intro w hSw; (try dsimp only at hSw); go_simp <;> with_reducible rfl)
              try simp only [Act.put, List.setIfInBounds_toArray, List.set_cons_zero, List.set_cons_succ]
              refine hR.take (i := 42) (oi := ?oz120_42) (v := ?vz120_42) (m' := 8796093022207) ?hz120_42 (by kernel_rfl) (by kernel_rfl) (fun _ _ _ h => h) (Or.inl ⟨?sz120_42, ?yz120_42⟩) (by assumption) ?nz120_42
              case hz120_42 => simp only [List.getElem?_toArray, List.getElem?_cons_succ, List.getElem?_cons_zero]; rfl
              case sz120_42 => rfl
              case yz120_42 => (intro w hSw; (try dsimp only at hSw); go_simp <;> with_reducible rfl)
              try simp only [Act.put, List.setIfInBounds_toArray, List.set_cons_zero, List.set_cons_succ]
              refine hR.take (i := 43) (oi := ?oz121_43) (v := ?vz121_43) (m' := 17592186044415) ?hz121_43 (by kernel_rfl) (by kernel_rfl) (fun _ _ _ h => h) (Or.inl ⟨?sz121_43, ?yz121_43⟩) (by assumption) ?nz121_43
              case hz121_43 => simp only [List.getElem?_toArray, List.getElem?_cons_succ, List.getElem?_cons_zero]; rfl
              case sz121_43 => rfl
              case yz121_43 => (intro w hSw; (try dsimp only at hSw); go_simp <;> with_reducible rfl)
              try simp only [Act.put, List.setIfInBounds_toArray, List.set_cons_zero, List.set_cons_succ]
              refine hR.all (by kernel_rfl) ?_ _
              refine NoPanic.normal ?_
              go_wp2_with fail
              go_roundw
              case rel => exact ⟨j + 1, by omega, by go_num, by rw [hS.out]; exact HC.out.drew_⟩
              case measure => simp [intOf]; omega
        · have hj16 : ¬ (j : Int) < 16 := by omega
          obtain rfl : j = 16 := by omega
          have hfin : liveT s 16 = liveF s := liveT_over hglen.out hlen.out
          have C0 := HC.out
          rw [hfin] at C0 lo hll
          have HC0 := Lib.hid C0
          have bb : Below w3.heap.size w3 wr := C0.bel
          have b1 := Lib.hid (b0.out.trans (bb.mono b0.out.size))
          have gs1 := mv gs bb
          have s21 := mvS s2 bb
          have k21 := mvS k2 bb
          have s31 := mvS s3 bb
          have HF : Hid (Sl rdE (fun _ => True) wr A1 c1 (liveF s)) := Lib.hid (C0.own.flatSl rdE_flat (fun _ _ => trivial))
          rw [hfin]
          clear C0 HC bb hfin b0 gs s2 k2 s3 lo hj hj0
          obtain ⟨y0, y1, -, -, ls⟩ := two gs1
          go_wp2_with fail
          refine (liveR (s := s) _ s21.out k21.out hglen.out (by have := hlen.out; omega)).mono ?_
          rintro e w4 ⟨A4, c4, rfl, hs, bb⟩
          replace b1 := Lib.hid (b1.out.trans (bb.mono b1.out.size))
          replace gs1 := mv gs1 bb; replace s21 := mvS s21 bb; replace k21 := mvS k21 bb; replace s31 := mvS s31 bb; replace HF := mvS HF bb
          have s4 := hs.any
          clear bb hs y0 y1 ls
          have hL := liveF_len s
          have hL16 : (liveF s).length ≤ 16 := Nat.le_trans hL hlen.out
          obtain ⟨Lv, hLv⟩ : ∃ Lv, liveF s = Lv := ⟨_, rfl⟩
          rw [hLv] at HF s4 hL hL16 ⊢
          replace hLv := Lib.hid hLv
          have hmx := s4.out.capMax
          go_wp2_with fail
          go_loopw [13] (fun i wx => ∃ j : Nat, j ≤ Lv.length ∧ i = .int .i64 j ∧ Below w4.heap.size w4 wx) (fun i _ => Lv.length - (intOf i).toNat)
          case atStart => exact ⟨0, Nat.zero_le _, rfl, Below.refl _ _⟩
          case round =>
            obtain ⟨j, hj, rfl, bb⟩ := hrel
            have hj0 : (0 : Int) ≤ (j : Int) := by omega
            replace b1 := Lib.hid (b1.out.trans (bb.mono b1.out.size))
            replace gs1 := mv gs1 bb; replace s21 := mvS s21 bb; replace k21 := mvS k21 bb; replace s31 := mvS s31 bb; replace HF := mvS HF bb; replace s4 := mvS s4 bb
            have bw := bb
            clear bb
            by_cases hjl : j < Lv.length
            · have hj1 : (j : Int) < (Lv.length : Int) := by omega
              obtain ⟨r, hr⟩ : ∃ r, Lv[j]? = some r := ⟨_, List.getElem?_eq_getElem hjl⟩
              obtain ⟨b5, o5, rfl, -, l5, p0, p1, p2, p3⟩ := rd_at HF.out hr
              obtain ⟨b6, o6, rfl, -, l6, q0, q1, q2, q3⟩ := rd_at s4.out hr
              have hm1 := HF.out.capMax
              clear hr
              have ba : ∀ W o, Below wr.heap.size wr W → Below wr.heap.size wr (W.alloc o) := fun W o h => h.alloc h.size o
              have bc : ∀ W W', Below wr.heap.size wr W → Below W.heap.size W W' → Below wr.heap.size wr W' := fun W W' h k => h.trans (k.mono h.size)
              have zp0 := hold p0
              have zp1 := hold p1
              have zp2 := hold p2
              have zp3 := hold p3
              have zq0 := hold q0
              have zq1 := hold q1
              have zq2 := hold q2
              have zq3 := hold q3
              go_wp2_with fail
              go_region_held3 (fun X => Below wr.heap.size wr X) (first | with_reducible assumption | (with_reducible refine Below.drew ?_; with_reducible assumption) | (with_reducible refine ba _ _ ?_; with_reducible assumption) | (with_reducible refine Below.drew ?_; with_reducible refine ba _ _ ?_; with_reducible assumption) | exact Below.refl _ _ | exact (Below.refl _ _).drew | exact (Below.refl _ _).alloc (Nat.le_refl _) _ | (refine bc _ _ (by assumption) (by assumption))) (fail)
              all_goals go_wp2_with fail
              go_roundw
              case rel => exact ⟨j + 1, by omega, by go_num, bw.drew⟩
              case measure => simp [intOf]; omega
            · obtain rfl : j = Lv.length := by omega
              have hj1 : ¬ (Lv.length : Int) < (Lv.length : Int) := by omega
              by_cases hL0 : Lv.length = 0
              · have hq : ((Lv.length : Int) == 0) = true := by simp [hL0]
                go_wp2_with fail
                go_ret
                exact ⟨rfl, b1.out⟩
              · have hq : ((Lv.length : Int) == 0) = false := by rw [beq_eq_false_iff_ne]; omega
                have hn : 0 < s.l.length := Nat.lt_of_lt_of_le (Nat.pos_of_ne_zero hL0) hL
                obtain ⟨k, hk⟩ : ∃ k, at_.toNat % s.l.length = k := ⟨_, rfl⟩
                have hklt : k < s.l.length := by rw [← hk]; exact Nat.mod_lt _ (by omega)
                have hkk : (at_.toNat : Int).tmod (s.l.length : Int) = (k : Int) := by rw [← hk]; rfl
                have hwa : wrap64 (at_.toNat : Int) = (at_.toNat : Int) := by have h := at_.toNat_lt; exact IntWalk.wrap64_in _ (by omega)
                have hnil : (s.l = []) = False := eq_false (fun e => by rw [e] at hn; simp at hn)
                have hn0 : (s.l.length : Int) ≠ 0 := by omega
                have hk0 : (0 : Int) ≤ (k : Int) := by omega
                have hret := retractF_natC hklt
                replace hk := Lib.hid hk
                obtain ⟨y0, y1, -, -, ls⟩ := two gs1
                cases hgk : s.g.getD k false with
                | true =>
                  rw [hgk, if_pos rfl] at hret
                  replace hret := Lib.hid hret
                  clear hgk
                  go_wp2_with fail
                  refine (retractR_eqC (s := s) _ s21.out k21.out ok (by have := hlen.out; omega) hret.out).mono ?_
                  rintro e w8 ⟨A8, c8, B8, d8, rfl, -, -, bb⟩
                  replace b1 := Lib.hid (b1.out.trans (bb.mono b1.out.size))
                  clear bb
                  go_wp2_with fail
                  go_ret
                  exact ⟨rfl, b1.out.alloc b1.out.size _⟩
                | false =>
                  rw [hgk, if_neg (by simp)] at hret
                  have hgl : k < s.g.length := by rw [hglen.out]; exact hklt
                  have hgi : s.g[k]? = some false := by rw [← hgk]; simp [hgl]
                  have hback := Lib.hid (cols_back hgi)
                  obtain ⟨t, ht⟩ : ∃ t : Str, ⟨s.l, s.g.set k true⟩ = t := ⟨_, rfl⟩
                  rw [ht] at hret hback
                  have hgt : t.g[k]? = some true := by rw [← ht]; simp [hgl]
                  have hul : t.l.length = s.l.length := by rw [← ht]
                  have okt : OkStr t := by
                    have := ok.retract (k : Int)
                    rw [hret] at this
                    exact this
                  have hckt : checkF t.l.length 4 = 0 := by rw [hul]; exact hck.out
                  have hlt4 := live_get hgt
                  have hl4 : (liveColF t 4).length = 16 := live_len16 (by rw [okt.len, hul]; exact hlen.out)
                  replace hckt := Lib.hid hckt
                  replace hret := Lib.hid hret
                  replace hul := Lib.hid hul
                  replace hl4 := Lib.hid hl4
                  replace hlt4 := Lib.hid (show (liveColF t 4)[k]? = some 0 from hlt4)
                  clear hgk ht hgi hgt
                  go_wp2_with fail
                  refine (retractR_eqC (s := s) _ s21.out k21.out ok (by have := hlen.out; omega) hret.out).mono ?_
                  rintro e w8 ⟨A8, c8, B8, d8, rfl, hs, hg, bb⟩
                  replace b1 := Lib.hid (b1.out.trans (bb.mono b1.out.size))
                  replace s31 := mvS s31 bb
                  have s8 := hs.any
                  have k8 := hg.any
                  clear bb hs hg y0 y1 ls
                  go_wp2_with fail
                  have b0' := b1
                  refine (columnsP_own (s := t) (log := 4) _ hckt.out (s8.out.keep ((Agree.refl _ _).alloc _)) (k8.out.keep ((Agree.refl _ _).alloc _)) okt).mono ?_
                  rintro e w9 ⟨A9, c9, F9, rfl, ho, hnF, hFg, hFl, hb⟩
                  have bb : Below w8.heap.size w8 w9 := ((Below.refl _ _).alloc (Nat.le_refl _) _).trans (hb.mono (by simp))
                  replace b1 := Lib.hid (b1.out.trans (bb.mono b1.out.size))
                  have hwn8 : w.heap.size ≤ w8.heap.size := by have h1 := b0'.out.size; omega
                  have s31o := s31.out.old
                  have hs31 : ∀ g, w8.heap.size ≤ g → Sl Enc.u64.slice (fun b => b < w9.heap.size ∧ b ≠ g) w9 (some ⟨b3, o3, none⟩) c3 (columnsF s 4) := fun g hg => (s31o.keep (Below.agree bb)).sub fun b h1 h2 => ⟨h2, by have := h1.2; omega⟩
                  clear s31o
                  obtain ⟨g9, rfl, hg9, hg9l, -⟩ := ho.block (show 0 < 5 by omega)
                  obtain ⟨vs, hr, hvl, hvs⟩ := ho.toRaw
                  obtain ⟨A10, c10, hv4, hs4⟩ := hvs 4 _ (show (columnsF t 4)[4]? = some (liveColF t 4) from rfl)
                  have cg := hr.rawCell hv4
                  rw [hl4.out] at cg
                  obtain ⟨b10, o10, rfl, hF10, l10, cz⟩ := u64_at hs4 hlt4.out
                  have hsl : Sl Enc.u64.slice (fun _ => True) w9 (some ⟨g9, 0, none⟩) c9 (columnsF t 4) := ho.toSl (fun _ _ _ => trivial) (fun _ _ _ _ => trivial)
                  have hm9 := hsl.capMax
                  have hle9 : 5 ≤ c9 := hsl.le
                  have hk16 : (k : Int) < 16 := by have := hlen.out; omega
                  have hk16' : k < 16 := by omega
                  have hvl' : vs.length = 5 := hvl
                  have HR : Hid (Own Enc.raw (fun _ => False) w9 (w8.heap.size + 1) 48 (.slice (some ⟨g9, 0, none⟩) 5 c9) vs) := Lib.hid ((show Own Enc.raw _ w9 _ _ (.slice (some ⟨g9, 0, none⟩) 5 c9) vs from hr).lower (by simp))
                  have hFb := Lib.hid hFl
                  have hnF9 : ¬ F9 g9 := hnF g9 rfl
                  have HS4 : Hid (Sl .u64 (fun b => b < w9.heap.size) w9 (some ⟨b10, o10, none⟩) c10 (liveColF t 4)) := Lib.hid (hs4.sub fun _ _ h => h)
                  have HVS := Lib.hid hvs
                  have HVL := Lib.hid hvl'
                  have S31 : Hid (Sl Enc.u64.slice (fun b => b < w9.heap.size ∧ b ≠ g9) w9 (some ⟨b3, o3, none⟩) c3 (columnsF s 4)) := Lib.hid (hs31 _ (by simp at hg9; omega))
                  clear hsl hr hvl hvs hv4 hs4 hF10 hFl hnF hFg ho bb hb hvl'
                  have hg9' : w8.heap.size + 1 ≤ g9 := by simpa using hg9
                  clear hg9
                  go_wp2_with (first
                    | (at_builtin; go_must ((refine wpList_append_E (S := fun b => b < w9.heap.size) rfl (.tmp 202) (.tmp 205) rfl u64sT (base := w9.heap.size) (v := .slice (some ⟨w9.heap.size, 0, none⟩) 0 0) (xs := []) (ys := liveColF t 4) (by rfl) (by rfl) hl4.out (nz := 16) (by simp [hl4.out]) (Own.lit0 _ _ _ _ (Nat.le_refl _)) (HS4.out.keep ((Agree.refl _ _).alloc _)) (by unfold maxLen; simp [hl4.out]) (by simp [hl4.out]) (by simp) (by rintro g ⟨⟩ h; exact Nat.lt_irrefl _ h) ?_; intro A11 c11 w11 ho11 hg11 hor11; have hz11 := hg11.size; simp at hz11; obtain ⟨g11, rfl, hgb, hgl11, -⟩ := Own.block (E := Enc.u64) ho11 (by omega); have hne11 : g11 ≠ g9 := (by omega); have hr11 := Own.grownNew HR.out hg11 (Nat.le_refl _) (fun h => h))))
                    | (refine wpList_store_E (S := fun _ => False) rfl (.tmp 207) (.tmp 206) rfl (colsT.raw rfl) (k := 4) (y := .slice (some ⟨g11, 0, none⟩) 16 c11) (cs := [.slice (some ⟨g11, 0, none⟩) 16 c11]) hr11 (by omega) rfl (by rfl) (by rfl) rfl ⟨rfl, rfl⟩ (fun h => h) ?_; go_must ((intro w12 hr12 hg12; have cg12 := Own.rawCell hr12 (k := 4) (u := .slice (some ⟨g11, 0, none⟩) 16 c11) (by rw [List.getElem?_set_self (by rw [HVL.out]; omega)]); have ho12 := Own.grown (Own.flat u64_flat (T := fun _ => False) ho11) hg12 (.inr (fun e => hne11 (by injection e))) (fun _ _ h => h))))
                    | (refine wpList_store_E (S := fun _ => False) rfl (.tmp 212) (.const (.int .u64 1)) rfl u64sT (k := k) (y := 1) (cs := [.int .u64 1]) ho12 hk16' (Nat.mul_one _) (by rfl) (by rfl) rfl rfl (fun h => h) ?_; go_must ((intro w13 ho13 hg13))))
                  obtain ⟨w14, hw14⟩ : ∃ X, X = w13 := ⟨_, rfl⟩
                  have hr13 := Own.grown hr12 hg13 (.inr (fun e => hne11 (by injection e with e; exact e.symm))) (fun _ _ h => h)
                  have ag12 : Agree (fun b => b < w9.heap.size ∧ b ≠ g9) w9 w13 := ((((Agree.refl _ _).alloc _).grown hg11 (by rintro _ ⟨⟩ ⟨h, _⟩; exact Nat.lt_irrefl _ h)).grown hg12 (by rintro _ ⟨⟩ ⟨_, h⟩; exact h rfl)).grown hg13 (by rintro _ ⟨⟩ ⟨h, _⟩; omega)
                  have S33 := S31.out.keep ag12
                  have hD : Own Enc.u64.slice (fun b => (b < w9.heap.size ∧ b ≠ g9) ∨ b = g11) w13 (w8.heap.size + 1) 48 (.slice (some ⟨g9, 0, none⟩) 5 c9) ((columnsF t 4).set 4 ((liveColF t 4).set k 1)) := by
                    refine hr13.ofRaw (by rw [List.length_set, List.length_set]; exact HVL.out) fun i x hx => ?_
                    by_cases e4 : 4 = i
                    · subst e4
                      rw [List.getElem?_set_self (by show 4 < 5; omega)] at hx
                      injection hx with hx
                      subst hx
                      refine ⟨some ⟨g11, 0, none⟩, c11, by rw [List.getElem?_set_self (by rw [HVL.out]; omega), List.length_set, hl4.out], ?_⟩
                      exact ho13.toSl (fun _ h _ => h.elim) (fun b hb _ hv => .inr (by injection hv with hv; exact hv.symm))
                    · rw [List.getElem?_set_ne e4] at hx ⊢
                      obtain ⟨A0, c0, h1, h2⟩ := HVS.out i x hx
                      exact ⟨A0, c0, h1, ((h2.sub fun b h1 h2 => ⟨h2, fun e => hnF9 (e ▸ h1)⟩).keep ag12).sub fun b h _ => .inl h⟩
                  rw [hback.out] at hD
                  have HSd : Sl Enc.u64.slice (fun _ => True) w13 (some ⟨g9, 0, none⟩) c9 (columnsF s 4) := hD.toSl (fun _ _ _ => trivial) (fun _ _ _ _ => trivial)
                  have hz12 := hg12.size
                  have hwn9 := b1.out.size
                  have b13 : Below w.heap.size w w13 := (((b1.out.alloc b1.out.size _).grown hg11 (by simp; omega) (by rintro k ⟨⟩; exact b1.out.size)).grown hg12 (by omega) (by rintro k ⟨⟩; omega)).grown hg13 (by omega) (by rintro k ⟨⟩; omega)
                  have B13 := Lib.hid b13
                  have HSD := Lib.hid HSd
                  have S33' := Lib.hid S33
                  clear HSd b13 S33 hD
                  go_wp2_with fail
                  refine (sameColsN (l := columnsF s 4) (n := 5) rfl _ S33'.out HSD.out).mono ?_
                  rintro e w15 ⟨rfl, bb⟩
                  go_wp2_with fail
                  go_ret
                  exact ⟨rfl, B13.out.trans (bb.mono B13.out.size)⟩
end Go.Proofs.Ytlolppjnpmdpgaa
