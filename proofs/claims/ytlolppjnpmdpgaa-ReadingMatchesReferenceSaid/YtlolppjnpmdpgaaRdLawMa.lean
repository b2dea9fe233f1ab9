/-
  The law 'ReadingMatchesReference', walked: it returns true for every input, and nothing that existed changes. No condition.
-/
import Derived.Test.YtlolppjnpmdpgaaRdS
import Derived.Test.YtlolppjnpmdpgaaRdRow
namespace Go.Proofs.Ytlolppjnpmdpgaa
open Go.RowKit

theorem validR_eq {r : Rd} {b : Bool} (h : validB r = b) (w : World) : Calls Try.prog 18 #[.agg #[.int .i64 r.who, .int .i64 r.whn, .int .i64 r.knd, .int .i64 r.val]] w fun e w' => e = .returned (.bool b) ∧ Below w.heap.size w w' := by
  rw [← h]; exact validR_any r w
theorem validP_eq' {r : Rd} {b : Bool} (h : validB r = b) (w : World) : Calls Try.prog 17 #[.agg #[.int .i64 r.who, .int .i64 r.whn, .int .i64 r.knd, .int .i64 r.val]] w fun e w' => e = .returned (.bool b) ∧ Below w.heap.size w w' := by
  rw [← h]; exact validP_any r w
theorem retractR_eq {s : Str} {A B : Option Addr} {c d : Nat} {i : Int} {S : Nat → Prop} {p : Str × Int} (w : World) (h : Sl rdE S w A c s.l) (k : Sl .bool S w B d s.g) (ok : OkStr s) (hl : s.l.length ≤ 1000) (hp : retractF s i = p) :
    Calls Try.prog 15 #[.agg #[.slice A s.l.length c, .slice B s.g.length d], .int .i64 i] w (StRes S w p) := by
  rw [← hp]; exact retractR_any w h k ok hl
/-- What Columns and Bits return. -/
def colsOut (s : Str) (log : Int) : List (List Int) × Int := if checkF s.l.length log = 0 then (columnsF s log, 0) else ([], checkF s.l.length log)
def bitsOut (s : Str) (log : Int) : List (List Int) × Int := if checkF s.l.length log = 0 then (bitsF s log, 0) else ([], checkF s.l.length log)
theorem columnsP_all {s : Str} {A B : Option Addr} {c d : Nat} {log : Int} {S : Nat → Prop} {p : List (List Int) × Int} (w : World) (h : Sl rdE S w A c s.l) (k : Sl .bool S w B d s.g) (ok : OkStr s) (hp : colsOut s log = p) :
    Calls Try.prog 19 #[.agg #[.slice A s.l.length c, .slice B s.g.length d], .int .i64 log] w (ColRes w p) := by
  subst hp
  unfold colsOut
  by_cases he : checkF s.l.length log = 0
  · rw [if_pos he]; exact columnsP_ok w he h k ok
  · rw [if_neg he]; exact columnsP_bad w he
theorem columnsR_all {s : Str} {A B : Option Addr} {c d : Nat} {log : Int} {S : Nat → Prop} {p : List (List Int) × Int} (w : World) (h : Sl rdE S w A c s.l) (k : Sl .bool S w B d s.g) (ok : OkStr s) (hp : colsOut s log = p) :
    Calls Try.prog 20 #[.agg #[.slice A s.l.length c, .slice B s.g.length d], .int .i64 log] w (ColRes w p) := by
  subst hp
  unfold colsOut
  by_cases he : checkF s.l.length log = 0
  · rw [if_pos he]; exact columnsR_ok w he h k ok
  · rw [if_neg he]; exact colsR_bad w h.max he
theorem bitsP_all {s : Str} {A B : Option Addr} {c d : Nat} {log : Int} {S : Nat → Prop} {p : List (List Int) × Int} (w : World) (h : Sl rdE S w A c s.l) (k : Sl .bool S w B d s.g) (ok : OkStr s) (hp : bitsOut s log = p) :
    Calls Try.prog 21 #[.agg #[.slice A s.l.length c, .slice B s.g.length d], .int .i64 log] w (ColRes w p) := by
  subst hp
  unfold bitsOut
  by_cases he : checkF s.l.length log = 0
  · rw [if_pos he]; exact bitsP_ok w he h ok
  · rw [if_neg he]; exact bitsP_bad w he
theorem bitsR_all {s : Str} {A B : Option Addr} {c d : Nat} {log : Int} {S : Nat → Prop} {p : List (List Int) × Int} (w : World) (h : Sl rdE S w A c s.l) (k : Sl .bool S w B d s.g) (ok : OkStr s) (hp : bitsOut s log = p) :
    Calls Try.prog 22 #[.agg #[.slice A s.l.length c, .slice B s.g.length d], .int .i64 log] w (ColRes w p) := by
  subst hp
  unfold bitsOut
  by_cases he : checkF s.l.length log = 0
  · rw [if_pos he]; exact bitsR_ok w he h k ok
  · rw [if_neg he]; exact bitsR_bad w h.max he
theorem decodeP_all {l : List UInt8} {A : Option Addr} {c : Nat} {S : Nat → Prop} {y : Rd} {k : Int} (w : World) (h : Sl .u8 S w A c l) (hp : decodeF l = (y, k)) :
    Calls Try.prog 23 #[.slice A l.length c] w fun e w' => e = .returned (.tuple #[.agg #[.int .i64 y.who, .int .i64 y.whn, .int .i64 y.knd, .int .i64 y.val], .int .i64 k]) ∧ Below w.heap.size w w' := by
  match l, hp, h with
  | [a, b, d], hp, h => simp only [decodeF, Prod.mk.injEq] at hp; obtain ⟨rfl, rfl⟩ := hp; exact decodeP a b d w h
  | [], hp, h => simp only [decodeF, Prod.mk.injEq] at hp; obtain ⟨rfl, rfl⟩ := hp; exact decodeP_bad (l := []) w (by simp)
  | [a], hp, h => simp only [decodeF, Prod.mk.injEq] at hp; obtain ⟨rfl, rfl⟩ := hp; exact decodeP_bad (l := [a]) w (by simp)
  | [a, b], hp, h => simp only [decodeF, Prod.mk.injEq] at hp; obtain ⟨rfl, rfl⟩ := hp; exact decodeP_bad (l := [a, b]) w (by simp)
  | a :: b :: d :: e :: l, hp, h => simp only [decodeF, Prod.mk.injEq] at hp; obtain ⟨rfl, rfl⟩ := hp; exact decodeP_bad (l := a :: b :: d :: e :: l) w (by simp)
theorem decodeR_all {l : List UInt8} {A : Option Addr} {c : Nat} {S : Nat → Prop} {y : Rd} {k : Int} (w : World) (h : Sl .u8 S w A c l) (hp : decodeF l = (y, k)) :
    Calls Try.prog 24 #[.slice A l.length c] w fun e w' => e = .returned (.tuple #[.agg #[.int .i64 y.who, .int .i64 y.whn, .int .i64 y.knd, .int .i64 y.val], .int .i64 k]) ∧ Below w.heap.size w w' := by
  match l, hp, h with
  | [a, b, d], hp, h => simp only [decodeF, Prod.mk.injEq] at hp; obtain ⟨rfl, rfl⟩ := hp; exact decodeR a b d w h
  | [], hp, h => simp only [decodeF, Prod.mk.injEq] at hp; obtain ⟨rfl, rfl⟩ := hp; exact decodeR_bad (l := []) w (by simp)
  | [a], hp, h => simp only [decodeF, Prod.mk.injEq] at hp; obtain ⟨rfl, rfl⟩ := hp; exact decodeR_bad (l := [a]) w (by simp)
  | [a, b], hp, h => simp only [decodeF, Prod.mk.injEq] at hp; obtain ⟨rfl, rfl⟩ := hp; exact decodeR_bad (l := [a, b]) w (by simp)
  | a :: b :: d :: e :: l, hp, h => simp only [decodeF, Prod.mk.injEq] at hp; obtain ⟨rfl, rfl⟩ := hp; exact decodeR_bad (l := a :: b :: d :: e :: l) w (by simp)
theorem byte_wrap (x : Int) : IntKind.u8.wrap x = ((byteF x).toNat : Int) := by
  have h : IntKind.u8.wrap x = x % 256 := by rfl
  rw [h]; unfold byteF; simp; omega
def maT : List FRow := [(0, ([], (146, [9]))), (1, ([0], (147, [145]))), (2, ([1], (148, [20, 146]))), (3, ([1], (149, [22, 146]))), (4, ([2, 3, 1, 1], (150, [147, 148, 146]))), (5, ([1, 4], (151, [146, 149]))), (6, ([5, 4], (152, [150]))), (7, ([6], (153, [21, 151]))), (8, ([6], (154, [23, 151]))), (9, ([7, 8, 6], (155, [152, 153, 151]))), (10, ([6, 9], (156, [151, 154]))), (11, ([10, 6], (157, [155]))), (12, ([11], (158, [24, 156]))), (13, ([11], (159, [26, 156]))), (14, ([12, 13, 11, 11], (160, [157, 158, 156]))), (15, ([11, 14], (161, [156, 159]))), (16, ([15, 14], (162, [160]))), (17, ([16], (163, [25, 161]))), (18, ([16], (164, [27, 161]))), (19, ([17, 18, 16], (165, [162, 163, 161]))), (20, ([16, 19], (166, [161, 164]))), (21, ([20, 16], (167, [165]))), (22, ([21], (168, [28, 166]))), (23, ([21], (169, [30, 166]))), (24, ([22, 23, 21], (170, [167, 168, 166]))), (25, ([21, 24], (171, [166, 169]))), (26, ([25, 21], (172, [170]))), (27, ([26], (173, [29, 171]))), (28, ([26], (174, [31, 171]))), (29, ([27, 28, 26], (175, [172, 173, 171]))), (30, ([26, 29], (176, [171, 174]))), (31, ([30, 26], (177, [175]))), (32, ([31], (178, [32, 176]))), (33, ([32, 31, 31], (179, [177, 176]))), (34, ([33, 31], (180, [178, 176]))), (35, ([31], (181, [32, 176]))), (36, ([35, 33, 31], (182, [180, 176]))), (37, ([36, 31], (183, [181, 176]))), (38, ([34, 37, 31], (184, [179, 182, 176]))), (39, ([31, 38], (185, [176, 183]))), (40, ([39, 36, 0, 1, 2, 3, 4, 5, 6, 7, 8, 9, 10, 11, 12, 13, 14, 15, 16, 17, 18, 19, 20, 21, 22, 23, 24, 25, 26, 27, 28, 29, 30, 31, 32, 33, 34, 35, 36, 37, 38, 39], (9, [184])))]
set_option maxRecDepth 100000 in
set_option maxHeartbeats 8000000 in
theorem walk_ReadingMatchesReference {l : List ROp} {r : Rd} {log : Int} {b : List UInt8} {A B : Option Addr} {c d : Nat} (w : World) (h : Sl ropE (fun _ => True) w A c l) (hb : Sl .u8 (fun _ => True) w B d b) :
    Calls Try.prog 3 #[.slice A l.length c, .agg #[.int .i64 r.who, .int .i64 r.whn, .int .i64 r.knd, .int .i64 r.val], .int .i64 log, .slice B b.length d] w fun e w' => e = .returned (.bool true) ∧ Below w.heap.size w w' := by
  have hm := hb.max
  have s0 := Lib.hid h
  have u0 := Lib.hid hb
  clear h hb
  go_enter Try.func3, Try.ntmps3
  go_wp2_with fail
  refine (sanityR _).mono ?_
  rintro e w1 ⟨rfl, hb⟩
  have gr : Hid (w1.heap[w.heap.size]? = some (.cells #[.int .i64 r.who, .int .i64 r.whn, .int .i64 r.knd, .int .i64 r.val] 24 (0, 0))) := Lib.hid ((hb.block _ (by first | omega | (simp <;> omega) | (simp [World.setCell] <;> omega))).trans (heap_alloc_at rfl))
  have bb : Below w.heap.size w w1 := ((Below.refl _ _).alloc (Nat.le_refl _) _).trans (hb.mono (by simp))
  have b0 := Lib.hid bb
  replace s0 := mvS s0 bb
  replace u0 := mvS u0 bb
  clear bb hb
  go_wp2_with fail
  refine (madeR _ s0.out (by decide)).mono ?_
  obtain ⟨ok, hl⟩ := madeF_ok 20 l
  generalize madeF 20 l = s at *
  rintro e w2 ⟨A2, c2, B2, d2, rfl, hs, hg, bb⟩
  replace b0 := Lib.hid (b0.out.trans (bb.mono b0.out.size))
  replace gr := mv gr bb
  replace u0 := mvS u0 bb
  have s2 := hs.any
  have k2 := hg.any
  clear bb hs hg s0
  obtain ⟨x0, x1, x2, x3⟩ := rd4 gr
  have lr := heap_lt gr.out
  by_cases h20 : 20 < b.length
  · go_wp2_with fail
    go_ret
    exact ⟨rfl, b0.out.alloc b0.out.size _⟩
  obtain ⟨⟨st, kt⟩, hpt⟩ : ∃ p, takeF s r = p := ⟨_, rfl⟩
  obtain ⟨⟨sv, kv⟩, hpv⟩ : ∃ p, retractF s r.whn = p := ⟨_, rfl⟩
  replace hpt := Lib.hid hpt
  replace hpv := Lib.hid hpv
  have hlen := Lib.hid hl
  clear hl
  go_wp2_with fail
  refine (takeP_eq (s := s) r _ (s2.out.keep ((Agree.refl _ _).alloc _)) (k2.out.keep ((Agree.refl _ _).alloc _)) ok (by have := hlen.out; omega) hpt.out).mono ?_
  rintro e w3 ⟨A3, c3, B3, d3, rfl, hs, hg, hb⟩
  have bb : Below w2.heap.size w2 w3 := ((Below.refl _ _).alloc (Nat.le_refl _) _).trans (hb.mono (by simp))
  replace b0 := Lib.hid (b0.out.trans (bb.mono b0.out.size))
  have gs : Hid (w3.heap[w2.heap.size]? = some (.cells #[.slice A2 s.l.length c2, .slice B2 s.g.length d2] 30 (0, 0))) := Lib.hid ((hb.block _ (by first | omega | (simp <;> omega) | (simp [World.setCell] <;> omega))).trans (heap_alloc_at rfl))
  replace gr := mv gr bb; replace u0 := mvS u0 bb; replace s2 := mvS s2 bb; replace k2 := mvS k2 bb
  have s3 := hs.any
  have k3 := hg.any
  clear bb hb hs hg x0 x1 x2 x3 lr
  obtain ⟨x0, x1, x2, x3⟩ := rd4 gr
  obtain ⟨y0, y1, -, -, ls⟩ := two gs
  have lr := heap_lt gr.out
  go_wp2_with fail
  refine (takeR_eq (s := s) r _ (s2.out.keep ((Agree.refl _ _).alloc _)) (k2.out.keep ((Agree.refl _ _).alloc _)) ok (by have := hlen.out; omega) hpt.out).mono ?_
  rintro e w4 ⟨A4, c4, B4, d4, rfl, hs, hg, hb⟩
  have bb : Below w3.heap.size w3 w4 := ((Below.refl _ _).alloc (Nat.le_refl _) _).trans (hb.mono (by simp))
  replace b0 := Lib.hid (b0.out.trans (bb.mono b0.out.size))
  have gt : Hid (w4.heap[w3.heap.size]? = some (.cells #[.slice A3 st.l.length c3, .slice B3 st.g.length d3] 30 (0, 0))) := Lib.hid ((hb.block _ (by first | omega | (simp <;> omega) | (simp [World.setCell] <;> omega))).trans (heap_alloc_at rfl))
  replace gr := mv gr bb; replace gs := mv gs bb; replace u0 := mvS u0 bb; replace s2 := mvS s2 bb; replace k2 := mvS k2 bb; replace s3 := mvS s3 bb; replace k3 := mvS k3 bb
  have s4 := hs.any
  have k4 := hg.any
  clear bb hb hs hg x0 x1 x2 x3 lr y0 y1 ls
  obtain ⟨x0, x1, x2, x3⟩ := rd4 gr
  obtain ⟨y0, y1, -, -, ls⟩ := two gs
  have lr := heap_lt gr.out
  go_wp2_with fail
  refine (retractP_eq (s := s) _ (s2.out.keep ((Agree.refl _ _).alloc _)) (k2.out.keep ((Agree.refl _ _).alloc _)) ok (by have := hlen.out; omega) hpv.out).mono ?_
  rintro e w5 ⟨A5, c5, B5, d5, rfl, hs, hg, hb⟩
  have bb : Below w4.heap.size w4 w5 := ((Below.refl _ _).alloc (Nat.le_refl _) _).trans (hb.mono (by simp))
  replace b0 := Lib.hid (b0.out.trans (bb.mono b0.out.size))
  have gu : Hid (w5.heap[w4.heap.size]? = some (.cells #[.slice A4 st.l.length c4, .slice B4 st.g.length d4] 30 (0, 0))) := Lib.hid ((hb.block _ (by first | omega | (simp <;> omega) | (simp [World.setCell] <;> omega))).trans (heap_alloc_at rfl))
  replace gr := mv gr bb; replace gs := mv gs bb; replace gt := mv gt bb; replace u0 := mvS u0 bb; replace s2 := mvS s2 bb; replace k2 := mvS k2 bb; replace s3 := mvS s3 bb; replace k3 := mvS k3 bb; replace s4 := mvS s4 bb; replace k4 := mvS k4 bb
  have s5 := hs.any
  have k5 := hg.any
  clear bb hb hs hg x0 x1 x2 x3 lr y0 y1 ls
  obtain ⟨x0, x1, x2, x3⟩ := rd4 gr
  obtain ⟨y0, y1, -, -, ls⟩ := two gs
  have lr := heap_lt gr.out
  go_wp2_with fail
  refine (retractR_eq (s := s) _ (s2.out.keep ((Agree.refl _ _).alloc _)) (k2.out.keep ((Agree.refl _ _).alloc _)) ok (by have := hlen.out; omega) hpv.out).mono ?_
  rintro e w6 ⟨A6, c6, B6, d6, rfl, hs, hg, hb⟩
  have bb : Below w5.heap.size w5 w6 := ((Below.refl _ _).alloc (Nat.le_refl _) _).trans (hb.mono (by simp))
  replace b0 := Lib.hid (b0.out.trans (bb.mono b0.out.size))
  have gv : Hid (w6.heap[w5.heap.size]? = some (.cells #[.slice A5 sv.l.length c5, .slice B5 sv.g.length d5] 30 (0, 0))) := Lib.hid ((hb.block _ (by first | omega | (simp <;> omega) | (simp [World.setCell] <;> omega))).trans (heap_alloc_at rfl))
  replace gr := mv gr bb; replace gs := mv gs bb; replace gt := mv gt bb; replace gu := mv gu bb; replace u0 := mvS u0 bb; replace s2 := mvS s2 bb; replace k2 := mvS k2 bb; replace s3 := mvS s3 bb; replace k3 := mvS k3 bb; replace s4 := mvS s4 bb; replace k4 := mvS k4 bb; replace s5 := mvS s5 bb; replace k5 := mvS k5 bb
  have s6 := hs.any
  have k6 := hg.any
  clear bb hb hs hg x0 x1 x2 x3 lr y0 y1 ls
  go_upto_region 9 with fail
  refine wp_world (F := fun wx => Below w6.heap.size w6 wx ∧ Hid (wx.heap[w6.heap.size]? = some (.cells #[.slice A6 sv.l.length c6, .slice B6 sv.g.length d6] 30 (0, 0)))) ⟨(Below.refl _ _).alloc (Nat.le_refl _) _, Lib.hid (heap_alloc_at rfl)⟩ ?_
  rintro w7 ⟨bb, gw⟩
  replace b0 := Lib.hid (b0.out.trans (bb.mono b0.out.size))
  replace gr := mv gr bb; replace gs := mv gs bb; replace gt := mv gt bb; replace gu := mv gu bb; replace gv := mv gv bb; replace u0 := mvS u0 bb; replace s2 := mvS s2 bb; replace k2 := mvS k2 bb; replace s3 := mvS s3 bb; replace k3 := mvS k3 bb; replace s4 := mvS s4 bb; replace k4 := mvS k4 bb; replace s5 := mvS s5 bb; replace k5 := mvS k5 bb; replace s6 := mvS s6 bb; replace k6 := mvS k6 bb
  clear bb
  generalize w6.heap.size = n6 at *
  go_cut [92] (fun v wx => v = .bool false ∧ Below w7.heap.size w7 wx)
  case first => as_aux_lemma =>
    have zr : ∀ W, Below w7.heap.size w7 W → _ ∧ _ ∧ _ ∧ _ := fun W hW => rd4 (mv gr hW)
    have zt : ∀ W, Below w7.heap.size w7 W → _ ∧ _ ∧ _ ∧ _ ∧ _ := fun W hW => two (mv gt hW)
    have zu : ∀ W, Below w7.heap.size w7 W → _ ∧ _ ∧ _ ∧ _ ∧ _ := fun W hW => two (mv gu hW)
    have zv : ∀ W, Below w7.heap.size w7 W → _ ∧ _ ∧ _ ∧ _ ∧ _ := fun W hW => two (mv gv hW)
    have zw : ∀ W, Below w7.heap.size w7 W → _ ∧ _ ∧ _ ∧ _ ∧ _ := fun W hW => two (mv gw hW)
    obtain ⟨vb, hvb⟩ : ∃ v, validB r = v := ⟨_, rfl⟩
    replace hvb := Lib.hid hvb
    have ba : ∀ W o, Below w7.heap.size w7 W → Below w7.heap.size w7 (W.alloc o) := fun W o h => h.alloc h.size o
    have bc : ∀ W W', Below w7.heap.size w7 W → Below W.heap.size W W' → Below w7.heap.size w7 W' := fun W W' h k => h.trans (k.mono h.size)
    clear gr gs gt gu gv gw
    go_region_held3 (fun X => Below w7.heap.size w7 X) (first | with_reducible assumption | (with_reducible refine Below.drew ?_; with_reducible assumption) | (with_reducible refine ba _ _ ?_; with_reducible assumption) | (with_reducible refine Below.drew ?_; with_reducible refine ba _ _ ?_; with_reducible assumption) | exact Below.refl _ _ | exact (Below.refl _ _).drew | exact (Below.refl _ _).alloc (Nat.le_refl _) _ | (refine bc _ _ (by assumption) (by assumption))) (first
      | (go_at_call 17; refine (validP_eq' hvb.out _).mono ?_; rintro e wy ⟨rfl, hy⟩)
      | (go_at_call 18; refine (validR_eq hvb.out _).mono ?_; rintro e wy ⟨rfl, hy⟩)
      | ((with_reducible refine (sameStr_eq (s := st) _ (s3.out.keep (Below.agree ?_)) (k3.out.keep (Below.agree ?_)) (s4.out.keep (Below.agree ?_)) (k4.out.keep (Below.agree ?_))).mono ?_); rotate_left 4; rintro e wy ⟨rfl, hy⟩; rotate_right 4; all_goals first | assumption | skip)
      | ((with_reducible refine (sameStr_eq (s := sv) _ (s5.out.keep (Below.agree ?_)) (k5.out.keep (Below.agree ?_)) (s6.out.keep (Below.agree ?_)) (k6.out.keep (Below.agree ?_))).mono ?_); rotate_left 4; rintro e wy ⟨rfl, hy⟩; rotate_right 4; all_goals first | assumption | skip))
    all_goals go_wp2_with fail
    all_goals go_meet
    all_goals exact ⟨rfl, by assumption⟩
  case rest =>
    obtain ⟨rfl, hb⟩ := hcut
    replace b0 := Lib.hid (b0.out.trans (hb.mono b0.out.size))
    replace gr := mv gr hb; replace gs := mv gs hb; replace u0 := mvS u0 hb; replace s2 := mvS s2 hb; replace k2 := mvS k2 hb
    clear hb gt gu gv gw s3 k3 s4 k4 s5 k5 s6 k6 hpt hpv
    obtain ⟨k, hk⟩ : ∃ k : Int, (if 6 < log ∧ log ≤ 16 then 6 else log) = k := ⟨_, rfl⟩
    replace hk := Lib.hid hk
    obtain ⟨wd, hwd⟩ : ∃ X, X = wc := ⟨wc, rfl⟩
    subst hwd
    go_upto_region 12 with fail
    go_cut [99] (fun v wx => v = .bool (decide (6 < log ∧ log ≤ 16)) ∧ wx = wd)
    case first => as_aux_lemma =>
      by_cases h6 : 6 < log <;> by_cases h16 : log ≤ 16 <;> (go_wp2_with fail; go_meet; case rel => exact ⟨congrArg Value.bool (by rw [Bool.eq_iff_iff]; simp; omega), rfl⟩)
    case rest =>
      obtain ⟨rfl, rfl⟩ := hcut
      obtain ⟨wd, hwd⟩ : ∃ X, X = wc := ⟨wc, rfl⟩
      subst hwd
      go_upto_if 99 with fail
      go_cut [19] (fun v wx => v = .int .i64 k ∧ wx = wd)
      case first => as_aux_lemma =>
        cases hd : decide (6 < log ∧ log ≤ 16) with
        | true =>
          have hd' := Lib.hid (of_decide_eq_true hd)
          clear hd
          go_wp2_with fail
          go_meet
          case rel => exact ⟨by rw [← hk.out, if_pos hd'.out], rfl⟩
        | false =>
          have hd' := Lib.hid (of_decide_eq_false hd)
          clear hd
          go_wp2_with fail
          go_meet
          case rel => exact ⟨by rw [← hk.out, if_neg hd'.out], rfl⟩
      case rest =>
        obtain ⟨rfl, rfl⟩ := hcut
        clear hk
        obtain ⟨⟨cs, kc⟩, hpc⟩ : ∃ p, colsOut s k = p := ⟨_, rfl⟩
        obtain ⟨⟨bs, kb⟩, hpb⟩ : ∃ p, bitsOut s k = p := ⟨_, rfl⟩
        replace hpc := Lib.hid hpc
        replace hpb := Lib.hid hpb
        obtain ⟨y0, y1, -, -, ls⟩ := two gs
        go_wp2_with fail
        refine (columnsP_all (s := s) _ s2.out k2.out ok hpc.out).mono ?_
        rintro e w8 ⟨A8, c8, rfl, hs, bb⟩
        replace b0 := Lib.hid (b0.out.trans (bb.mono b0.out.size))
        replace gr := mv gr bb; replace gs := mv gs bb; replace u0 := mvS u0 bb; replace s2 := mvS s2 bb; replace k2 := mvS k2 bb
        have s8 := hs.any
        clear bb hs y0 y1 ls
        obtain ⟨y0, y1, -, -, ls⟩ := two gs
        go_wp2_with fail
        refine (columnsR_all (s := s) _ s2.out k2.out ok hpc.out).mono ?_
        rintro e w9 ⟨A9, c9, rfl, hs, bb⟩
        replace b0 := Lib.hid (b0.out.trans (bb.mono b0.out.size))
        replace gr := mv gr bb; replace gs := mv gs bb; replace u0 := mvS u0 bb; replace s2 := mvS s2 bb; replace k2 := mvS k2 bb; replace s8 := mvS s8 bb
        have s9 := hs.any
        clear bb hs y0 y1 ls
        obtain ⟨y0, y1, -, -, ls⟩ := two gs
        go_wp2_with fail
        refine (bitsP_all (s := s) _ s2.out k2.out ok hpb.out).mono ?_
        rintro e w10 ⟨A10, c10, rfl, hs, bb⟩
        replace b0 := Lib.hid (b0.out.trans (bb.mono b0.out.size))
        replace gr := mv gr bb; replace gs := mv gs bb; replace u0 := mvS u0 bb; replace s2 := mvS s2 bb; replace k2 := mvS k2 bb; replace s8 := mvS s8 bb; replace s9 := mvS s9 bb
        have s10 := hs.any
        clear bb hs y0 y1 ls
        obtain ⟨y0, y1, -, -, ls⟩ := two gs
        go_wp2_with fail
        refine (bitsR_all (s := s) _ s2.out k2.out ok hpb.out).mono ?_
        rintro e w11 ⟨A11, c11, rfl, hs, bb⟩
        replace b0 := Lib.hid (b0.out.trans (bb.mono b0.out.size))
        replace gr := mv gr bb; replace u0 := mvS u0 bb; replace s8 := mvS s8 bb; replace s9 := mvS s9 bb; replace s10 := mvS s10 bb
        have s11 := hs.any
        clear bb hs y0 y1 ls gs s2 k2 hpc hpb hlen ok
        obtain ⟨⟨y, ky⟩, hpy⟩ : ∃ p, decodeF b = p := ⟨_, rfl⟩
        replace hpy := Lib.hid hpy
        go_wp2_with fail
        refine (decodeP_all _ u0.out hpy.out).mono ?_
        rintro e w12 ⟨rfl, bb⟩
        replace b0 := Lib.hid (b0.out.trans (bb.mono b0.out.size))
        replace gr := mv gr bb; replace u0 := mvS u0 bb; replace s8 := mvS s8 bb; replace s9 := mvS s9 bb; replace s10 := mvS s10 bb; replace s11 := mvS s11 bb
        clear bb
        go_wp2_with fail
        refine (decodeR_all _ (u0.out.keep ((Agree.refl _ _).alloc _)) hpy.out).mono ?_
        rintro e w13 ⟨rfl, hb⟩
        have bb : Below w12.heap.size w12 w13 := ((Below.refl _ _).alloc (Nat.le_refl _) _).trans (hb.mono (by simp))
        replace b0 := Lib.hid (b0.out.trans (bb.mono b0.out.size))
        have gy : Hid (w13.heap[w12.heap.size]? = some (.cells #[.int .i64 y.who, .int .i64 y.whn, .int .i64 y.knd, .int .i64 y.val] 24 (0, 0))) := Lib.hid ((hb.block _ (by first | omega | (simp <;> omega) | (simp [World.setCell] <;> omega))).trans (heap_alloc_at rfl))
        replace gr := mv gr bb; replace s8 := mvS s8 bb; replace s9 := mvS s9 bb; replace s10 := mvS s10 bb; replace s11 := mvS s11 bb
        clear bb hb hpy u0
        obtain ⟨x0, x1, x2, x3⟩ := rd4 gr
        have lr := heap_lt gr.out
        have e1 := byte_wrap r.who
        have e2 := byte_wrap r.whn
        have e3 := byte_wrap r.val
        go_wp2_with fail
        refine (readingR _ _ _ _).mono ?_
        rintro e w14 ⟨rfl, hb⟩
        have bb : Below w13.heap.size w13 w14 := ((Below.refl _ _).alloc (Nat.le_refl _) _).trans (hb.mono (by simp))
        replace b0 := Lib.hid (b0.out.trans (bb.mono b0.out.size))
        have gz : Hid (w14.heap[w13.heap.size]? = some (.cells #[.int .i64 y.who, .int .i64 y.whn, .int .i64 y.knd, .int .i64 y.val] 24 (0, 0))) := Lib.hid ((hb.block _ (by first | omega | (simp <;> omega) | (simp [World.setCell] <;> omega))).trans (heap_alloc_at rfl))
        replace gy := mv gy bb; replace s8 := mvS s8 bb; replace s9 := mvS s9 bb; replace s10 := mvS s10 bb; replace s11 := mvS s11 bb
        clear bb hb gr x0 x1 x2 x3 lr e1 e2 e3
        have ov := rdOf_valid (byteF r.who) (byteF r.whn) (byteF r.val)
        generalize rdOf (byteF r.who) (byteF r.whn) (byteF r.val) = o at *
        replace ov := Lib.hid ov
        go_upto_region 21 with fail
        refine wp_world (F := fun wx => Below w14.heap.size w14 wx ∧ Hid (wx.heap[w14.heap.size]? = some (.cells #[.int .i64 o.who, .int .i64 o.whn, .int .i64 o.knd, .int .i64 o.val] 24 (0, 0)))) ⟨(Below.refl _ _).alloc (Nat.le_refl _) _, Lib.hid (heap_alloc_at rfl)⟩ ?_
        rintro wr ⟨bb, go⟩
        replace b0 := Lib.hid (b0.out.trans (bb.mono b0.out.size))
        replace gy := mv gy bb; replace gz := mv gz bb; replace s8 := mvS s8 bb; replace s9 := mvS s9 bb; replace s10 := mvS s10 bb; replace s11 := mvS s11 bb
        clear bb
        generalize w14.heap.size = n14 at *
        generalize w13.heap.size = n13 at *
        generalize w12.heap.size = n12 at *
        as_aux_lemma =>
          have zy : ∀ W, Below wr.heap.size wr W → _ ∧ _ ∧ _ ∧ _ := fun W hW => rd4 (mv gy hW)
          have zz : ∀ W, Below wr.heap.size wr W → _ ∧ _ ∧ _ ∧ _ := fun W hW => rd4 (mv gz hW)
          have zo : ∀ W, Below wr.heap.size wr W → _ ∧ _ ∧ _ ∧ _ := fun W hW => rd4 (mv go hW)
          have ba : ∀ W o, Below wr.heap.size wr W → Below wr.heap.size wr (W.alloc o) := fun W o h => h.alloc h.size o
          have bc : ∀ W W', Below wr.heap.size wr W → Below W.heap.size W W' → Below wr.heap.size wr W' := fun W W' h k => h.trans (k.mono h.size)
          clear gy gz go
          refine wp_region_noPanic ?_
          refine wp_region_held_drew (S := fun X => Below wr.heap.size wr X) (by kernel_rfl) ?_ (fun hHeld => ?_)
          · (first | with_reducible assumption | (with_reducible refine Below.drew ?_; with_reducible assumption) | (with_reducible refine ba _ _ ?_; with_reducible assumption) | (with_reducible refine Below.drew ?_; with_reducible refine ba _ _ ?_; with_reducible assumption) | exact Below.refl _ _ | exact (Below.refl _ _).drew | exact (Below.refl _ _).alloc (Nat.le_refl _) _ | (refine bc _ _ (by assumption) (by assumption)))
          refine RegOk.begin_ (n := 41) (T := maT) ⟨by kernel_rfl, by kernel_rfl, by kernel_rfl, by kernel_rfl⟩ fun hR => ?_
          refine hR.take (i := 0) (oi := ?oz1_0) (v := ?vz1_0) (m' := 1) ?hz1_0 (by kernel_rfl) (by kernel_rfl) (fun _ _ _ h => h) (Or.inl ⟨?sz1_0, ?yz1_0⟩) (by assumption) ?nz1_0
          case hz1_0 => simp only [List.getElem?_toArray, List.getElem?_cons_succ, List.getElem?_cons_zero]; rfl
          case sz1_0 => rfl
          case yz1_0 => (intro w hSw; (try dsimp only at hSw); go_simp <;> with_reducible rfl)
          try simp only [Act.put, List.setIfInBounds_toArray, List.set_cons_zero, List.set_cons_succ]
          refine hR.take (i := 1) (oi := ?oz2_1) (v := ?vz2_1) (m' := 3) ?hz2_1 (by kernel_rfl) (by kernel_rfl) (fun _ _ _ h => h) (Or.inl ⟨?sz2_1, ?yz2_1⟩) (by assumption) ?nz2_1
          case hz2_1 => simp only [List.getElem?_toArray, List.getElem?_cons_succ, List.getElem?_cons_zero]; rfl
          case sz2_1 => rfl
          case yz2_1 => (intro w hSw; (try dsimp only at hSw); go_simp <;> with_reducible rfl)
          try simp only [Act.put, List.setIfInBounds_toArray, List.set_cons_zero, List.set_cons_succ]
          refine hR.take (i := 2) (oi := ?oz3_2) (v := ?vz3_2) (m' := 7) ?hz3_2 (by kernel_rfl) (by kernel_rfl) (fun _ _ _ h => h) (Or.inl ⟨?sz3_2, ?yz3_2⟩) (by assumption) ?nz3_2
          case hz3_2 => simp only [List.getElem?_toArray, List.getElem?_cons_succ, List.getElem?_cons_zero]; rfl
          case sz3_2 => rfl
          case yz3_2 => (intro w hSw; (try dsimp only at hSw); go_simp <;> with_reducible rfl)
          try simp only [Act.put, List.setIfInBounds_toArray, List.set_cons_zero, List.set_cons_succ]
          refine hR.take (i := 3) (oi := ?oz4_3) (v := ?vz4_3) (m' := 15) ?hz4_3 (by kernel_rfl) (by kernel_rfl) (fun _ _ _ h => h) (Or.inl ⟨?sz4_3, ?yz4_3⟩) (by assumption) ?nz4_3
          case hz4_3 => simp only [List.getElem?_toArray, List.getElem?_cons_succ, List.getElem?_cons_zero]; rfl
          case sz4_3 => rfl
          case yz4_3 => (intro w hSw; (try dsimp only at hSw); go_simp <;> with_reducible rfl)
          try simp only [Act.put, List.setIfInBounds_toArray, List.set_cons_zero, List.set_cons_succ]
          refine hR.come (rs := [4]) (by kernel_rfl) (by simp) ?_
          refine AllReadyH.cons (o := ?o5_4) ?h5_4 (fun K hK => ?k5_4) AllReadyH.nil
          case h5_4 => simp only [List.getElem?_toArray, List.getElem?_cons_succ, List.getElem?_cons_zero]; rfl
          go_simp
          go_at_call 26
          refine (sameColsN (l := cs) rfl _ (s8.out.keep (Below.agree (by assumption))) (s9.out.keep (Below.agree (by assumption)))).mono ?_
          rintro e w15 ⟨rfl, hb15⟩
          have hk := bc _ _ (by assumption) hb15
          refine hK.out _ _ ?_ (fun hHeld => ?_)
          · (first | with_reducible assumption | (with_reducible refine Below.drew ?_; with_reducible assumption) | (with_reducible refine ba _ _ ?_; with_reducible assumption) | (with_reducible refine Below.drew ?_; with_reducible refine ba _ _ ?_; with_reducible assumption) | exact Below.refl _ _ | exact (Below.refl _ _).drew | exact (Below.refl _ _).alloc (Nat.le_refl _) _ | (refine bc _ _ (by assumption) (by assumption)))
          clear hK K
          refine RegOk.put_ (m' := 31) (by kernel_rfl) ?_
          try simp only [Act.put, List.setIfInBounds_toArray, List.set_cons_zero, List.set_cons_succ]
          refine hR.take (i := 5) (oi := ?oz6_5) (v := ?vz6_5) (m' := 63) ?hz6_5 (by kernel_rfl) (by kernel_rfl) (fun _ _ _ h => h) (Or.inl ⟨?sz6_5, ?yz6_5⟩) (by assumption) ?nz6_5
          case hz6_5 => simp only [List.getElem?_toArray, List.getElem?_cons_succ, List.getElem?_cons_zero]; rfl
          case sz6_5 => rfl
          case yz6_5 => (intro w hSw; (try dsimp only at hSw); go_simp <;> with_reducible rfl)
          try simp only [Act.put, List.setIfInBounds_toArray, List.set_cons_zero, List.set_cons_succ]
          refine hR.take (i := 6) (oi := ?oz7_6) (v := ?vz7_6) (m' := 127) ?hz7_6 (by kernel_rfl) (by kernel_rfl) (fun _ _ _ h => h) (Or.inl ⟨?sz7_6, ?yz7_6⟩) (by assumption) ?nz7_6
          case hz7_6 => simp only [List.getElem?_toArray, List.getElem?_cons_succ, List.getElem?_cons_zero]; rfl
          case sz7_6 => rfl
          case yz7_6 => (intro w hSw; (try dsimp only at hSw); go_simp <;> with_reducible rfl)
          try simp only [Act.put, List.setIfInBounds_toArray, List.set_cons_zero, List.set_cons_succ]
          refine hR.take (i := 7) (oi := ?oz8_7) (v := ?vz8_7) (m' := 255) ?hz8_7 (by kernel_rfl) (by kernel_rfl) (fun _ _ _ h => h) (Or.inl ⟨?sz8_7, ?yz8_7⟩) (by assumption) ?nz8_7
          case hz8_7 => simp only [List.getElem?_toArray, List.getElem?_cons_succ, List.getElem?_cons_zero]; rfl
          case sz8_7 => rfl
          case yz8_7 => (intro w hSw; (try dsimp only at hSw); go_simp <;> with_reducible rfl)
          try simp only [Act.put, List.setIfInBounds_toArray, List.set_cons_zero, List.set_cons_succ]
          refine hR.take (i := 8) (oi := ?oz9_8) (v := ?vz9_8) (m' := 511) ?hz9_8 (by kernel_rfl) (by kernel_rfl) (fun _ _ _ h => h) (Or.inl ⟨?sz9_8, ?yz9_8⟩) (by assumption) ?nz9_8
          case hz9_8 => simp only [List.getElem?_toArray, List.getElem?_cons_succ, List.getElem?_cons_zero]; rfl
          case sz9_8 => rfl
          case yz9_8 => (intro w hSw; (try dsimp only at hSw); go_simp <;> with_reducible rfl)
          try simp only [Act.put, List.setIfInBounds_toArray, List.set_cons_zero, List.set_cons_succ]
          refine hR.take (i := 9) (oi := ?oz10_9) (v := ?vz10_9) (m' := 1023) ?hz10_9 (by kernel_rfl) (by kernel_rfl) (fun _ _ _ h => h) (Or.inl ⟨?sz10_9, ?yz10_9⟩) (by assumption) ?nz10_9
          case hz10_9 => simp only [List.getElem?_toArray, List.getElem?_cons_succ, List.getElem?_cons_zero]; rfl
          case sz10_9 => rfl
          case yz10_9 => (intro w hSw; (try dsimp only at hSw); go_simp <;> with_reducible rfl)
          try simp only [Act.put, List.setIfInBounds_toArray, List.set_cons_zero, List.set_cons_succ]
          refine hR.take (i := 10) (oi := ?oz11_10) (v := ?vz11_10) (m' := 2047) ?hz11_10 (by kernel_rfl) (by kernel_rfl) (fun _ _ _ h => h) (Or.inl ⟨?sz11_10, ?yz11_10⟩) (by assumption) ?nz11_10
          case hz11_10 => simp only [List.getElem?_toArray, List.getElem?_cons_succ, List.getElem?_cons_zero]; rfl
          case sz11_10 => rfl
          case yz11_10 => (intro w hSw; (try dsimp only at hSw); go_simp <;> with_reducible rfl)
          try simp only [Act.put, List.setIfInBounds_toArray, List.set_cons_zero, List.set_cons_succ]
          refine hR.take (i := 11) (oi := ?oz12_11) (v := ?vz12_11) (m' := 4095) ?hz12_11 (by kernel_rfl) (by kernel_rfl) (fun _ _ _ h => h) (Or.inl ⟨?sz12_11, ?yz12_11⟩) (by assumption) ?nz12_11
          case hz12_11 => simp only [List.getElem?_toArray, List.getElem?_cons_succ, List.getElem?_cons_zero]; rfl
          case sz12_11 => rfl
          case yz12_11 => (intro w hSw; (try dsimp only at hSw); go_simp <;> with_reducible rfl)
          try simp only [Act.put, List.setIfInBounds_toArray, List.set_cons_zero, List.set_cons_succ]
          refine hR.take (i := 12) (oi := ?oz13_12) (v := ?vz13_12) (m' := 8191) ?hz13_12 (by kernel_rfl) (by kernel_rfl) (fun _ _ _ h => h) (Or.inl ⟨?sz13_12, ?yz13_12⟩) (by assumption) ?nz13_12
          case hz13_12 => simp only [List.getElem?_toArray, List.getElem?_cons_succ, List.getElem?_cons_zero]; rfl
          case sz13_12 => rfl
          case yz13_12 => (intro w hSw; (try dsimp only at hSw); go_simp <;> with_reducible rfl)
          try simp only [Act.put, List.setIfInBounds_toArray, List.set_cons_zero, List.set_cons_succ]
          refine hR.take (i := 13) (oi := ?oz14_13) (v := ?vz14_13) (m' := 16383) ?hz14_13 (by kernel_rfl) (by kernel_rfl) (fun _ _ _ h => h) (Or.inl ⟨?sz14_13, ?yz14_13⟩) (by assumption) ?nz14_13
          case hz14_13 => simp only [List.getElem?_toArray, List.getElem?_cons_succ, List.getElem?_cons_zero]; rfl
          case sz14_13 => rfl
          case yz14_13 => (intro w hSw; (try dsimp only at hSw); go_simp <;> with_reducible rfl)
          try simp only [Act.put, List.setIfInBounds_toArray, List.set_cons_zero, List.set_cons_succ]
          refine hR.come (rs := [14]) (by kernel_rfl) (by simp) ?_
          refine AllReadyH.cons (o := ?o15_14) ?h15_14 (fun K hK => ?k15_14) AllReadyH.nil
          case h15_14 => simp only [List.getElem?_toArray, List.getElem?_cons_succ, List.getElem?_cons_zero]; rfl
          go_simp
          go_at_call 26
          refine (sameColsN (l := bs) rfl _ (s10.out.keep (Below.agree (by assumption))) (s11.out.keep (Below.agree (by assumption)))).mono ?_
          rintro e w16 ⟨rfl, hb16⟩
          have hk := bc _ _ (by assumption) hb16
          refine hK.out _ _ ?_ (fun hHeld => ?_)
          · (first | with_reducible assumption | (with_reducible refine Below.drew ?_; with_reducible assumption) | (with_reducible refine ba _ _ ?_; with_reducible assumption) | (with_reducible refine Below.drew ?_; with_reducible refine ba _ _ ?_; with_reducible assumption) | exact Below.refl _ _ | exact (Below.refl _ _).drew | exact (Below.refl _ _).alloc (Nat.le_refl _) _ | (refine bc _ _ (by assumption) (by assumption)))
          clear hK K
          refine RegOk.put_ (m' := 32767) (by kernel_rfl) ?_
          try simp only [Act.put, List.setIfInBounds_toArray, List.set_cons_zero, List.set_cons_succ]
          refine hR.take (i := 15) (oi := ?oz16_15) (v := ?vz16_15) (m' := 65535) ?hz16_15 (by kernel_rfl) (by kernel_rfl) (fun _ _ _ h => h) (Or.inl ⟨?sz16_15, ?yz16_15⟩) (by assumption) ?nz16_15
          case hz16_15 => simp only [List.getElem?_toArray, List.getElem?_cons_succ, List.getElem?_cons_zero]; rfl
          case sz16_15 => rfl
          case yz16_15 => (intro w hSw; (try dsimp only at hSw); go_simp <;> with_reducible rfl)
          try simp only [Act.put, List.setIfInBounds_toArray, List.set_cons_zero, List.set_cons_succ]
          refine hR.take (i := 16) (oi := ?oz17_16) (v := ?vz17_16) (m' := 131071) ?hz17_16 (by kernel_rfl) (by kernel_rfl) (fun _ _ _ h => h) (Or.inl ⟨?sz17_16, ?yz17_16⟩) (by assumption) ?nz17_16
          case hz17_16 => simp only [List.getElem?_toArray, List.getElem?_cons_succ, List.getElem?_cons_zero]; rfl
          case sz17_16 => rfl
          case yz17_16 => (intro w hSw; (try dsimp only at hSw); go_simp <;> with_reducible rfl)
          try simp only [Act.put, List.setIfInBounds_toArray, List.set_cons_zero, List.set_cons_succ]
          refine hR.take (i := 17) (oi := ?oz18_17) (v := ?vz18_17) (m' := 262143) ?hz18_17 (by kernel_rfl) (by kernel_rfl) (fun _ _ _ h => h) (Or.inl ⟨?sz18_17, ?yz18_17⟩) (by assumption) ?nz18_17
          case hz18_17 => simp only [List.getElem?_toArray, List.getElem?_cons_succ, List.getElem?_cons_zero]; rfl
          case sz18_17 => rfl
          case yz18_17 => (intro w hSw; (try dsimp only at hSw); go_simp <;> with_reducible rfl)
          try simp only [Act.put, List.setIfInBounds_toArray, List.set_cons_zero, List.set_cons_succ]
          refine hR.take (i := 18) (oi := ?oz19_18) (v := ?vz19_18) (m' := 524287) ?hz19_18 (by kernel_rfl) (by kernel_rfl) (fun _ _ _ h => h) (Or.inl ⟨?sz19_18, ?yz19_18⟩) (by assumption) ?nz19_18
          case hz19_18 => simp only [List.getElem?_toArray, List.getElem?_cons_succ, List.getElem?_cons_zero]; rfl
          case sz19_18 => rfl
          case yz19_18 => (intro w hSw; (try dsimp only at hSw); go_simp <;> with_reducible rfl)
          try simp only [Act.put, List.setIfInBounds_toArray, List.set_cons_zero, List.set_cons_succ]
          refine hR.take (i := 19) (oi := ?oz20_19) (v := ?vz20_19) (m' := 1048575) ?hz20_19 (by kernel_rfl) (by kernel_rfl) (fun _ _ _ h => h) (Or.inl ⟨?sz20_19, ?yz20_19⟩) (by assumption) ?nz20_19
          case hz20_19 => simp only [List.getElem?_toArray, List.getElem?_cons_succ, List.getElem?_cons_zero]; rfl
          case sz20_19 => rfl
          case yz20_19 => (intro w hSw; (try dsimp only at hSw); go_simp <;> with_reducible rfl)
          try simp only [Act.put, List.setIfInBounds_toArray, List.set_cons_zero, List.set_cons_succ]
          refine hR.take (i := 20) (oi := ?oz21_20) (v := ?vz21_20) (m' := 2097151) ?hz21_20 (by kernel_rfl) (by kernel_rfl) (fun _ _ _ h => h) (Or.inl ⟨?sz21_20, ?yz21_20⟩) (by assumption) ?nz21_20
          case hz21_20 => simp only [List.getElem?_toArray, List.getElem?_cons_succ, List.getElem?_cons_zero]; rfl
          case sz21_20 => rfl
          case yz21_20 => (intro w hSw; (try dsimp only at hSw); go_simp <;> with_reducible rfl)
          try simp only [Act.put, List.setIfInBounds_toArray, List.set_cons_zero, List.set_cons_succ]
          refine hR.take (i := 21) (oi := ?oz22_21) (v := ?vz22_21) (m' := 4194303) ?hz22_21 (by kernel_rfl) (by kernel_rfl) (fun _ _ _ h => h) (Or.inl ⟨?sz22_21, ?yz22_21⟩) (by assumption) ?nz22_21
          case hz22_21 => simp only [List.getElem?_toArray, List.getElem?_cons_succ, List.getElem?_cons_zero]; rfl
          case sz22_21 => rfl
          case yz22_21 => (intro w hSw; (try dsimp only at hSw); go_simp <;> with_reducible rfl)
          try simp only [Act.put, List.setIfInBounds_toArray, List.set_cons_zero, List.set_cons_succ]
          refine hR.take (i := 22) (oi := ?oz23_22) (v := ?vz23_22) (m' := 8388607) ?hz23_22 (by kernel_rfl) (by kernel_rfl) (fun _ _ _ h => h) (Or.inl ⟨?sz23_22, ?yz23_22⟩) (by assumption) ?nz23_22
          case hz23_22 => simp only [List.getElem?_toArray, List.getElem?_cons_succ, List.getElem?_cons_zero]; rfl
          case sz23_22 => rfl
          case yz23_22 => (intro w hSw; (try dsimp only at hSw); go_simp <;> with_reducible rfl)
          try simp only [Act.put, List.setIfInBounds_toArray, List.set_cons_zero, List.set_cons_succ]
          refine hR.take (i := 23) (oi := ?oz24_23) (v := ?vz24_23) (m' := 16777215) ?hz24_23 (by kernel_rfl) (by kernel_rfl) (fun _ _ _ h => h) (Or.inl ⟨?sz24_23, ?yz24_23⟩) (by assumption) ?nz24_23
          case hz24_23 => simp only [List.getElem?_toArray, List.getElem?_cons_succ, List.getElem?_cons_zero]; rfl
          case sz24_23 => rfl
          case yz24_23 => (intro w hSw; (try dsimp only at hSw); go_simp <;> with_reducible rfl)
          try simp only [Act.put, List.setIfInBounds_toArray, List.set_cons_zero, List.set_cons_succ]
          refine hR.take (i := 24) (oi := ?oz25_24) (v := ?vz25_24) (m' := 33554431) ?hz25_24 (by kernel_rfl) (by kernel_rfl) (fun _ _ _ h => h) (Or.inl ⟨?sz25_24, ?yz25_24⟩) (by assumption) ?nz25_24
          case hz25_24 => simp only [List.getElem?_toArray, List.getElem?_cons_succ, List.getElem?_cons_zero]; rfl
          case sz25_24 => rfl
          case yz25_24 => (intro w hSw; (try dsimp only at hSw); go_simp <;> with_reducible rfl)
          try simp only [Act.put, List.setIfInBounds_toArray, List.set_cons_zero, List.set_cons_succ]
          refine hR.take (i := 25) (oi := ?oz26_25) (v := ?vz26_25) (m' := 67108863) ?hz26_25 (by kernel_rfl) (by kernel_rfl) (fun _ _ _ h => h) (Or.inl ⟨?sz26_25, ?yz26_25⟩) (by assumption) ?nz26_25
          case hz26_25 => simp only [List.getElem?_toArray, List.getElem?_cons_succ, List.getElem?_cons_zero]; rfl
          case sz26_25 => rfl
          case yz26_25 => (intro w hSw; (try dsimp only at hSw); go_simp <;> with_reducible rfl)
          try simp only [Act.put, List.setIfInBounds_toArray, List.set_cons_zero, List.set_cons_succ]
          refine hR.take (i := 26) (oi := ?oz27_26) (v := ?vz27_26) (m' := 134217727) ?hz27_26 (by kernel_rfl) (by kernel_rfl) (fun _ _ _ h => h) (Or.inl ⟨?sz27_26, ?yz27_26⟩) (by assumption) ?nz27_26
          case hz27_26 => simp only [List.getElem?_toArray, List.getElem?_cons_succ, List.getElem?_cons_zero]; rfl
          case sz27_26 => rfl
          case yz27_26 => (intro w hSw; (try dsimp only at hSw); go_simp <;> with_reducible rfl)
          try simp only [Act.put, List.setIfInBounds_toArray, List.set_cons_zero, List.set_cons_succ]
          refine hR.take (i := 27) (oi := ?oz28_27) (v := ?vz28_27) (m' := 268435455) ?hz28_27 (by kernel_rfl) (by kernel_rfl) (fun _ _ _ h => h) (Or.inl ⟨?sz28_27, ?yz28_27⟩) (by assumption) ?nz28_27
          case hz28_27 => simp only [List.getElem?_toArray, List.getElem?_cons_succ, List.getElem?_cons_zero]; rfl
          case sz28_27 => rfl
          case yz28_27 => (intro w hSw; (try dsimp only at hSw); go_simp <;> with_reducible rfl)
          try simp only [Act.put, List.setIfInBounds_toArray, List.set_cons_zero, List.set_cons_succ]
          refine hR.take (i := 28) (oi := ?oz29_28) (v := ?vz29_28) (m' := 536870911) ?hz29_28 (by kernel_rfl) (by kernel_rfl) (fun _ _ _ h => h) (Or.inl ⟨?sz29_28, ?yz29_28⟩) (by assumption) ?nz29_28
          case hz29_28 => simp only [List.getElem?_toArray, List.getElem?_cons_succ, List.getElem?_cons_zero]; rfl
          case sz29_28 => rfl
          case yz29_28 => (intro w hSw; (try dsimp only at hSw); go_simp <;> with_reducible rfl)
          try simp only [Act.put, List.setIfInBounds_toArray, List.set_cons_zero, List.set_cons_succ]
          refine hR.take (i := 29) (oi := ?oz30_29) (v := ?vz30_29) (m' := 1073741823) ?hz30_29 (by kernel_rfl) (by kernel_rfl) (fun _ _ _ h => h) (Or.inl ⟨?sz30_29, ?yz30_29⟩) (by assumption) ?nz30_29
          case hz30_29 => simp only [List.getElem?_toArray, List.getElem?_cons_succ, List.getElem?_cons_zero]; rfl
          case sz30_29 => rfl
          case yz30_29 => (intro w hSw; (try dsimp only at hSw); go_simp <;> with_reducible rfl)
          try simp only [Act.put, List.setIfInBounds_toArray, List.set_cons_zero, List.set_cons_succ]
          refine hR.take (i := 30) (oi := ?oz31_30) (v := ?vz31_30) (m' := 2147483647) ?hz31_30 (by kernel_rfl) (by kernel_rfl) (fun _ _ _ h => h) (Or.inl ⟨?sz31_30, ?yz31_30⟩) (by assumption) ?nz31_30
          case hz31_30 => simp only [List.getElem?_toArray, List.getElem?_cons_succ, List.getElem?_cons_zero]; rfl
          case sz31_30 => rfl
          case yz31_30 => (intro w hSw; (try dsimp only at hSw); go_simp <;> with_reducible rfl)
          try simp only [Act.put, List.setIfInBounds_toArray, List.set_cons_zero, List.set_cons_succ]
          refine hR.take (i := 31) (oi := ?oz32_31) (v := ?vz32_31) (m' := 4294967295) ?hz32_31 (by kernel_rfl) (by kernel_rfl) (fun _ _ _ h => h) (Or.inl ⟨?sz32_31, ?yz32_31⟩) (by assumption) ?nz32_31
          case hz32_31 => simp only [List.getElem?_toArray, List.getElem?_cons_succ, List.getElem?_cons_zero]; rfl
          case sz32_31 => rfl
          case yz32_31 => (intro w hSw; (try dsimp only at hSw); go_simp <;> with_reducible rfl)
          try simp only [Act.put, List.setIfInBounds_toArray, List.set_cons_zero, List.set_cons_succ]
          refine hR.take (i := 32) (oi := ?oz33_32) (v := ?vz33_32) (m' := 8589934591) ?hz33_32 (by kernel_rfl) (by kernel_rfl) (fun _ _ _ h => h) (Or.inl ⟨?sz33_32, ?yz33_32⟩) (by assumption) ?nz33_32
          case hz33_32 => simp only [List.getElem?_toArray, List.getElem?_cons_succ, List.getElem?_cons_zero]; rfl
          case sz33_32 => rfl
          case yz33_32 => (intro w hSw; (try dsimp only at hSw); go_simp <;> with_reducible rfl)
          try simp only [Act.put, List.setIfInBounds_toArray, List.set_cons_zero, List.set_cons_succ]
          refine hR.take (i := 35) (oi := ?oz34_35) (v := ?vz34_35) (m' := 42949672959) ?hz34_35 (by kernel_rfl) (by kernel_rfl) (fun _ _ _ h => h) (Or.inl ⟨?sz34_35, ?yz34_35⟩) (by assumption) ?nz34_35
          case hz34_35 => simp only [List.getElem?_toArray, List.getElem?_cons_succ, List.getElem?_cons_zero]; rfl
          case sz34_35 => rfl
          case yz34_35 => (intro w hSw; (try dsimp only at hSw); go_simp <;> with_reducible rfl)
          try simp only [Act.put, List.setIfInBounds_toArray, List.set_cons_zero, List.set_cons_succ]
          refine hR.come (rs := [33]) (by kernel_rfl) (by simp) ?_
          refine AllReadyH.cons (o := ?o35_33) ?h35_33 (fun K hK => ?k35_33) AllReadyH.nil
          case h35_33 => simp only [List.getElem?_toArray, List.getElem?_cons_succ, List.getElem?_cons_zero]; rfl
          go_simp
          go_at_call 27
          refine (encodeP o _ ov.out).mono ?_
          rintro e w17 ⟨A17, c17, rfl, hs17, hb17⟩
          have hk17 := bc _ _ (by assumption) hb17
          refine hK.out _ _ ?_ (fun hHeld => ?_)
          · (first | with_reducible assumption | (with_reducible refine Below.drew ?_; with_reducible assumption) | (with_reducible refine ba _ _ ?_; with_reducible assumption) | (with_reducible refine Below.drew ?_; with_reducible refine ba _ _ ?_; with_reducible assumption) | exact Below.refl _ _ | exact (Below.refl _ _).drew | exact (Below.refl _ _).alloc (Nat.le_refl _) _ | (refine bc _ _ (by assumption) (by assumption)))
          clear hK K
          refine RegOk.put_ (m' := 51539607551) (by kernel_rfl) ?_
          try simp only [Act.put, List.setIfInBounds_toArray, List.set_cons_zero, List.set_cons_succ]
          refine wpAnyH_base hHeld fun hH5 => ?_
          have cE : ∀ W, Below w17.heap.size w17 W → (convert 25 9 (.slice A17 3 c17)).run Try.prog W = .ok (.string ⟨(encodeF o).toArray⟩) W := fun W hW => convB12 hs17 W (Below.agree hW)
          refine hR.take (i := 34) (oi := ?oz36_34) (v := ?vz36_34) (m' := 68719476735) ?hz36_34 (by kernel_rfl) (by kernel_rfl) (fun _ _ _ h => h) (Or.inl ⟨?sz36_34, ?yz36_34⟩) (by assumption) ?nz36_34
          case hz36_34 => simp only [List.getElem?_toArray, List.getElem?_cons_succ, List.getElem?_cons_zero]; rfl
          case sz36_34 => rfl
          case yz36_34 => (intro w hSw; (try dsimp only at hSw); go_simp <;> with_reducible rfl)
          try simp only [Act.put, List.setIfInBounds_toArray, List.set_cons_zero, List.set_cons_succ]
          refine hR.come (rs := [36]) (by kernel_rfl) (by simp) ?_
          refine AllReadyH.cons (o := ?o37_36) ?h37_36 (fun K hK => ?k37_36) AllReadyH.nil
          case h37_36 => simp only [List.getElem?_toArray, List.getElem?_cons_succ, List.getElem?_cons_zero]; rfl
          go_simp
          go_at_call 28
          refine (encodeR o _ ov.out).mono ?_
          rintro e w18 ⟨A18, c18, rfl, hs18, hb18⟩
          have hk18 := bc _ _ hk17 hb18
          refine hK.out _ _ ?_ (fun hHeld => ?_)
          · (first | with_reducible assumption | (with_reducible refine Below.drew ?_; with_reducible assumption) | (with_reducible refine ba _ _ ?_; with_reducible assumption) | (with_reducible refine Below.drew ?_; with_reducible refine ba _ _ ?_; with_reducible assumption) | exact Below.refl _ _ | exact (Below.refl _ _).drew | exact (Below.refl _ _).alloc (Nat.le_refl _) _ | (refine bc _ _ (by assumption) (by assumption)))
          clear hK K
          refine RegOk.put_ (m' := 137438953471) (by kernel_rfl) ?_
          try simp only [Act.put, List.setIfInBounds_toArray, List.set_cons_zero, List.set_cons_succ]
          refine wpAnyH_base hHeld fun hH5 => ?_
          have cE' : ∀ W, Below w18.heap.size w18 W → (convert 25 9 (.slice A18 3 c18)).run Try.prog W = .ok (.string ⟨(encodeF o).toArray⟩) W := fun W hW => convB12 hs18 W (Below.agree hW)
          refine hR.take (i := 37) (oi := ?oz38_37) (v := ?vz38_37) (m' := 274877906943) ?hz38_37 (by kernel_rfl) (by kernel_rfl) (fun _ _ _ h => h) (Or.inl ⟨?sz38_37, ?yz38_37⟩) (by assumption) ?nz38_37
          case hz38_37 => simp only [List.getElem?_toArray, List.getElem?_cons_succ, List.getElem?_cons_zero]; rfl
          case sz38_37 => rfl
          case yz38_37 => (intro w hSw; (try dsimp only at hSw); go_simp <;> with_reducible rfl)
          try simp only [Act.put, List.setIfInBounds_toArray, List.set_cons_zero, List.set_cons_succ]
          refine hR.take (i := 38) (oi := ?oz39_38) (v := ?vz39_38) (m' := 549755813887) ?hz39_38 (by kernel_rfl) (by kernel_rfl) (fun _ _ _ h => h) (Or.inl ⟨?sz39_38, ?yz39_38⟩) (by assumption) ?nz39_38
          case hz39_38 => simp only [List.getElem?_toArray, List.getElem?_cons_succ, List.getElem?_cons_zero]; rfl
          case sz39_38 => rfl
          case yz39_38 => (intro w hSw; (try dsimp only at hSw); go_simp <;> with_reducible rfl)
          try simp only [Act.put, List.setIfInBounds_toArray, List.set_cons_zero, List.set_cons_succ]
          refine hR.take (i := 39) (oi := ?oz40_39) (v := ?vz40_39) (m' := 1099511627775) ?hz40_39 (by kernel_rfl) (by kernel_rfl) (fun _ _ _ h => h) (Or.inl ⟨?sz40_39, ?yz40_39⟩) (by assumption) ?nz40_39
          case hz40_39 => simp only [List.getElem?_toArray, List.getElem?_cons_succ, List.getElem?_cons_zero]; rfl
          case sz40_39 => rfl
          case yz40_39 => (intro w hSw; (try dsimp only at hSw); go_simp <;> with_reducible rfl)
          try simp only [Act.put, List.setIfInBounds_toArray, List.set_cons_zero, List.set_cons_succ]
          refine hR.take (i := 40) (oi := ?oz41_40) (v := ?vz41_40) (m' := 2199023255551) ?hz41_40 (by kernel_rfl) (by kernel_rfl) (fun _ _ _ h => h) (Or.inl ⟨?sz41_40, ?yz41_40⟩) (by assumption) ?nz41_40
          case hz41_40 => simp only [List.getElem?_toArray, List.getElem?_cons_succ, List.getElem?_cons_zero]; rfl
          case sz41_40 => rfl
          case yz41_40 => (intro w hSw; (try dsimp only at hSw); go_simp <;> with_reducible rfl)
          try simp only [Act.put, List.setIfInBounds_toArray, List.set_cons_zero, List.set_cons_succ]
          refine hR.all (by kernel_rfl) ?_ _
          refine NoPanic.normal ?_
          go_wp2_with fail
          go_ret
          exact ⟨rfl, b0.out.trans (hk18.mono b0.out.size)⟩
end Go.Proofs.Ytlolppjnpmdpgaa
