/-
  The law 'ReadingStreams', walked: it returns true for every input, and nothing that existed changes. No condition.
-/
import Derived.Test.YtlolppjnpmdpgaaRdS
import Derived.Test.YtlolppjnpmdpgaaRdRow
import Derived.Test.YtlolppjnpmdpgaaCopA
namespace Go.Proofs.Ytlolppjnpmdpgaa
open Go.RowKit

theorem Below.realloc {k : Nat} {W X : World} {o o' : Obj} (h : Below k W (X.alloc o)) (hk : k ≤ X.heap.size) : Below k W (X.alloc o') :=
  ⟨h.os, h.tape, h.output, by have := h.size; simpa using this, fun b hb => by
    rw [Below.heap_alloc _ _ _ (Nat.lt_of_lt_of_le hb hk)]
    have := h.block b hb
    rwa [Below.heap_alloc _ _ _ (Nat.lt_of_lt_of_le hb hk)] at this⟩
theorem drew_get {w : World} {g : Nat} {o : Option Obj} (h : w.heap[g]? = o) : w.drew.heap[g]? = o := h
theorem liveF_snoc {s : Str} (h : s.g.length = s.l.length) (r : Rd) : liveF ⟨s.l ++ [r], s.g ++ [false]⟩ = liveF s ++ [r] := by
  unfold liveF
  rw [show (⟨s.l ++ [r], s.g ++ [false]⟩ : Str).l = s.l ++ [r] from rfl, show (⟨s.l ++ [r], s.g ++ [false]⟩ : Str).g = s.g ++ [false] from rfl, List.zip_append h.symm, List.filter_append, List.map_append]
  rfl
theorem live_set : ∀ (l : List Rd) (g : List Bool) (k : Nat), g.length = l.length → k < l.length → g.getD k false = false → (liveF ⟨l, g.set k true⟩).length + 1 = (liveF ⟨l, g⟩).length
  | [], _, _, _, hk, _ => by simp at hk
  | _ :: _, [], _, hl, _, _ => by simp at hl
  | r :: l, b :: g, 0, hl, hk, hg => by
    have hb : b = false := by simpa using hg
    subst hb
    simp [liveF]
  | r :: l, b :: g, k + 1, hl, hk, hg => by
    have := live_set l g k (by simpa using hl) (by simpa using hk) (by simpa using hg)
    simp only [liveF, List.set_cons_succ, List.zip_cons_cons, List.filter_cons, List.length_map] at this ⊢
    cases b <;> simp <;> omega
theorem takeF_ok {s : Str} (h : s.l.length ≤ 1000) {r : Rd} (hv : ValidR r) : takeF s r = (⟨s.l ++ [r], s.g ++ [false]⟩, 0) := by
  unfold takeF; rw [if_pos (by simpa [validB] using hv), if_neg (by omega)]
theorem retractF_nat {s : Str} {k : Nat} (h : k < s.l.length) : retractF s (k : Int) = if s.g.getD k false then (emptyStr, 120) else (⟨s.l, s.g.set k true⟩, 0) := by
  unfold retractF
  rw [if_neg (by omega)]
  rfl
theorem ar3 {W : World} {g : Nat} {u v x : Value} {t : TypeId} (h : Hid (W.heap[g]? = some (.cells #[u, v, x] t (0, 0)))) :
    W.cell? ⟨g, 0, none⟩ = some u ∧ W.cell? ⟨g, 1, none⟩ = some v ∧ W.cell? ⟨g, 2, none⟩ = some x :=
  ⟨cell_of_row _ _ 0 _ _ _ h.out, cell_of_row _ _ 1 _ _ _ h.out, cell_of_row _ _ 2 _ _ _ h.out⟩
def stT : List FRow := [(0, ([], (23, []))), (1, ([], (24, [8]))), (2, ([1], (25, [23]))), (3, ([0, 2], (26, [22, 24]))), (4, ([], (27, []))), (5, ([], (28, [8]))), (6, ([5], (29, [27]))), (7, ([4, 6, 3], (30, [26, 28]))), (8, ([3, 7], (31, [25, 29]))), (9, ([], (10, []))), (10, ([9, 8, 7, 0, 1, 2, 3, 4, 5, 6, 7, 8, 9], (0, [9, 30])))]
set_option maxRecDepth 100000 in
set_option maxHeartbeats 8000000 in
theorem walk_ReadingStreams {l : List ROp} {b0 b1 b2 at_ : UInt8} {A : Option Addr} {c : Nat} (w : World) (h : Sl ropE (fun _ => True) w A c l) :
    Calls Try.prog 5 #[.slice A l.length c, .agg #[.int .u8 (b0.toNat : Int), .int .u8 (b1.toNat : Int), .int .u8 (b2.toNat : Int)], .int .u8 (at_.toNat : Int)] w fun e w' => e = .returned (.bool true) ∧ Below w.heap.size w w' := by
  have s0 := Lib.hid h
  clear h
  go_enter Try.func5, Try.ntmps5
  go_wp2_with fail
  refine (sanityR _).mono ?_
  rintro e w1 ⟨rfl, hb⟩
  have gb : Hid (w1.heap[w.heap.size]? = some (.cells #[.int .u8 (b0.toNat : Int), .int .u8 (b1.toNat : Int), .int .u8 (b2.toNat : Int)] 44 (0, 0))) := Lib.hid ((hb.block _ (by first | omega | (simp <;> omega) | (simp [World.setCell] <;> omega))).trans (heap_alloc_at rfl))
  have bb : Below w.heap.size w w1 := ((Below.refl _ _).alloc (Nat.le_refl _) _).trans (hb.mono (by simp))
  have b0_ := Lib.hid bb
  replace s0 := mvS s0 bb
  clear bb hb
  go_wp2_with fail
  refine (madeR _ s0.out (by decide)).mono ?_
  obtain ⟨ok, hl⟩ := madeF_ok 30 l
  generalize madeF 30 l = s at *
  rintro e w2 ⟨A2, c2, B2, d2, rfl, hs, hg, bb⟩
  replace b0_ := Lib.hid (b0_.out.trans (bb.mono b0_.out.size))
  replace gb := mv gb bb
  have s2 := hs.any
  have k2 := hg.any
  clear bb hs hg s0
  have hlen := Lib.hid hl
  have hglen := Lib.hid ok.len
  clear hl
  go_upto_region 3 with fail
  refine wp_world (F := fun wx => Below w2.heap.size w2 wx ∧ Hid (wx.heap[w2.heap.size]? = some (.cells #[.slice A2 s.l.length c2, .slice B2 s.g.length d2] 30 (0, 0)))) ⟨(Below.refl _ _).alloc (Nat.le_refl _) _, Lib.hid (heap_alloc_at rfl)⟩ ?_
  rintro w3 ⟨bb, gs⟩
  replace b0_ := Lib.hid (b0_.out.trans (bb.mono b0_.out.size))
  replace gb := mv gb bb; replace s2 := mvS s2 bb; replace k2 := mvS k2 bb
  clear bb
  generalize w2.heap.size = n2 at *
  go_cut [9] (fun v wx => ∃ g A B c d, v = .pointer (some ⟨g, 0, none⟩) ∧ wx.heap[g]? = some (.cells #[.slice A s.l.length c, .slice B s.g.length d] 30 (0, 0)) ∧ Sl rdE (fun _ => True) wx A c s.l ∧ Sl .bool (fun _ => True) wx B d s.g ∧ Below w3.heap.size w3 wx)
  case first =>
    have zs : ∀ W, Below w3.heap.size w3 W → _ ∧ _ ∧ _ ∧ _ ∧ _ := fun W hW => two (mv gs hW)
    have ba : ∀ W o, Below w3.heap.size w3 W → Below w3.heap.size w3 (W.alloc o) := fun W o h => h.alloc h.size o
    have bc : ∀ W W', Below w3.heap.size w3 W → Below W.heap.size W W' → Below w3.heap.size w3 W' := fun W W' h k => h.trans (k.mono h.size)
    have br : Below w3.heap.size w3 w3 := Below.refl _ _
    go_region_held3 (fun X => Below w3.heap.size w3 X) (first | with_reducible assumption | ((repeat' (first | with_reducible assumption | with_reducible refine Below.drew ?_ | with_reducible refine ba _ _ ?_)); done) | (with_reducible refine Below.drew ?_; with_reducible assumption) | (with_reducible refine ba _ _ ?_; with_reducible assumption) | (with_reducible refine Below.drew ?_; with_reducible refine ba _ _ ?_; with_reducible assumption) | ((with_reducible refine bc _ _ ?_ (by assumption)); with_reducible assumption) | (refine Below.realloc (o := .cells #[.slice none 0 0, .slice none 0 0] 30) ?_ ?_; (with_reducible assumption); (have q5 := hb5.size; have q6 := hb6.size; simp at q5 q6; omega)) | ((refine Below.setCell (Below.setCell ?_ ?_ _) ?_ _) <;> first | with_reducible assumption | exact Nat.le_refl _ | (dsimp only; omega) | (have q5 := hb5.size; have q6 := hb6.size; simp at q5 q6 ⊢; omega))) (first
      | (refine step_append_copy rfl (.tmp 22) (.tmp 24) rfl rdsT rdE_flat (ys := s.l) (by rfl) (by rfl) rfl (s2.out.keep (Below.agree ?_)) ?_ ?_ ?_; rotate_left 3; intro A5 c5 w5 hs5 hb5; obtain ⟨hc5, hf5⟩ := bcell hb5; have hz5 := hb5.size; (try simp at hz5); (try have hl50 : w3.heap.size < w5.heap.size := (by omega)); (try have hl51 : w3.heap.size + 1 < w5.heap.size := (by omega)); (try have hl52 : w3.heap.size + 1 + 1 < w5.heap.size := (by omega)); rotate_right 3; all_goals first | assumption | (have := hlen.out; unfold maxLen; omega) | (have := hlen.out; omega) | skip)
      | (refine step_append_copy rfl (.tmp 26) (.tmp 28) rfl boolsT bool_flat (ys := s.g) (by rfl) (by rfl) rfl (k2.out.keep (Below.agree ?_)) ?_ ?_ ?_; rotate_left 3; intro A6 c6 w6 hs6 hb6; obtain ⟨hc6, hf6⟩ := bcell hb6; have hz6 := hb6.size; (try simp at hz6); (try have hl60 : w3.heap.size < w6.heap.size := (by omega)); (try have hl61 : w3.heap.size + 1 < w6.heap.size := (by omega)); (try have hl62 : w3.heap.size + 1 + 1 < w6.heap.size := (by omega)); (try have hl65 : w5.heap.size < w6.heap.size := (by omega)); (try have hl66 : w5.heap.size + 1 < w6.heap.size := (by omega)); rotate_right 3; all_goals first | assumption | (have := hlen.out; have := hglen.out; unfold maxLen; omega) | (have := hlen.out; have := hglen.out; omega) | skip)
      | fail)
    all_goals
      go_wp2_with fail
      go_meet
      case rel =>
        refine ⟨_, A5, A6, c5, c6, rfl, ?_, (hs5.old.keep (by repeat' (first | with_reducible exact Agree.refl _ _ | with_reducible refine Agree.set ?_ ?_ _ | with_reducible refine Agree.alloc ?_ _ | with_reducible refine Agree.drew ?_ | with_reducible refine Agree.call ?_ hb6 | (rintro ⟨h1, h2⟩; dsimp only at h1 h2; omega) | (rintro ⟨h1, h2⟩; simp at h1 h2 <;> omega)))).sub (fun _ _ _ => trivial), (hs6.old.keep (by repeat' (first | with_reducible exact Agree.refl _ _ | with_reducible refine Agree.set ?_ ?_ _ | with_reducible refine Agree.alloc ?_ _ | with_reducible refine Agree.drew ?_ | with_reducible refine Agree.call ?_ hb6 | (rintro ⟨h1, h2⟩; dsimp only at h1 h2; omega) | (rintro ⟨h1, h2⟩; simp at h1 h2 <;> omega)))).sub (fun _ _ _ => trivial), by assumption⟩
        first
          | exact heap_alloc_at rfl
          | (refine heap_set (i := 1) (heap_set (i := 0) (u := .slice A5 s.l.length c5) (cs := #[.slice none 0 0, .slice none 0 0]) ?_)
             repeat' (first | exact heap_alloc_at (by first | rfl | simp) | with_reducible refine drew_get ?_ | with_reducible refine (hb6.block _ ?_).trans ?_ | with_reducible refine (hb5.block _ ?_).trans ?_ | with_reducible refine (Below.heap_alloc _ _ _ ?_).trans ?_ | (simp; done) | (simp; omega) | omega))
  case rest =>
    obtain ⟨n9, A9, B9, c9, d9, rfl, g9, hs, hg, bb⟩ := hcut
    replace b0_ := Lib.hid (b0_.out.trans (bb.mono b0_.out.size))
    replace gb := mv gb bb; replace gs := mv gs bb; replace s2 := mvS s2 bb; replace k2 := mvS k2 bb
    replace g9 := Lib.hid g9
    have s9 := Lib.hid hs
    have k9 := Lib.hid hg
    clear bb hs hg
    obtain ⟨wd, hwd⟩ : ∃ X, X = wc := ⟨wc, rfl⟩
    subst hwd
    obtain ⟨y0, y1, -, -, ls⟩ := two gs
    go_wp2_with fail
    refine (liveP_eq (s := s) _ s2.out k2.out hglen.out (by have := hlen.out; omega) rfl).mono ?_
    have hLb := liveF_len s
    have hsn := liveF_snoc hglen.out (rdOf b0 b1 b2)
    replace hsn := Lib.hid hsn
    rintro e w4 ⟨A4, c4, rfl, hs, bb⟩
    replace b0_ := Lib.hid (b0_.out.trans (bb.mono b0_.out.size))
    replace gb := mv gb bb; replace gs := mv gs bb; replace g9 := mv g9 bb; replace s2 := mvS s2 bb; replace k2 := mvS k2 bb; replace s9 := mvS s9 bb; replace k9 := mvS k9 bb
    have s10 := hs.any
    clear bb hs y0 y1 ls
    go_upto_region 5 with fail
    have hpt := Lib.hid (takeF_ok (s := s) (by have := hlen.out; omega) (rdOf_valid b0 b1 b2))
    have rv := Lib.hid (rdOf_valid b0 b1 b2)
    obtain ⟨r, hr⟩ : ∃ r, rdOf b0 b1 b2 = r := ⟨_, rfl⟩
    obtain ⟨st, hst⟩ : ∃ st : Str, ⟨s.l ++ [r], s.g ++ [false]⟩ = st := ⟨_, rfl⟩
    rw [hr] at hpt hsn rv
    rw [hst] at hpt hsn
    have Hr := Lib.hid hr
    have Hst := Lib.hid hst
    clear hr hst
    go_cut [11, 12] (fun v e wx => ∃ g A B c d, v = .pointer (some ⟨g, 0, none⟩) ∧ e = .int .i64 0 ∧ wx.heap[g]? = some (.cells #[.slice A st.l.length c, .slice B st.g.length d] 30 (0, 0)) ∧ Sl rdE (fun _ => True) wx A c st.l ∧ Sl .bool (fun _ => True) wx B d st.g ∧ Below w4.heap.size w4 wx)
    case first =>
      have s2' : Hid (Sl rdE (fun b => b < w4.heap.size) w4 A2 c2 s.l) := Lib.hid (s2.out.old.sub fun b h _ => h.2)
      have k2' : Hid (Sl .bool (fun b => b < w4.heap.size) w4 B2 d2 s.g) := Lib.hid (k2.out.old.sub fun b h _ => h.2)
      have zs : ∀ W, Below w4.heap.size w4 W → _ ∧ _ ∧ _ ∧ _ ∧ _ := fun W hW => two (mv gs hW)
      have zb : ∀ W, Below w4.heap.size w4 W → _ ∧ _ ∧ _ := fun W hW => ar3 (mv gb hW)
      have ba : ∀ W o, Below w4.heap.size w4 W → Below w4.heap.size w4 (W.alloc o) := fun W o h => h.alloc h.size o
      have bc : ∀ W W', Below w4.heap.size w4 W → Below W.heap.size W W' → Below w4.heap.size w4 W' := fun W W' h k => h.trans (k.mono h.size)
      have br : Below w4.heap.size w4 w4 := Below.refl _ _
      go_region_held3 (fun X => Below w4.heap.size w4 X) (first | with_reducible assumption | ((repeat' (first | with_reducible assumption | with_reducible refine Below.drew ?_ | with_reducible refine ba _ _ ?_)); done) | ((with_reducible refine bc _ _ ?_ (by assumption)); with_reducible assumption) | (refine Below.realloc (o := .cells #[.slice none 0 0, .slice none 0 0] 30) ?_ ?_; (with_reducible assumption); (have q5 := hb5.size; have q6 := hb6.size; simp at q5 q6; omega)) | ((refine Below.setCell (Below.setCell ?_ ?_ _) ?_ _) <;> first | with_reducible assumption | exact Nat.le_refl _ | (dsimp only; omega) | (have q5 := hb5.size; have q6 := hb6.size; simp at q5 q6 ⊢; omega)))
        (first
          | (go_at_call 25; refine (readingR b0 b1 b2 _).mono ?_; rw [Hr.out]; rintro e w5 ⟨rfl, hb5⟩; obtain ⟨hc5, hf5⟩ := bcell hb5; have hz5 := hb5.size; (try simp at hz5); (try have hl50 : w4.heap.size < w5.heap.size := (by omega)))
          | (go_at_call 12; refine (takeP_eq (s := s) (S := fun b => b < w4.heap.size) r _ (s2'.out.keep (Below.agree ?_)) (k2'.out.keep (Below.agree ?_)) ok ?_ hpt.out).mono ?_; rotate_left 3; rintro e w6 ⟨A6, c6, B6, d6, rfl, hs6, hg6, hb6⟩; obtain ⟨hc6, hf6⟩ := bcell hb6; have hz6 := hb6.size; (try simp at hz6); (try have hl60 : w4.heap.size < w6.heap.size := (by omega)); (try have hl65 : w5.heap.size < w6.heap.size := (by omega)); rotate_right 3; all_goals first | assumption | (have := hlen.out; omega) | skip)
          | fail)
      all_goals
        go_wp2_with fail
        go_meet
        case rel =>
          refine ⟨_, A6, B6, c6, d6, rfl, rfl, ?_, (hs6.old.keep (by repeat' (first | with_reducible exact Agree.refl _ _ | with_reducible refine Agree.set ?_ ?_ _ | with_reducible refine Agree.alloc ?_ _ | with_reducible refine Agree.drew ?_ | with_reducible refine Agree.call ?_ hb6 | (rintro ⟨h1 | h1, h2⟩ <;> dsimp only at h1 h2 <;> omega) | (rintro ⟨h1 | h1, h2⟩ <;> simp at h1 h2 <;> omega)))).sub (fun _ _ _ => trivial), (hg6.old.keep (by repeat' (first | with_reducible exact Agree.refl _ _ | with_reducible refine Agree.set ?_ ?_ _ | with_reducible refine Agree.alloc ?_ _ | with_reducible refine Agree.drew ?_ | with_reducible refine Agree.call ?_ hb6 | (rintro ⟨h1 | h1, h2⟩ <;> dsimp only at h1 h2 <;> omega) | (rintro ⟨h1 | h1, h2⟩ <;> simp at h1 h2 <;> omega)))).sub (fun _ _ _ => trivial), by assumption⟩
          first
            | exact heap_alloc_at rfl
            | (refine heap_set (i := 1) (heap_set (i := 0) (u := .slice A6 st.l.length c6) (cs := #[.slice none 0 0, .slice none 0 0]) ?_)
               repeat' (first | exact heap_alloc_at (by first | rfl | simp) | with_reducible refine drew_get ?_ | with_reducible refine (hb6.block _ ?_).trans ?_ | with_reducible refine (hb5.block _ ?_).trans ?_ | with_reducible refine (Below.heap_alloc _ _ _ ?_).trans ?_ | (simp; done) | (simp; omega) | omega))
    case rest =>
      obtain ⟨n11, A11, B11, c11, d11, rfl, rfl, g11, hs, hg, bb⟩ := hcut
      replace b0_ := Lib.hid (b0_.out.trans (bb.mono b0_.out.size))
      replace gb := mv gb bb; replace gs := mv gs bb; replace g9 := mv g9 bb; replace s2 := mvS s2 bb; replace k2 := mvS k2 bb; replace s9 := mvS s9 bb; replace k9 := mvS k9 bb; replace s10 := mvS s10 bb
      replace g11 := Lib.hid g11
      have s11 := Lib.hid hs
      have k11 := Lib.hid hg
      clear bb hs hg
      have oks : OkStr st := by
        have := ok.take r
        rw [hpt.out] at this
        exact this
      have hl1 : st.l.length = s.l.length + 1 := by rw [← Hst.out]; simp
      have hl2 : st.g.length = st.l.length := oks.len
      have hl3 := Lib.hid hl1
      have hl4 := Lib.hid hl2
      have hq : ((st.l.length : Int) != (s.l.length : Int) + 1) = false := by simp; omega
      clear hl1 hl2
      have hlen' := hlen.out
      obtain ⟨wd, hwd⟩ : ∃ X, X = wc := ⟨wc, rfl⟩
      subst hwd
      obtain ⟨y0, y1, -, -, ls⟩ := two gs
      obtain ⟨z0, z1, -, -, lz⟩ := two g11
      go_wp2_with fail
      refine (validStreamR (s := st) _ s11.out oks (by have := hl3.out; have := hlen.out; omega)).mono ?_
      rintro e w5 ⟨rfl, bb⟩
      replace b0_ := Lib.hid (b0_.out.trans (bb.mono b0_.out.size))
      replace gb := mv gb bb; replace gs := mv gs bb; replace g9 := mv g9 bb; replace g11 := mv g11 bb; replace s2 := mvS s2 bb; replace k2 := mvS k2 bb; replace s9 := mvS s9 bb; replace k9 := mvS k9 bb; replace s10 := mvS s10 bb; replace s11 := mvS s11 bb; replace k11 := mvS k11 bb
      clear bb y0 y1 ls z0 z1 lz
      obtain ⟨y0, y1, -, -, ls⟩ := two gs
      obtain ⟨z0, z1, -, -, lz⟩ := two g11
      go_wp2_with fail
      refine (liveP_eq (s := st) _ s11.out k11.out hl4.out (by have := hl3.out; have := hlen.out; omega) rfl).mono ?_
      rw [hsn.out]
      rintro e w6 ⟨A6, c6, rfl, hs, bb⟩
      replace b0_ := Lib.hid (b0_.out.trans (bb.mono b0_.out.size))
      replace gb := mv gb bb; replace gs := mv gs bb; replace g9 := mv g9 bb; replace g11 := mv g11 bb; replace s2 := mvS s2 bb; replace k2 := mvS k2 bb; replace s9 := mvS s9 bb; replace k9 := mvS k9 bb; replace s10 := mvS s10 bb; replace s11 := mvS s11 bb; replace k11 := mvS k11 bb
      have s13 := hs.any
      clear bb hs y0 y1 ls z0 z1 lz
      go_upto_region 9 with fail
      have hlv := Lib.hid (show (liveF st).length = (liveF s).length + 1 by rw [hsn.out]; simp)
      clear hsn
      generalize liveF s = Lb at *
      go_cut [74] (fun v wx => v = .bool false ∧ Below w6.heap.size w6 wx)
      case first =>
        obtain ⟨b7, o7, rfl, -, l7, x0, x1, x2, x3⟩ := rd_at (i := Lb.length) (r := r) s13.out (by simp)
        have z0 := hold x0
        have z1 := hold x1
        have z2 := hold x2
        have z3 := hold x3
        have zb : ∀ W, Below w6.heap.size w6 W → _ ∧ _ ∧ _ := fun W hW => ar3 (mv gb hW)
        have ba : ∀ W o, Below w6.heap.size w6 W → Below w6.heap.size w6 (W.alloc o) := fun W o h => h.alloc h.size o
        have bc : ∀ W W', Below w6.heap.size w6 W → Below W.heap.size W W' → Below w6.heap.size w6 W' := fun W W' h k => h.trans (k.mono h.size)
        have br : Below w6.heap.size w6 w6 := Below.refl _ _
        have hw1 : IntKind.i64.wrap ((Lb.length : Int) + 1) = (Lb.length : Int) + 1 := IntWalk.i64_in _ (by omega)
        have hi0 : (0 : Int) ≤ (Lb.length : Int) := by omega
        have hi1 : ((Lb.length : Int) < (Lb.length : Int) + 1) = True := by simp; omega
        have hm13 := s13.out.capMax
        clear x0 x1 x2 x3
        go_region_held3 (fun X => Below w6.heap.size w6 X) (first | with_reducible assumption | (with_reducible refine Below.drew ?_; with_reducible assumption) | (with_reducible refine ba _ _ ?_; with_reducible assumption) | (with_reducible refine Below.drew ?_; with_reducible refine ba _ _ ?_; with_reducible assumption) | exact Below.refl _ _ | exact (Below.refl _ _).drew | exact (Below.refl _ _).alloc (Nat.le_refl _) _ | (refine bc _ _ (by assumption) (by assumption)))
          (first
            | (go_at_call 25; refine (readingR b0 b1 b2 _).mono ?_; rw [Hr.out]; rintro e wy ⟨rfl, hy⟩)
            | fail)
        all_goals go_wp2_with fail
        all_goals go_meet
        all_goals exact ⟨rfl, by assumption⟩
      case rest =>
        obtain ⟨rfl, bb⟩ := hcut
        replace b0_ := Lib.hid (b0_.out.trans (bb.mono b0_.out.size))
        replace gs := mv gs bb; replace g9 := mv g9 bb; replace g11 := mv g11 bb; replace s2 := mvS s2 bb; replace k2 := mvS k2 bb; replace s9 := mvS s9 bb; replace k9 := mvS k9 bb; replace s11 := mvS s11 bb; replace k11 := mvS k11 bb
        clear bb gb s10 s13 hpt Hr Hst rv
        obtain ⟨wd, hwd⟩ : ∃ X, X = wc := ⟨wc, rfl⟩
        subst hwd
        have hl1 := hl3.out
        obtain ⟨k, hk⟩ : ∃ k, at_.toNat % st.l.length = k := ⟨_, rfl⟩
        have hklt : k < st.l.length := by rw [← hk]; exact Nat.mod_lt _ (by omega)
        have hkk : (at_.toNat : Int).tmod (st.l.length : Int) = (k : Int) := by rw [← hk]; rfl
        have hwa : wrap64 (at_.toNat : Int) = (at_.toNat : Int) := by have h := at_.toNat_lt; exact IntWalk.wrap64_in _ (by omega)
        have hnil : (st.l = []) = False := eq_false (fun e => by rw [e] at hl1; simp at hl1)
        have hn0 : (st.l.length : Int) ≠ 0 := by omega
        have hk0 : (0 : Int) ≤ (k : Int) := by omega
        have hk1 : (k : Int) < (st.l.length : Int) := by omega
        have hret := retractF_nat hklt
        replace hk := Lib.hid hk
        have hm11 := s11.out.max
        obtain ⟨z0, z1, -, -, lz⟩ := two g11
        obtain ⟨y0, y1, -, -, ls⟩ := two gs
        obtain ⟨v0, v1, -, -, lv⟩ := two g9
        have hgl : k < st.g.length := by rw [hl4.out]; exact hklt
        have hgk1 : (k : Int) < (st.g.length : Int) := by omega
        have hgi : st.g[k]? = some (st.g.getD k false) := by simp [hgl]
        replace hgi := Lib.hid hgi
        clear hl1
        cases hgk : st.g.getD k false with
        | true =>
          rw [hgk, if_pos rfl] at hret
          rw [hgk] at hgi
          obtain ⟨b7, o7, e7, -, l7, x7⟩ := bool_at k11.out hgi.out
          subst e7
          replace hret := Lib.hid hret
          clear hgk
          go_wp2_with fail
          refine (retractP_eq (s := st) _ s11.out k11.out oks (by have := hl3.out; omega) hret.out).mono ?_
          rintro e w8 ⟨A8, c8, B8, d8, rfl, -, -, bb⟩
          replace b0_ := Lib.hid (b0_.out.trans (bb.mono b0_.out.size))
          have l7' := Nat.lt_of_lt_of_le l7 bb.size
          replace x7 := (bb.cell (p := ⟨b7, o7 + k, none⟩) l7).trans x7
          replace gs := mv gs bb; replace g9 := mv g9 bb; replace g11 := mv g11 bb; replace s2 := mvS s2 bb; replace k2 := mvS k2 bb; replace s9 := mvS s9 bb; replace k9 := mvS k9 bb
          clear bb y0 y1 ls z0 z1 lz v0 v1 lv
          obtain ⟨z0, z1, -, -, lz⟩ := two g11
          obtain ⟨y0, y1, -, -, ls⟩ := two gs
          obtain ⟨v0, v1, -, -, lv⟩ := two g9
          go_wp2_with fail
          ((with_reducible refine (sameStr_eq (s := s) _ (s2.out.keep ((Agree.refl _ _).alloc _)) (k2.out.keep ((Agree.refl _ _).alloc _)) (s9.out.keep ((Agree.refl _ _).alloc _)) (k9.out.keep ((Agree.refl _ _).alloc _))).mono ?_))
          rintro e w10 ⟨rfl, hb⟩
          have bb : Below w8.heap.size w8 w10 := ((Below.refl _ _).alloc (Nat.le_refl _) _).trans (hb.mono (by simp))
          replace b0_ := Lib.hid (b0_.out.trans (bb.mono b0_.out.size))
          clear bb hb
          go_wp2_with fail
          all_goals go_ret
          all_goals exact ⟨rfl, b0_.out⟩
        | false =>
          rw [hgk, if_neg (by simp)] at hret
          rw [hgk] at hgi
          have hlset := live_set st.l st.g k hl4.out hklt hgk
          obtain ⟨b7, o7, e7, -, l7, x7⟩ := bool_at k11.out hgi.out
          subst e7
          obtain ⟨su, hsu⟩ : ∃ su : Str, ⟨st.l, st.g.set k true⟩ = su := ⟨_, rfl⟩
          rw [hsu] at hret hlset
          have hul : su.l.length = st.l.length := by rw [← hsu]
          have hug : su.g.length = st.g.length := by rw [← hsu]; simp
          have hgu : su.g[k]? = some true := by rw [← hsu]; simp [hgl]
          have oku : OkStr su := by
            have := oks.retract (k : Int)
            rw [hret] at this
            exact this
          have hret2 : retractF su (k : Int) = (emptyStr, 120) := by rw [retractF_nat (by omega), show su.g.getD k false = true by simp [List.getD, hgu], if_pos rfl]
          have hlive : (liveF su).length = Lb.length := by have h1 := hlv.out; have h2 : liveF (⟨st.l, st.g⟩ : Str) = liveF st := rfl; rw [h2] at hlset; omega
          have hqu : ((su.l.length : Int) == (st.l.length : Int)) = true := by simp [hul]
          replace hret := Lib.hid hret
          replace hret2 := Lib.hid hret2
          replace hul := Lib.hid hul
          replace hug := Lib.hid hug
          replace hgu := Lib.hid hgu
          replace hlive := Lib.hid hlive
          clear hgk hsu hlset
          go_wp2_with fail
          refine (retractP_eq (s := st) _ s11.out k11.out oks (by have := hl3.out; omega) hret.out).mono ?_
          rintro e w8 ⟨A8, c8, B8, d8, rfl, hs, hg, bb⟩
          replace b0_ := Lib.hid (b0_.out.trans (bb.mono b0_.out.size))
          have l7' := Nat.lt_of_lt_of_le l7 bb.size
          replace x7 := (bb.cell (p := ⟨b7, o7 + k, none⟩) l7).trans x7
          replace gs := mv gs bb; replace g9 := mv g9 bb; replace g11 := mv g11 bb; replace s2 := mvS s2 bb; replace k2 := mvS k2 bb; replace s9 := mvS s9 bb; replace k9 := mvS k9 bb
          have s8 := hs.any
          have k8 := hg.any
          clear bb y0 y1 ls z0 z1 lz v0 v1 lv hs hg l7
          obtain ⟨z0, z1, -, -, lz⟩ := two g11
          obtain ⟨y0, y1, -, -, ls⟩ := two gs
          obtain ⟨v0, v1, -, -, lv⟩ := two g9
          go_wp2_with fail
          ((with_reducible refine (sameStr_eq (s := s) _ (s2.out.keep ((Agree.refl _ _).alloc _)) (k2.out.keep ((Agree.refl _ _).alloc _)) (s9.out.keep ((Agree.refl _ _).alloc _)) (k9.out.keep ((Agree.refl _ _).alloc _))).mono ?_))
          rintro e w10 ⟨rfl, hb⟩
          have bb : Below w8.heap.size w8 w10 := ((Below.refl _ _).alloc (Nat.le_refl _) _).trans (hb.mono (by simp))
          replace b0_ := Lib.hid (b0_.out.trans (bb.mono b0_.out.size))
          have g15 : Hid (w10.heap[w8.heap.size]? = some (.cells #[.slice A8 su.l.length c8, .slice B8 su.g.length d8] 30 (0, 0))) := Lib.hid ((hb.block _ (by first | omega | (simp <;> omega) | (simp [World.setCell] <;> omega))).trans (heap_alloc_at rfl))
          have l7'' := Nat.lt_of_lt_of_le l7' bb.size
          replace x7 := (bb.cell (p := ⟨b7, o7 + k, none⟩) l7').trans x7
          replace g11 := mv g11 bb; replace s8 := mvS s8 bb; replace k8 := mvS k8 bb
          clear bb y0 y1 ls z0 z1 lz v0 v1 lv hb gs g9 s2 k2 s9 k9 l7'
          generalize w8.heap.size = n15 at *
          obtain ⟨z0, z1, -, -, lz⟩ := two g11
          obtain ⟨y0, y1, -, -, ls⟩ := two g15
          go_wp2_with fail
          refine (retractP_eq (s := su) _ s8.out k8.out oku (by have := hl3.out; have := hul.out; omega) hret2.out).mono ?_
          rintro e w11 ⟨A17, c17, B17, d17, rfl, -, -, bb⟩
          replace b0_ := Lib.hid (b0_.out.trans (bb.mono b0_.out.size))
          have l7' := Nat.lt_of_lt_of_le l7'' bb.size
          replace x7 := (bb.cell (p := ⟨b7, o7 + k, none⟩) l7'').trans x7
          replace g11 := mv g11 bb; replace g15 := mv g15 bb; replace s8 := mvS s8 bb; replace k8 := mvS k8 bb
          clear bb y0 y1 ls z0 z1 lz l7''
          obtain ⟨z0, z1, -, -, lz⟩ := two g11
          obtain ⟨y0, y1, -, -, ls⟩ := two g15
          go_wp2_with fail
          refine (liveP_eq (s := su) _ (s8.out.keep ((Agree.refl _ _).alloc _)) (k8.out.keep ((Agree.refl _ _).alloc _)) oku.len (by have := hl3.out; have := hul.out; omega) rfl).mono ?_
          generalize liveF su = Lu at *
          have hql : ((Lu.length : Int) == (Lb.length : Int)) = true := by simp [hlive.out]
          rintro e w12 ⟨A18, c18, rfl, -, hb⟩
          have bb : Below w11.heap.size w11 w12 := ((Below.refl _ _).alloc (Nat.le_refl _) _).trans (hb.mono (by simp))
          replace b0_ := Lib.hid (b0_.out.trans (bb.mono b0_.out.size))
          have l7'' := Nat.lt_of_lt_of_le l7' bb.size
          replace x7 := (bb.cell (p := ⟨b7, o7 + k, none⟩) l7').trans x7
          replace g11 := mv g11 bb; replace g15 := mv g15 bb; replace s8 := mvS s8 bb; replace k8 := mvS k8 bb
          clear bb y0 y1 ls z0 z1 lz l7' hb
          obtain ⟨z0, z1, -, -, lz⟩ := two g11
          obtain ⟨y0, y1, -, -, ls⟩ := two g15
          obtain ⟨b8, o8, e8, -, l8, x8⟩ := bool_at k8.out hgu.out
          subst e8
          have hgk2 : (k : Int) < (su.g.length : Int) := by have := hug.out; omega
          go_wp2_with fail
          all_goals go_ret
          all_goals exact ⟨rfl, b0_.out⟩
end Go.Proofs.Ytlolppjnpmdpgaa
