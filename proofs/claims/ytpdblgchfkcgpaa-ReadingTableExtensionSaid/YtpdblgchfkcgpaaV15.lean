/-
  Texts of this claim, merged: TeW. Conditions: as each theorem says.
-/
import Derived.Deep.Upon
import Derived.Test.YtpdblgchfkcgpaaV1
import Derived.Test.YtpdblgchfkcgpaaV2
import Derived.Test.YtpdblgchfkcgpaaV3
import Derived.Test.YtpdblgchfkcgpaaV4
import Derived.Test.YtpdblgchfkcgpaaV5
import Derived.Test.YtpdblgchfkcgpaaV6
import Derived.Test.YtpdblgchfkcgpaaV7
import Derived.Test.YtpdblgchfkcgpaaV8
import Derived.Test.YtpdblgchfkcgpaaV9
import Derived.Test.YtpdblgchfkcgpaaV10
import Derived.Test.YtpdblgchfkcgpaaV11
import Derived.Test.YtpdblgchfkcgpaaV12
import Derived.Test.YtpdblgchfkcgpaaV13
import Derived.Test.YtpdblgchfkcgpaaV14
set_option linter.unusedSimpArgs false
set_option linter.unusedVariables false
namespace Go.Proofs.Ytpdblgchfkcgpaa
open Go.RowKit

/-- The five columns of at most 8 readings: 8 field elements each. -/
structure ColsOk (cols : List (List Int)) : Prop where
  five : cols.length = 5
  eight : ∀ x ∈ cols, x.length = 8
  ok : ∀ x ∈ cols, ∀ a ∈ x, 0 ≤ a ∧ a < pF
theorem padF_ok {N : Nat} {l : List Int} (h : ∀ a ∈ l, 0 ≤ a ∧ a < pF) : ∀ a ∈ padF N l, 0 ≤ a ∧ a < pF := fun a ha => by
  unfold padF at ha
  rcases List.mem_append.1 ha with h1 | h1
  · exact h a h1
  · have := (List.mem_replicate.1 h1).2; subst this; exact ⟨Int.le_refl _, by decide⟩
theorem cols_ok {s : Str} (ok : OkStr s) (hl : s.l.length ≤ 8) : ColsOk (columnsF s 3) := by
  have fo : ∀ c, ∀ a ∈ colF s 3 c, 0 ≤ a ∧ a < pF := fun c => padF_ok fun a ha => by
    obtain ⟨r, hr, rfl⟩ := List.mem_map.1 ha
    obtain ⟨⟨h1, h2⟩, ⟨h3, h4⟩, ⟨h5, h6⟩, h7, h8⟩ := ok.valid r hr
    unfold fieldF pF
    split
    · omega
    · split
      · omega
      · split <;> omega
  have fl' : ∀ c, (colF s 3 c).length = 8 := fun c => colF_len c hl
  refine ⟨rfl, fun x hx => ?_, fun x hx => ?_⟩
  · simp only [columnsF, List.mem_cons, List.not_mem_nil, or_false] at hx
    rcases hx with rfl | rfl | rfl | rfl | rfl
    · exact fl' 0
    · exact fl' 1
    · exact fl' 2
    · exact fl' 3
    · exact padF_len (N := 8) (by simp [ok.len]; omega)
  · simp only [columnsF, List.mem_cons, List.not_mem_nil, or_false] at hx
    rcases hx with rfl | rfl | rfl | rfl | rfl
    · exact fo 0
    · exact fo 1
    · exact fo 2
    · exact fo 3
    · refine padF_ok fun a ha => ?_
      obtain ⟨g, -, rfl⟩ := List.mem_map.1 ha
      unfold pF
      split <;> omega
theorem getD_ok {x : List Int} (h : ∀ a ∈ x, 0 ≤ a ∧ a < pF) (i : Nat) : 0 ≤ x.getD i 0 ∧ x.getD i 0 < pF := by
  rw [List.getD_eq_getElem?_getD]
  cases hx : x[i]? with
  | none => exact ⟨Int.le_refl _, by decide⟩
  | some a => exact h a (List.mem_of_getElem? hx)
theorem table_val {cols : List (List Int)} (h : ColsOk cols) : tableF cols = (tabTo 8 8 cols 5, 0) := by
  have h0 : headLen cols = 8 := by
    unfold headLen
    have h5 := h.five
    cases cols with
    | nil => simp at h5
    | cons x r => exact h.eight x (by simp)
  have hb : cols.any (badCol 8) = false := by
    rw [List.any_eq_false]
    intro x hx
    have h1 := h.eight x hx
    have h2 := h.ok x hx
    unfold badCol
    simp [h1]
    unfold badC
    rw [List.any_eq_false]
    intro a ha
    have h3 := h2 a ha
    unfold pF at h3
    unfold okB
    simp
    omega
  unfold tableF tabOk
  rw [h0, h.five, hb]
  rfl
theorem tab_ok {cols : List (List Int)} (h : ColsOk cols) : ∀ a ∈ tabTo 8 8 cols 5, 0 ≤ a ∧ a < pF := fun a ha => by
  obtain ⟨p, hp, he⟩ := List.getElem_of_mem ha
  have hp64 : p < 64 := by rw [tabTo_len] at hp; exact hp
  have e : a = (tabTo 8 8 cols 5).getD p 0 := by rw [List.getD_eq_getElem?_getD, List.getElem?_eq_getElem hp, he]; rfl
  rw [e, tab8_get cols 5 p (by omega) hp64]
  split
  · refine getD_ok ?_ _
    rw [List.getD_eq_getElem?_getD]
    cases hx : cols[p % 8]? with
    | none => intro a ha; cases ha
    | some x => exact h.ok x (List.mem_of_getElem? hx)
  · exact ⟨Int.le_refl _, by decide⟩
theorem colsN {s : Str} {cols : List (List Int)} {n nl ng : Nat} {A B : Option Addr} {c d : Nat} {S U : Nat → Prop} (hc : columnsF s 3 = cols) (hn : cols.length = n) (hnl : s.l.length = nl) (hng : s.g.length = ng) (w : World) (he : checkF s.l.length 3 = 0) (h : Sl rdE S w A c s.l) (k : Sl .bool U w B d s.g) (ok : OkStr s) :
    Calls Try.prog 6 #[.agg #[.slice A nl c, .slice B ng d], .int .i64 3] w fun e w' => ∃ A c, e = .returned (.tuple #[.slice A n c, .int .i64 0]) ∧ Sl Enc.u64.slice (fun b => w.heap.size ≤ b) w' A c cols ∧ Below w.heap.size w w' := by
  subst hc; subst hn; subst hnl; subst hng
  exact columnsP_ok w he (h.sub (T := fun _ => True) (fun _ _ _ => trivial)) (k.sub (fun _ _ _ => trivial)) ok
theorem tableN {cols : List (List Int)} {t : List Int} {n m : Nat} {A : Option Addr} {c : Nat} {S : Nat → Prop} (hn : cols.length = n) (hm : t.length = m) (hv : tableF cols = (t, 0)) (h8 : headLen cols ≤ 8) (w : World) (h : Sl Enc.u64.slice S w A c cols) :
    Calls Try.prog 7 #[.slice A n c] w fun e w' => ∃ A c, e = .returned (.tuple #[.slice A m c, .int .i64 0]) ∧ Sl .u64 (fun b => w.heap.size ≤ b) w' A c t ∧ Below w.heap.size w w' := by
  subst hn; subst hm
  have := tableP w h h8
  rw [hv] at this
  exact this
def teW14 : List FRow := [(0, ([], (57, [12]))), (1, ([], (58, [13]))), (2, ([], (59, [11]))), (3, ([2], (60, [58]))), (4, ([1, 3], (61, [57, 59]))), (5, ([], (62, [7]))), (6, ([], (63, [13]))), (7, ([5, 6], (64, [61, 62]))), (8, ([7], (65, [63]))), (9, ([8, 4], (66, [64]))), (10, ([], (67, [11]))), (11, ([10], (68, [66]))), (12, ([9, 11, 9], (69, [65, 67]))), (13, ([4, 12, 12], (70, [60, 68]))), (14, ([0, 13, 13], (71, [56, 69]))), (15, ([14, 14, 0, 1, 2, 3, 4, 5, 6, 7, 8, 9, 10, 11, 12, 13, 14], (0, [12, 70])))]
def teW15 : List FRow := [(0, ([], (72, [5]))), (1, ([0], (73, [71]))), (2, ([1], (74, [9, 72]))), (3, ([2, 1, 1], (75, [73, 72]))), (4, ([1], (76, [11, 72]))), (5, ([3, 4, 3, 1], (77, [74, 75, 72]))), (6, ([1], (78, [12, 72]))), (7, ([5, 6, 1], (79, [76, 77, 72]))), (8, ([1, 7], (80, [72, 78]))), (9, ([8, 5, 0, 1, 2, 3, 4, 5, 6, 7, 8], (5, [79])))]
set_option maxRecDepth 100000 in
set_option maxHeartbeats 8000000 in
theorem walk_ReadingTableExtension {l : List ROp} {pp : List ZQ} {A B : Option Addr} {c d : Nat} (w : World) (h : Sl ropE (fun _ => True) w A c l) (k : Sl rawX (fun _ => True) w B d pp) :
    Calls Try.prog 3 #[.slice A l.length c, .slice B pp.length d] w fun e w' => e = .returned (.bool true) ∧ Below w.heap.size w w' := by
  have HA := Lib.hid h
  have HP := Lib.hid k
  clear h k
  go_enter Try.func3, Try.ntmps3
  go_upto_region 2 with (go_at_call 4; refine (sanityR _).mono ?_; rintro e w1 ⟨rfl, hb1⟩; have b1 := Lib.hid hb1; have HA1 := Lib.hid (HA.out.keep (Below.agree hb1)); have HP1 := Lib.hid (HP.out.keep (Below.agree hb1)); clear hb1)
  obtain ⟨s, hs⟩ : ∃ s, madeF 8 l = s := ⟨_, rfl⟩
  have hok := madeF_ok 8 l
  rw [hs] at hok
  have HMS := Lib.hid hs
  have HOK := Lib.hid hok.1
  have hl8 := hok.2
  have HCK := Lib.hid (show checkF s.l.length 3 = 0 by unfold checkF; rw [if_neg (by omega), if_neg (by show ¬ 2 ^ 3 < s.l.length; omega)])
  obtain ⟨cols, hcols⟩ : ∃ cols, columnsF s 3 = cols := ⟨_, rfl⟩
  have hco := cols_ok hok.1 hl8
  rw [hcols] at hco
  have HCO := Lib.hid hco
  have HCS := Lib.hid hcols
  clear hs hok hco hcols HA HP
  go_cut [6] (fun p wx => ∃ (g : Nat) (L : Option Addr) (cl : Nat) (G : Option Addr) (cg : Nat), p = .pointer (some ⟨g, 0, none⟩) ∧ Hid (wx.heap[g]? = some (.cells #[.slice L s.l.length cl, .slice G s.g.length cg] 28 (0, 0))) ∧ Sl rdE (fun _ => True) wx L cl s.l ∧ Sl .bool (fun _ => True) wx G cg s.g ∧ Below w1.heap.size w1 wx)
  case first =>
    go_wp2_with (go_at_call 5; refine (madeR (most := 8) (l := l) _ HA1.out (by omega)).mono ?_; rw [HMS.out]; rintro e wC ⟨A', c', B', d', rfl, h1, h2, hbC⟩; have H1 := Lib.hid h1; have H2 := Lib.hid h2; have bC := Lib.hid hbC; clear h1 h2 hbC)
    go_meet
    case rel => exact ⟨_, A', c', B', d', rfl, Lib.hid (heap_alloc_at rfl), (H1.out.sub (fun _ _ _ => trivial)).keep ((Agree.refl _ _).alloc _), (H2.out.sub (fun _ _ _ => trivial)).keep ((Agree.refl _ _).alloc _), bC.out.alloc bC.out.size _⟩
  obtain ⟨g, L, cl, G, cg, rfl, gs, hL, hG, hb⟩ := hcut
  obtain ⟨w2, hwv⟩ : ∃ x, x = wc := ⟨_, rfl⟩
  subst hwv
  have HL := Lib.hid hL
  have HG := Lib.hid hG
  have b2 := Lib.hid (b1.out.trans (hb.mono b1.out.size))
  have HP2 := Lib.hid (HP1.out.keep (Below.agree hb))
  clear hL hG hb b1 HP1 HA1
  obtain ⟨s0, s1, -⟩ := pair2 gs
  go_upto_region 3 with fail
  go_cut [7, 8] (fun v e wx => ∃ A c, v = .slice A 5 c ∧ e = .int .i64 0 ∧ Sl Enc.u64.slice (fun _ => True) wx A c cols ∧ Below w2.heap.size w2 wx)
  case first =>
    go_wp2_with (go_at_call 6; refine (colsN (s := s) HCS.out HCO.out.five rfl rfl _ HCK.out HL.out HG.out HOK.out).mono ?_; rintro e wC ⟨A', c', rfl, h1, hbC⟩; have H1 := Lib.hid h1; have bC := Lib.hid hbC; clear h1 hbC)
    go_meet
    case rel => exact ⟨_, _, rfl, rfl, H1.out.sub (fun _ _ _ => trivial), bC.out⟩
  obtain ⟨AC, cc, rfl, rfl, hC, hb⟩ := hcut
  obtain ⟨w3, hwv⟩ : ∃ x, x = wc := ⟨_, rfl⟩
  subst hwv
  have HC := Lib.hid hC
  have b3 := Lib.hid (b2.out.trans (hb.mono b2.out.size))
  have HP3 := Lib.hid (HP2.out.keep (Below.agree hb))
  clear hC hb b2 HP2 HL HG gs s0 s1
  obtain ⟨tb, htb⟩ : ∃ tb, tabTo 8 8 cols 5 = tb := ⟨_, rfl⟩
  have HTV := Lib.hid (show tableF cols = (tb, 0) by rw [table_val HCO.out, htb])
  have HTL := Lib.hid (show tb.length = 64 by rw [← htb, tabTo_len])
  have HTO := Lib.hid (show ∀ a ∈ tb, 0 ≤ a ∧ a < pF by rw [← htb]; exact tab_ok HCO.out)
  have HTB := Lib.hid htb
  have HH8 := Lib.hid (show headLen cols ≤ 8 by
    unfold headLen
    have h5 := HCO.out.five
    cases hcc : cols with
    | nil => rw [hcc] at h5; simp at h5
    | cons x r => have := HCO.out.eight x (by rw [hcc]; simp); simp [this])
  clear htb
  go_upto_region 4 with fail
  go_cut [9, 10] (fun v e wx => ∃ A c, v = .slice A 64 c ∧ e = .int .i64 0 ∧ Sl .u64 (fun _ => True) wx A c tb ∧ Below w3.heap.size w3 wx)
  case first =>
    go_wp2_with (go_at_call 7; refine (tableN HCO.out.five HTL.out HTV.out HH8.out _ HC.out).mono ?_; rintro e wC ⟨A', c', rfl, h1, hbC⟩; have H1 := Lib.hid h1; have bC := Lib.hid hbC; clear h1 hbC)
    go_meet
    case rel => exact ⟨_, _, rfl, rfl, H1.out.sub (fun _ _ _ => trivial), bC.out⟩
  obtain ⟨AT, ct, rfl, rfl, hT, hb⟩ := hcut
  obtain ⟨w4, hwv⟩ : ∃ x, x = wc := ⟨_, rfl⟩
  subst hwv
  have HT := Lib.hid hT
  have b4 := Lib.hid (b3.out.trans (hb.mono b3.out.size))
  have HP4 := Lib.hid (HP3.out.keep (Below.agree hb))
  have HC4 := Lib.hid (HC.out.keep (Below.agree hb))
  clear hT hb b3 HP3 HC
  go_upto_region 7 with fail
  go_cut [11] (fun v wx => ∃ (ps : List ZQ) (A : Option Addr) (c : Nat), v = .slice A 6 c ∧ ps.length = 6 ∧ Sl extE (fun _ => True) wx A c ps ∧ Below w4.heap.size w4 wx)
  case first =>
    go_wp2_with (go_at_call 8; refine (exactP (n := 6) _ (by decide) HP4.out).mono ?_; rintro e wC ⟨ps, A', c', rfl, h0, h1, hbC⟩; have H0 := Lib.hid h0; have H1 := Lib.hid h1; have bC := Lib.hid hbC; clear h0 h1 hbC)
    go_meet
    case rel => exact ⟨ps, _, _, rfl, H0.out, H1.out.sub (fun _ _ _ => trivial), bC.out⟩
  obtain ⟨ps, AP, cp, rfl, hp6, hPS, hb⟩ := hcut
  obtain ⟨w5, hwv⟩ : ∃ x, x = wc := ⟨_, rfl⟩
  subst hwv
  have HP6 := Lib.hid hp6
  have HPS := Lib.hid hPS
  have b5 := Lib.hid (b4.out.trans (hb.mono b4.out.size))
  have HC5 := Lib.hid (HC4.out.keep (Below.agree hb))
  have HT5 := Lib.hid (HT.out.keep (Below.agree hb))
  clear hPS hp6 hb b4 HC4 HT HP4
  obtain ⟨F, hF⟩ : ∃ F, (fun k => (eqI k (ps.take 3)).mul (evalTo (liftF (cols.getD k [])) (ps.drop 3) 8)) = F := ⟨_, rfl⟩
  have HF := Lib.hid hF
  clear hF
  go_upto_region 9 with fail
  refine wp_world (F := fun wx => Hid (Below w5.heap.size w5 wx) ∧ Hid (wx.heap[w5.heap.size]? = some (.cells #[.int .u64 0, .int .u64 0] 40 (0, 0)))) ⟨Lib.hid (by repeat' (first | with_reducible exact Below.refl _ _ | with_reducible assumption | with_reducible refine Below.setCell ?_ ?_ _ | with_reducible refine Below.drew ?_ | with_reducible refine below_drewN ?_ _ | with_reducible refine Below.alloc ?_ ?_ _ | (rintro _ ⟨⟩; simp <;> omega) | omega | (simp <;> omega))), Lib.hid (heap_alloc_at rfl)⟩ ?_
  rintro w6 ⟨b6, R6⟩
  obtain ⟨go, hgo⟩ : ∃ g, g = w5.heap.size := ⟨_, rfl⟩
  rw [← hgo] at R6 ⊢
  have hgo' : w5.heap.size ≤ go := by omega
  clear hgo
  have HC6 := Lib.hid (HC5.out.old.keep (Below.agree b6.out))
  have HT6 := Lib.hid (HT5.out.old.keep (Below.agree b6.out))
  have HPS6 := Lib.hid (HPS.out.old.keep (Below.agree b6.out))
  obtain ⟨p0, hp0⟩ : ∃ p, ps[0]? = some p := ⟨_, List.getElem?_eq_getElem (by rw [HP6.out]; decide)⟩
  obtain ⟨bp, op_, rfl, -, -, -, -⟩ := ext_at HPS6.out hp0
  have hcp := HPS6.out.le
  have hcm := HPS6.out.capMax
  rw [HP6.out] at hcp
  have hcp3 : (3 : Int) ≤ (cp : Int) := by omega
  have hc3 : (cp = 3) = False := by simp; omega
  clear hp0 HPS
  go_wp2_with fail
  go_loopw [13] (fun i wr => ∃ j : Nat, j ≤ 5 ∧ i = .int .i64 j ∧ Hid (Gk go w6 wr) ∧ Hid (wr.heap[go]? = some (.cells #[.int .u64 ((sumQ F j).u % pF), .int .u64 ((sumQ F j).v % pF)] 40 (0, 0)))) (fun i _ => 5 - (intOf i).toNat)
  case atStart => exact ⟨0, Nat.zero_le _, rfl, Lib.hid (Gk.refl _ _), R6⟩
  case round =>
    obtain ⟨j, hj, rfl, HGr, HE⟩ := hrel
    have hj0 : (0 : Int) ≤ (j : Int) := by omega
    have lg := heap_lt HE.out
    have HCr := Lib.hid (HGr.out.slKeep HC6.out (fun h => by have := h.2; omega))
    have HPr := Lib.hid (HGr.out.slKeep HPS6.out (fun h => by have := h.2; omega))
    by_cases hlt : j < 5
    · have hj1 : (j : Int) < 5 := by omega
      obtain ⟨x, hx⟩ : ∃ x, cols[j]? = some x := ⟨_, List.getElem?_eq_getElem (by rw [HCO.out.five]; exact hlt)⟩
      obtain ⟨b1, o1, B1, d1, rfl, ⟨-, hb1⟩, l1, x0, hs1⟩ := col_at HCr.out hx
      have hx8 := HCO.out.eight x (List.mem_of_getElem? hx)
      rw [hx8] at x0
      have HX8 := Lib.hid hx8
      have HXO := Lib.hid (HCO.out.ok x (List.mem_of_getElem? hx))
      have HSX := Lib.hid hs1
      have HXD := Lib.hid (show cols.getD j [] = x by rw [List.getD_eq_getElem?_getD, hx]; rfl)
      clear hx hx8 hs1
      go_upto_region 14 with fail
      have zx : ∀ W, Gk go wr W → W.cell? ⟨b1, o1 + j, none⟩ = some (.slice B1 8 d1) := fun W hW => hW.cell_ x0 l1 (by omega)
      obtain ⟨y1, hy1⟩ : ∃ y, eqI j (ps.take 3) = y := ⟨_, rfl⟩
      obtain ⟨y2, hy2⟩ : ∃ y, evalTo (liftF x) (ps.drop 3) 8 = y := ⟨_, rfl⟩
      obtain ⟨q, hq⟩ : ∃ q, sumQ F j = q := ⟨_, rfl⟩
      have hstep : sumQ F (j + 1) = q.add (y1.mul y2) := by
        show (sumQ F j).add (F j) = _
        rw [hq, ← HF.out]
        dsimp only
        rw [HXD.out, hy1, hy2]
      rw [hq] at HE
      obtain ⟨e0, e1, -⟩ := pair2 HE
      obtain ⟨m1, hm1⟩ : ∃ r, y1.u % pF = r := ⟨_, rfl⟩
      have M1 := Lib.hid hm1
      clear hm1
      obtain ⟨n1, hn1⟩ : ∃ r, y1.v % pF = r := ⟨_, rfl⟩
      have N1 := Lib.hid hn1
      clear hn1
      obtain ⟨m2, hm2⟩ : ∃ r, y2.u % pF = r := ⟨_, rfl⟩
      have M2 := Lib.hid hm2
      clear hm2
      obtain ⟨n2, hn2⟩ : ∃ r, y2.v % pF = r := ⟨_, rfl⟩
      have N2 := Lib.hid hn2
      clear hn2
      obtain ⟨m3, hm3⟩ : ∃ r, (y1.mul y2).u % pF = r := ⟨_, rfl⟩
      have M3 := Lib.hid hm3
      clear hm3
      obtain ⟨n3, hn3⟩ : ∃ r, (y1.mul y2).v % pF = r := ⟨_, rfl⟩
      have N3 := Lib.hid hn3
      clear hn3
      obtain ⟨r, hr⟩ : ∃ r, (q.add (y1.mul y2)).u % pF = r := ⟨_, rfl⟩
      have HR := Lib.hid hr
      clear hr
      obtain ⟨s, hs⟩ : ∃ r, (q.add (y1.mul y2)).v % pF = r := ⟨_, rfl⟩
      have HS := Lib.hid hs
      clear hs
      have HY1 := Lib.hid (show (eqI j (ps.take 3)).u % pF = m1 by rw [hy1]; exact M1.out)
      have HY2 := Lib.hid (show (eqI j (ps.take 3)).v % pF = n1 by rw [hy1]; exact N1.out)
      have HY3 := Lib.hid hy2
      have HST := Lib.hid hstep
      have hj20 : j < 1048576 := by omega
      have HT3 := Lib.hid (show (ps.take 3).length = 3 by rw [List.length_take, HP6.out]; rfl)
      have HD3 := Lib.hid (show (ps.drop 3).length = 3 by rw [List.length_drop, HP6.out])
      have hcd : (cp : Int) - 3 = ((cp - 3 : Nat) : Int) := by omega
      have hdrop := HPr.out.drop (k := 3) (by rw [HP6.out]; decide)
      rw [if_neg (by omega)] at hdrop
      have HDR := Lib.hid (show Sl extE _ wr (some ⟨bp, op_ + 6, none⟩) (cp - 3) (ps.drop 3) from hdrop)
      have HTK := Lib.hid (HPr.out.take 3)
      clear hstep hq hy1 hy2 x0 hdrop
      refine wp_region_noPanic ?_
      refine wp_region_held_drew (S := fun X => Gk go wr X) (by kernel_rfl) ?_ (fun hHeld => ?_)
      · (first | (repeat' (first | with_reducible assumption | with_reducible exact Gk.refl _ _ | with_reducible refine Gk.drew ?_ | with_reducible refine Gk.set ?_ _ _ | with_reducible refine Gk.alloc ?_ _ | with_reducible refine Gk.call ?_ (by assumption))) | (first | with_reducible assumption | (with_reducible refine Below.drew ?_; with_reducible assumption) | (with_reducible refine ba _ _ ?_; with_reducible assumption) | (with_reducible refine Below.drew ?_; with_reducible refine ba _ _ ?_; with_reducible assumption) | exact Below.refl _ _ | exact (Below.refl _ _).drew | exact (Below.refl _ _).alloc (Nat.le_refl _) _ | (refine bc _ _ (by assumption) (by assumption))))
      refine RegOk.begin_ (n := 16) (T := teW14) ⟨by kernel_rfl, by kernel_rfl, by kernel_rfl, by kernel_rfl⟩ fun hR => ?_
      refine hR.take (i := 1) (oi := ?ow104_1) (v := ?vw104_1) (m' := 2) ?hw104_1 (by kernel_rfl) (by kernel_rfl) (fun _ _ _ h => h) (Or.inl ⟨?sw104_1, ?yw104_1⟩) (by assumption) ?nw104_1
      case hw104_1 => simp only [List.getElem?_toArray, List.getElem?_cons_succ, List.getElem?_cons_zero]; rfl
      case sw104_1 => rfl
      case yw104_1 => (intro w hSw; (try dsimp only at hSw); go_simp <;> with_reducible rfl)
      try simp only [Act.put, List.setIfInBounds_toArray, List.set_cons_zero, List.set_cons_succ]
      refine hR.take (i := 2) (oi := ?ow105_2) (v := ?vw105_2) (m' := 6) ?hw105_2 (by kernel_rfl) (by kernel_rfl) (fun _ _ _ h => h) (Or.inl ⟨?sw105_2, ?yw105_2⟩) (by assumption) ?nw105_2
      case hw105_2 => simp only [List.getElem?_toArray, List.getElem?_cons_succ, List.getElem?_cons_zero]; rfl
      case sw105_2 => rfl
      case yw105_2 => (intro w hSw; (try dsimp only at hSw); go_simp <;> with_reducible rfl)
      try simp only [Act.put, List.setIfInBounds_toArray, List.set_cons_zero, List.set_cons_succ]
      refine hR.take (i := 3) (oi := ?ow106_3) (v := ?vw106_3) (m' := 14) ?hw106_3 (by kernel_rfl) (by kernel_rfl) (fun _ _ _ h => h) (Or.inl ⟨?sw106_3, ?yw106_3⟩) (by assumption) ?nw106_3
      case hw106_3 => simp only [List.getElem?_toArray, List.getElem?_cons_succ, List.getElem?_cons_zero]; rfl
      case sw106_3 => rfl
      case yw106_3 => (intro w hSw; (try dsimp only at hSw); go_simp <;> with_reducible rfl)
      try simp only [Act.put, List.setIfInBounds_toArray, List.set_cons_zero, List.set_cons_succ]
      refine hR.take (i := 5) (oi := ?ow107_5) (v := ?vw107_5) (m' := 46) ?hw107_5 (by kernel_rfl) (by kernel_rfl) (fun _ _ _ h => h) (Or.inl ⟨?sw107_5, ?yw107_5⟩) (by assumption) ?nw107_5
      case hw107_5 => simp only [List.getElem?_toArray, List.getElem?_cons_succ, List.getElem?_cons_zero]; rfl
      case sw107_5 => rfl
      case yw107_5 => (intro w hSw; (try dsimp only at hSw); go_simp <;> with_reducible rfl)
      try simp only [Act.put, List.setIfInBounds_toArray, List.set_cons_zero, List.set_cons_succ]
      refine hR.take (i := 6) (oi := ?ow108_6) (v := ?vw108_6) (m' := 110) ?hw108_6 (by kernel_rfl) (by kernel_rfl) (fun _ _ _ h => h) (Or.inl ⟨?sw108_6, ?yw108_6⟩) (by assumption) ?nw108_6
      case hw108_6 => simp only [List.getElem?_toArray, List.getElem?_cons_succ, List.getElem?_cons_zero]; rfl
      case sw108_6 => rfl
      case yw108_6 => (intro w hSw; (try dsimp only at hSw); go_simp <;> with_reducible rfl)
      try simp only [Act.put, List.setIfInBounds_toArray, List.set_cons_zero, List.set_cons_succ]
      refine hR.take (i := 7) (oi := ?ow109_7) (v := ?vw109_7) (m' := 238) ?hw109_7 (by kernel_rfl) (by kernel_rfl) (fun _ _ _ h => h) (Or.inl ⟨?sw109_7, ?yw109_7⟩) (by assumption) ?nw109_7
      case hw109_7 => simp only [List.getElem?_toArray, List.getElem?_cons_succ, List.getElem?_cons_zero]; rfl
      case sw109_7 => rfl
      case yw109_7 => (intro w hSw; (try dsimp only at hSw); go_simp <;> with_reducible rfl)
      try simp only [Act.put, List.setIfInBounds_toArray, List.set_cons_zero, List.set_cons_succ]
      refine hR.take (i := 8) (oi := ?ow110_8) (v := ?vw110_8) (m' := 494) ?hw110_8 (by kernel_rfl) (by kernel_rfl) (fun _ _ _ h => h) (Or.inl ⟨?sw110_8, ?yw110_8⟩) (by assumption) ?nw110_8
      case hw110_8 => simp only [List.getElem?_toArray, List.getElem?_cons_succ, List.getElem?_cons_zero]; rfl
      case sw110_8 => rfl
      case yw110_8 => (intro w hSw; (try dsimp only at hSw); go_simp <;> with_reducible rfl)
      try simp only [Act.put, List.setIfInBounds_toArray, List.set_cons_zero, List.set_cons_succ]
      refine hR.take (i := 10) (oi := ?ow111_10) (v := ?vw111_10) (m' := 1518) ?hw111_10 (by kernel_rfl) (by kernel_rfl) (fun _ _ _ h => h) (Or.inl ⟨?sw111_10, ?yw111_10⟩) (by assumption) ?nw111_10
      case hw111_10 => simp only [List.getElem?_toArray, List.getElem?_cons_succ, List.getElem?_cons_zero]; rfl
      case sw111_10 => rfl
      case yw111_10 => (intro w hSw; (try dsimp only at hSw); go_simp <;> with_reducible rfl)
      try simp only [Act.put, List.setIfInBounds_toArray, List.set_cons_zero, List.set_cons_succ]
      refine hR.take (i := 11) (oi := ?ow112_11) (v := ?vw112_11) (m' := 3566) ?hw112_11 (by kernel_rfl) (by kernel_rfl) (fun _ _ _ h => h) (Or.inl ⟨?sw112_11, ?yw112_11⟩) (by assumption) ?nw112_11
      case hw112_11 => simp only [List.getElem?_toArray, List.getElem?_cons_succ, List.getElem?_cons_zero]; rfl
      case sw112_11 => rfl
      case yw112_11 => (intro w hSw; (try dsimp only at hSw); go_simp <;> with_reducible rfl)
      try simp only [Act.put, List.setIfInBounds_toArray, List.set_cons_zero, List.set_cons_succ]
      refine hR.come (rs := [0, 4]) (by kernel_rfl) (by simp) ?_
      refine AllReadyH.cons (o := ?o113_0) ?h113_0 (fun K hK => ?kw113_0) (AllReadyH.cons (o := ?o113_4) ?h113_4 (fun K hK => ?kw113_4) AllReadyH.nil)
      case h113_0 => simp only [List.getElem?_toArray, List.getElem?_cons_succ, List.getElem?_cons_zero]; rfl
      case h113_4 => simp only [List.getElem?_toArray, List.getElem?_cons_succ, List.getElem?_cons_zero]; rfl
      case kw113_0 =>
        go_simp <;> (try go_wp2_with fail)
        refine hK.out _ _ ?_ (fun hHeld => ?_)
        · (first | (repeat' (first | with_reducible assumption | with_reducible exact Gk.refl _ _ | with_reducible refine Gk.drew ?_ | with_reducible refine Gk.set ?_ _ _ | with_reducible refine Gk.alloc ?_ _ | with_reducible refine Gk.call ?_ (by assumption))) | (first | with_reducible assumption | (with_reducible refine Below.drew ?_; with_reducible assumption) | (with_reducible refine ba _ _ ?_; with_reducible assumption) | (with_reducible refine Below.drew ?_; with_reducible refine ba _ _ ?_; with_reducible assumption) | exact Below.refl _ _ | exact (Below.refl _ _).drew | exact (Below.refl _ _).alloc (Nat.le_refl _) _ | (refine bc _ _ (by assumption) (by assumption))))
        clear hK K
        refine RegOk.put_ (m' := 3567) (by kernel_rfl) ?_
        try simp only [Act.put, List.setIfInBounds_toArray, List.set_cons_zero, List.set_cons_succ]
        refine hR.come (rs := [4]) (by kernel_rfl) (by simp) ?_
        refine AllReadyH.cons (o := ?o114_4) ?h114_4 (fun K hK => ?kw114_4) AllReadyH.nil
        case h114_4 => simp only [List.getElem?_toArray, List.getElem?_cons_succ, List.getElem?_cons_zero]; rfl
        go_simp
        go_at_call 11; (with_reducible refine (eqIP (i := j) (ps := ps.take 3) (n := 3) _ hj20 HT3.out (by decide) HTK.out.drew HY1.out HY2.out).mono ?_); rintro e wA ⟨rfl, hbA⟩; have hA : Below wr.heap.size wr wA := (Below.refl _ _).drew.trans hbA; have gA : Gk go wr wA := Gk.ofBelow hA; obtain ⟨a0, a1, -⟩ := pair2 (mvQ HE hA)
        refine hK.out _ _ ?_ (fun hHeld => ?_)
        · (first | (repeat' (first | with_reducible assumption | with_reducible exact Gk.refl _ _ | with_reducible refine Gk.drew ?_ | with_reducible refine Gk.set ?_ _ _ | with_reducible refine Gk.alloc ?_ _ | with_reducible refine Gk.call ?_ (by assumption))) | (first | with_reducible assumption | (with_reducible refine Below.drew ?_; with_reducible assumption) | (with_reducible refine ba _ _ ?_; with_reducible assumption) | (with_reducible refine Below.drew ?_; with_reducible refine ba _ _ ?_; with_reducible assumption) | exact Below.refl _ _ | exact (Below.refl _ _).drew | exact (Below.refl _ _).alloc (Nat.le_refl _) _ | (refine bc _ _ (by assumption) (by assumption))))
        clear hK K
        refine RegOk.put_ (m' := 3583) (by kernel_rfl) ?_
        try simp only [Act.put, List.setIfInBounds_toArray, List.set_cons_zero, List.set_cons_succ]
        refine hR.come (rs := [9]) (by kernel_rfl) (by simp) ?_
        refine AllReadyH.cons (o := ?o115_9) ?h115_9 (fun K hK => ?kw115_9) AllReadyH.nil
        case h115_9 => simp only [List.getElem?_toArray, List.getElem?_cons_succ, List.getElem?_cons_zero]; rfl
        go_simp
        go_at_call 13; (with_reducible refine (liftP (l := x) (n := 8) _ HX8.out (by decide) (HSX.out.keep (Below.agree hA)) HXO.out).mono ?_); rintro e wB ⟨AB, cB, rfl, hsB, hbB⟩; have HSB := Lib.hid hsB; have hB := hA.trans (hbB.mono hA.size); have gB : Gk go wr wB := Gk.ofBelow hB; obtain ⟨a0', a1', -⟩ := pair2 (mvQ HE hB)
        refine hK.out _ _ ?_ (fun hHeld => ?_)
        · (first | (repeat' (first | with_reducible assumption | with_reducible exact Gk.refl _ _ | with_reducible refine Gk.drew ?_ | with_reducible refine Gk.set ?_ _ _ | with_reducible refine Gk.alloc ?_ _ | with_reducible refine Gk.call ?_ (by assumption))) | (first | with_reducible assumption | (with_reducible refine Below.drew ?_; with_reducible assumption) | (with_reducible refine ba _ _ ?_; with_reducible assumption) | (with_reducible refine Below.drew ?_; with_reducible refine ba _ _ ?_; with_reducible assumption) | exact Below.refl _ _ | exact (Below.refl _ _).drew | exact (Below.refl _ _).alloc (Nat.le_refl _) _ | (refine bc _ _ (by assumption) (by assumption))))
        clear hK K
        refine RegOk.put_ (m' := 4095) (by kernel_rfl) ?_
        try simp only [Act.put, List.setIfInBounds_toArray, List.set_cons_zero, List.set_cons_succ]
        refine hR.come (rs := [12]) (by kernel_rfl) (by simp) ?_
        refine AllReadyH.cons (o := ?o116_12) ?h116_12 (fun K hK => ?kw116_12) AllReadyH.nil
        case h116_12 => simp only [List.getElem?_toArray, List.getElem?_cons_succ, List.getElem?_cons_zero]; rfl
        go_simp
        go_at_call 12; (with_reducible refine (evalP (ts := liftF x) (ps := ps.drop 3) (nt := 8) (np := 3) _ (by rw [liftF_len]; exact HX8.out) HD3.out (by decide) (by decide) HSB.out (HDR.out.keep (Below.agree hB))).mono ?_); rw [HY3.out, M2.out, N2.out]; rintro e wC ⟨rfl, hbC⟩; have hC := hB.trans (hbC.mono hB.size); have gC : Gk go wr wC := Gk.ofBelow hC; obtain ⟨c0', c1', -⟩ := pair2 (mvQ HE hC)
        refine hK.out _ _ ?_ (fun hHeld => ?_)
        · (first | (repeat' (first | with_reducible assumption | with_reducible exact Gk.refl _ _ | with_reducible refine Gk.drew ?_ | with_reducible refine Gk.set ?_ _ _ | with_reducible refine Gk.alloc ?_ _ | with_reducible refine Gk.call ?_ (by assumption))) | (first | with_reducible assumption | (with_reducible refine Below.drew ?_; with_reducible assumption) | (with_reducible refine ba _ _ ?_; with_reducible assumption) | (with_reducible refine Below.drew ?_; with_reducible refine ba _ _ ?_; with_reducible assumption) | exact Below.refl _ _ | exact (Below.refl _ _).drew | exact (Below.refl _ _).alloc (Nat.le_refl _) _ | (refine bc _ _ (by assumption) (by assumption))))
        clear hK K
        refine RegOk.put_ (m' := 8191) (by kernel_rfl) ?_
        try simp only [Act.put, List.setIfInBounds_toArray, List.set_cons_zero, List.set_cons_succ]
        refine hR.come (rs := [13]) (by kernel_rfl) (by simp) ?_
        refine AllReadyH.cons (o := ?o117_13) ?h117_13 (fun K hK => ?kw117_13) AllReadyH.nil
        case h117_13 => simp only [List.getElem?_toArray, List.getElem?_cons_succ, List.getElem?_cons_zero]; rfl
        go_simp
        go_at_call 10; (with_reducible refine (mulN (x := y1) (y := y2) M1.out N1.out M2.out N2.out M3.out N3.out _).mono ?_); rintro e wD ⟨rfl, hbD⟩; have hD := hC.trans (hbD.mono hC.size); have gD : Gk go wr wD := Gk.ofBelow hD; obtain ⟨d0', d1', -⟩ := pair2 (mvQ HE hD)
        refine hK.out _ _ ?_ (fun hHeld => ?_)
        · (first | (repeat' (first | with_reducible assumption | with_reducible exact Gk.refl _ _ | with_reducible refine Gk.drew ?_ | with_reducible refine Gk.set ?_ _ _ | with_reducible refine Gk.alloc ?_ _ | with_reducible refine Gk.call ?_ (by assumption))) | (first | with_reducible assumption | (with_reducible refine Below.drew ?_; with_reducible assumption) | (with_reducible refine ba _ _ ?_; with_reducible assumption) | (with_reducible refine Below.drew ?_; with_reducible refine ba _ _ ?_; with_reducible assumption) | exact Below.refl _ _ | exact (Below.refl _ _).drew | exact (Below.refl _ _).alloc (Nat.le_refl _) _ | (refine bc _ _ (by assumption) (by assumption))))
        clear hK K
        refine RegOk.put_ (m' := 16383) (by kernel_rfl) ?_
        try simp only [Act.put, List.setIfInBounds_toArray, List.set_cons_zero, List.set_cons_succ]
        refine hR.come (rs := [14]) (by kernel_rfl) (by simp) ?_
        refine AllReadyH.cons (o := ?o118_14) ?h118_14 (fun K hK => ?kw118_14) AllReadyH.nil
        case h118_14 => simp only [List.getElem?_toArray, List.getElem?_cons_succ, List.getElem?_cons_zero]; rfl
        go_simp
        go_at_call 9; (with_reducible refine (addN (x := q) (y := y1.mul y2) rfl rfl M3.out N3.out HR.out HS.out _).mono ?_); rintro e wE ⟨rfl, hbE⟩; have hE := hD.trans (hbE.mono hD.size); have gE : Gk go wr wE := Gk.ofBelow hE; have RB := mvQ HE hE; obtain ⟨f0, f1, lb⟩ := pair2 RB; have fb := frzX RB
        refine hK.out _ _ ?_ (fun hHeld => ?_)
        · (first | (repeat' (first | with_reducible assumption | with_reducible exact Gk.refl _ _ | with_reducible refine Gk.drew ?_ | with_reducible refine Gk.set ?_ _ _ | with_reducible refine Gk.alloc ?_ _ | with_reducible refine Gk.call ?_ (by assumption))) | (first | with_reducible assumption | (with_reducible refine Below.drew ?_; with_reducible assumption) | (with_reducible refine ba _ _ ?_; with_reducible assumption) | (with_reducible refine Below.drew ?_; with_reducible refine ba _ _ ?_; with_reducible assumption) | exact Below.refl _ _ | exact (Below.refl _ _).drew | exact (Below.refl _ _).alloc (Nat.le_refl _) _ | (refine bc _ _ (by assumption) (by assumption))))
        clear hK K
        refine RegOk.put_ (m' := 32767) (by kernel_rfl) ?_
        try simp only [Act.put, List.setIfInBounds_toArray, List.set_cons_zero, List.set_cons_succ]
        refine hR.come (rs := [15]) (by kernel_rfl) (by simp) ?_
        refine AllReadyH.cons (o := ?o119_15) ?h119_15 (fun K hK => ?kw119_15) AllReadyH.nil
        case h119_15 => simp only [List.getElem?_toArray, List.getElem?_cons_succ, List.getElem?_cons_zero]; rfl
        go_simp <;> (try go_wp2_with fail)
        refine hK.out _ _ ?_ (fun hHeld => ?_)
        · (first | (repeat' (first | with_reducible assumption | with_reducible exact Gk.refl _ _ | with_reducible refine Gk.drew ?_ | with_reducible refine Gk.set ?_ _ _ | with_reducible refine Gk.alloc ?_ _ | with_reducible refine Gk.call ?_ (by assumption))) | (first | with_reducible assumption | (with_reducible refine Below.drew ?_; with_reducible assumption) | (with_reducible refine ba _ _ ?_; with_reducible assumption) | (with_reducible refine Below.drew ?_; with_reducible refine ba _ _ ?_; with_reducible assumption) | exact Below.refl _ _ | exact (Below.refl _ _).drew | exact (Below.refl _ _).alloc (Nat.le_refl _) _ | (refine bc _ _ (by assumption) (by assumption))))
        clear hK K
        refine RegOk.put_ (m' := 65535) (by kernel_rfl) ?_
        try simp only [Act.put, List.setIfInBounds_toArray, List.set_cons_zero, List.set_cons_succ]
        refine hR.all (by kernel_rfl) ?_ _
        refine NoPanic.normal ?_
        go_wp2_with fail
        go_roundw
        case rel =>
          refine ⟨j + 1, by omega, by go_num, Lib.hid (HGr.out.trans ?_), Lib.hid (by rw [HST.out, HR.out, HS.out]; exact setpair RB.out)⟩
          (repeat' (first | with_reducible assumption | with_reducible exact Gk.refl _ _ | with_reducible refine Gk.drew ?_ | with_reducible refine Gk.set ?_ _ _ | with_reducible refine Gk.alloc ?_ _ | with_reducible refine Gk.call ?_ (by assumption)))
        case measure => simp [intOf]; omega
      case kw113_4 =>
        go_simp
        go_at_call 11; (with_reducible refine (eqIP (i := j) (ps := ps.take 3) (n := 3) _ hj20 HT3.out (by decide) HTK.out.drew HY1.out HY2.out).mono ?_); rintro e wA ⟨rfl, hbA⟩; have hA : Below wr.heap.size wr wA := (Below.refl _ _).drew.trans hbA; have gA : Gk go wr wA := Gk.ofBelow hA; obtain ⟨a0, a1, -⟩ := pair2 (mvQ HE hA)
        refine hK.out _ _ ?_ (fun hHeld => ?_)
        · (first | (repeat' (first | with_reducible assumption | with_reducible exact Gk.refl _ _ | with_reducible refine Gk.drew ?_ | with_reducible refine Gk.set ?_ _ _ | with_reducible refine Gk.alloc ?_ _ | with_reducible refine Gk.call ?_ (by assumption))) | (first | with_reducible assumption | (with_reducible refine Below.drew ?_; with_reducible assumption) | (with_reducible refine ba _ _ ?_; with_reducible assumption) | (with_reducible refine Below.drew ?_; with_reducible refine ba _ _ ?_; with_reducible assumption) | exact Below.refl _ _ | exact (Below.refl _ _).drew | exact (Below.refl _ _).alloc (Nat.le_refl _) _ | (refine bc _ _ (by assumption) (by assumption))))
        clear hK K
        refine RegOk.put_ (m' := 3582) (by kernel_rfl) ?_
        try simp only [Act.put, List.setIfInBounds_toArray, List.set_cons_zero, List.set_cons_succ]
        refine hR.come (rs := [0, 9]) (by kernel_rfl) (by simp) ?_
        refine AllReadyH.cons (o := ?o120_0) ?h120_0 (fun K hK => ?kw120_0) (AllReadyH.cons (o := ?o120_9) ?h120_9 (fun K hK => ?kw120_9) AllReadyH.nil)
        case h120_0 => simp only [List.getElem?_toArray, List.getElem?_cons_succ, List.getElem?_cons_zero]; rfl
        case h120_9 => simp only [List.getElem?_toArray, List.getElem?_cons_succ, List.getElem?_cons_zero]; rfl
        case kw120_0 =>
          go_simp <;> (try go_wp2_with fail)
          refine hK.out _ _ ?_ (fun hHeld => ?_)
          · (first | (repeat' (first | with_reducible assumption | with_reducible exact Gk.refl _ _ | with_reducible refine Gk.drew ?_ | with_reducible refine Gk.set ?_ _ _ | with_reducible refine Gk.alloc ?_ _ | with_reducible refine Gk.call ?_ (by assumption))) | (first | with_reducible assumption | (with_reducible refine Below.drew ?_; with_reducible assumption) | (with_reducible refine ba _ _ ?_; with_reducible assumption) | (with_reducible refine Below.drew ?_; with_reducible refine ba _ _ ?_; with_reducible assumption) | exact Below.refl _ _ | exact (Below.refl _ _).drew | exact (Below.refl _ _).alloc (Nat.le_refl _) _ | (refine bc _ _ (by assumption) (by assumption))))
          clear hK K
          refine RegOk.put_ (m' := 3583) (by kernel_rfl) ?_
          try simp only [Act.put, List.setIfInBounds_toArray, List.set_cons_zero, List.set_cons_succ]
          refine hR.come (rs := [9]) (by kernel_rfl) (by simp) ?_
          refine AllReadyH.cons (o := ?o121_9) ?h121_9 (fun K hK => ?kw121_9) AllReadyH.nil
          case h121_9 => simp only [List.getElem?_toArray, List.getElem?_cons_succ, List.getElem?_cons_zero]; rfl
          go_simp
          go_at_call 13; (with_reducible refine (liftP (l := x) (n := 8) _ HX8.out (by decide) (HSX.out.keep (Below.agree hA)) HXO.out).mono ?_); rintro e wB ⟨AB, cB, rfl, hsB, hbB⟩; have HSB := Lib.hid hsB; have hB := hA.trans (hbB.mono hA.size); have gB : Gk go wr wB := Gk.ofBelow hB; obtain ⟨a0', a1', -⟩ := pair2 (mvQ HE hB)
          refine hK.out _ _ ?_ (fun hHeld => ?_)
          · (first | (repeat' (first | with_reducible assumption | with_reducible exact Gk.refl _ _ | with_reducible refine Gk.drew ?_ | with_reducible refine Gk.set ?_ _ _ | with_reducible refine Gk.alloc ?_ _ | with_reducible refine Gk.call ?_ (by assumption))) | (first | with_reducible assumption | (with_reducible refine Below.drew ?_; with_reducible assumption) | (with_reducible refine ba _ _ ?_; with_reducible assumption) | (with_reducible refine Below.drew ?_; with_reducible refine ba _ _ ?_; with_reducible assumption) | exact Below.refl _ _ | exact (Below.refl _ _).drew | exact (Below.refl _ _).alloc (Nat.le_refl _) _ | (refine bc _ _ (by assumption) (by assumption))))
          clear hK K
          refine RegOk.put_ (m' := 4095) (by kernel_rfl) ?_
          try simp only [Act.put, List.setIfInBounds_toArray, List.set_cons_zero, List.set_cons_succ]
          refine hR.come (rs := [12]) (by kernel_rfl) (by simp) ?_
          refine AllReadyH.cons (o := ?o122_12) ?h122_12 (fun K hK => ?kw122_12) AllReadyH.nil
          case h122_12 => simp only [List.getElem?_toArray, List.getElem?_cons_succ, List.getElem?_cons_zero]; rfl
          go_simp
          go_at_call 12; (with_reducible refine (evalP (ts := liftF x) (ps := ps.drop 3) (nt := 8) (np := 3) _ (by rw [liftF_len]; exact HX8.out) HD3.out (by decide) (by decide) HSB.out (HDR.out.keep (Below.agree hB))).mono ?_); rw [HY3.out, M2.out, N2.out]; rintro e wC ⟨rfl, hbC⟩; have hC := hB.trans (hbC.mono hB.size); have gC : Gk go wr wC := Gk.ofBelow hC; obtain ⟨c0', c1', -⟩ := pair2 (mvQ HE hC)
          refine hK.out _ _ ?_ (fun hHeld => ?_)
          · (first | (repeat' (first | with_reducible assumption | with_reducible exact Gk.refl _ _ | with_reducible refine Gk.drew ?_ | with_reducible refine Gk.set ?_ _ _ | with_reducible refine Gk.alloc ?_ _ | with_reducible refine Gk.call ?_ (by assumption))) | (first | with_reducible assumption | (with_reducible refine Below.drew ?_; with_reducible assumption) | (with_reducible refine ba _ _ ?_; with_reducible assumption) | (with_reducible refine Below.drew ?_; with_reducible refine ba _ _ ?_; with_reducible assumption) | exact Below.refl _ _ | exact (Below.refl _ _).drew | exact (Below.refl _ _).alloc (Nat.le_refl _) _ | (refine bc _ _ (by assumption) (by assumption))))
          clear hK K
          refine RegOk.put_ (m' := 8191) (by kernel_rfl) ?_
          try simp only [Act.put, List.setIfInBounds_toArray, List.set_cons_zero, List.set_cons_succ]
          refine hR.come (rs := [13]) (by kernel_rfl) (by simp) ?_
          refine AllReadyH.cons (o := ?o123_13) ?h123_13 (fun K hK => ?kw123_13) AllReadyH.nil
          case h123_13 => simp only [List.getElem?_toArray, List.getElem?_cons_succ, List.getElem?_cons_zero]; rfl
          go_simp
          go_at_call 10; (with_reducible refine (mulN (x := y1) (y := y2) M1.out N1.out M2.out N2.out M3.out N3.out _).mono ?_); rintro e wD ⟨rfl, hbD⟩; have hD := hC.trans (hbD.mono hC.size); have gD : Gk go wr wD := Gk.ofBelow hD; obtain ⟨d0', d1', -⟩ := pair2 (mvQ HE hD)
          refine hK.out _ _ ?_ (fun hHeld => ?_)
          · (first | (repeat' (first | with_reducible assumption | with_reducible exact Gk.refl _ _ | with_reducible refine Gk.drew ?_ | with_reducible refine Gk.set ?_ _ _ | with_reducible refine Gk.alloc ?_ _ | with_reducible refine Gk.call ?_ (by assumption))) | (first | with_reducible assumption | (with_reducible refine Below.drew ?_; with_reducible assumption) | (with_reducible refine ba _ _ ?_; with_reducible assumption) | (with_reducible refine Below.drew ?_; with_reducible refine ba _ _ ?_; with_reducible assumption) | exact Below.refl _ _ | exact (Below.refl _ _).drew | exact (Below.refl _ _).alloc (Nat.le_refl _) _ | (refine bc _ _ (by assumption) (by assumption))))
          clear hK K
          refine RegOk.put_ (m' := 16383) (by kernel_rfl) ?_
          try simp only [Act.put, List.setIfInBounds_toArray, List.set_cons_zero, List.set_cons_succ]
          refine hR.come (rs := [14]) (by kernel_rfl) (by simp) ?_
          refine AllReadyH.cons (o := ?o124_14) ?h124_14 (fun K hK => ?kw124_14) AllReadyH.nil
          case h124_14 => simp only [List.getElem?_toArray, List.getElem?_cons_succ, List.getElem?_cons_zero]; rfl
          go_simp
          go_at_call 9; (with_reducible refine (addN (x := q) (y := y1.mul y2) rfl rfl M3.out N3.out HR.out HS.out _).mono ?_); rintro e wE ⟨rfl, hbE⟩; have hE := hD.trans (hbE.mono hD.size); have gE : Gk go wr wE := Gk.ofBelow hE; have RB := mvQ HE hE; obtain ⟨f0, f1, lb⟩ := pair2 RB; have fb := frzX RB
          refine hK.out _ _ ?_ (fun hHeld => ?_)
          · (first | (repeat' (first | with_reducible assumption | with_reducible exact Gk.refl _ _ | with_reducible refine Gk.drew ?_ | with_reducible refine Gk.set ?_ _ _ | with_reducible refine Gk.alloc ?_ _ | with_reducible refine Gk.call ?_ (by assumption))) | (first | with_reducible assumption | (with_reducible refine Below.drew ?_; with_reducible assumption) | (with_reducible refine ba _ _ ?_; with_reducible assumption) | (with_reducible refine Below.drew ?_; with_reducible refine ba _ _ ?_; with_reducible assumption) | exact Below.refl _ _ | exact (Below.refl _ _).drew | exact (Below.refl _ _).alloc (Nat.le_refl _) _ | (refine bc _ _ (by assumption) (by assumption))))
          clear hK K
          refine RegOk.put_ (m' := 32767) (by kernel_rfl) ?_
          try simp only [Act.put, List.setIfInBounds_toArray, List.set_cons_zero, List.set_cons_succ]
          refine hR.come (rs := [15]) (by kernel_rfl) (by simp) ?_
          refine AllReadyH.cons (o := ?o125_15) ?h125_15 (fun K hK => ?kw125_15) AllReadyH.nil
          case h125_15 => simp only [List.getElem?_toArray, List.getElem?_cons_succ, List.getElem?_cons_zero]; rfl
          go_simp <;> (try go_wp2_with fail)
          refine hK.out _ _ ?_ (fun hHeld => ?_)
          · (first | (repeat' (first | with_reducible assumption | with_reducible exact Gk.refl _ _ | with_reducible refine Gk.drew ?_ | with_reducible refine Gk.set ?_ _ _ | with_reducible refine Gk.alloc ?_ _ | with_reducible refine Gk.call ?_ (by assumption))) | (first | with_reducible assumption | (with_reducible refine Below.drew ?_; with_reducible assumption) | (with_reducible refine ba _ _ ?_; with_reducible assumption) | (with_reducible refine Below.drew ?_; with_reducible refine ba _ _ ?_; with_reducible assumption) | exact Below.refl _ _ | exact (Below.refl _ _).drew | exact (Below.refl _ _).alloc (Nat.le_refl _) _ | (refine bc _ _ (by assumption) (by assumption))))
          clear hK K
          refine RegOk.put_ (m' := 65535) (by kernel_rfl) ?_
          try simp only [Act.put, List.setIfInBounds_toArray, List.set_cons_zero, List.set_cons_succ]
          refine hR.all (by kernel_rfl) ?_ _
          refine NoPanic.normal ?_
          go_wp2_with fail
          go_roundw
          case rel =>
            refine ⟨j + 1, by omega, by go_num, Lib.hid (HGr.out.trans ?_), Lib.hid (by rw [HST.out, HR.out, HS.out]; exact setpair RB.out)⟩
            (repeat' (first | with_reducible assumption | with_reducible exact Gk.refl _ _ | with_reducible refine Gk.drew ?_ | with_reducible refine Gk.set ?_ _ _ | with_reducible refine Gk.alloc ?_ _ | with_reducible refine Gk.call ?_ (by assumption)))
          case measure => simp [intOf]; omega
        case kw120_9 =>
          go_simp
          go_at_call 13; (with_reducible refine (liftP (l := x) (n := 8) _ HX8.out (by decide) (HSX.out.keep (Below.agree hA)) HXO.out).mono ?_); rintro e wB ⟨AB, cB, rfl, hsB, hbB⟩; have HSB := Lib.hid hsB; have hB := hA.trans (hbB.mono hA.size); have gB : Gk go wr wB := Gk.ofBelow hB; obtain ⟨a0', a1', -⟩ := pair2 (mvQ HE hB)
          refine hK.out _ _ ?_ (fun hHeld => ?_)
          · (first | (repeat' (first | with_reducible assumption | with_reducible exact Gk.refl _ _ | with_reducible refine Gk.drew ?_ | with_reducible refine Gk.set ?_ _ _ | with_reducible refine Gk.alloc ?_ _ | with_reducible refine Gk.call ?_ (by assumption))) | (first | with_reducible assumption | (with_reducible refine Below.drew ?_; with_reducible assumption) | (with_reducible refine ba _ _ ?_; with_reducible assumption) | (with_reducible refine Below.drew ?_; with_reducible refine ba _ _ ?_; with_reducible assumption) | exact Below.refl _ _ | exact (Below.refl _ _).drew | exact (Below.refl _ _).alloc (Nat.le_refl _) _ | (refine bc _ _ (by assumption) (by assumption))))
          clear hK K
          refine RegOk.put_ (m' := 4094) (by kernel_rfl) ?_
          try simp only [Act.put, List.setIfInBounds_toArray, List.set_cons_zero, List.set_cons_succ]
          refine hR.come (rs := [0, 12]) (by kernel_rfl) (by simp) ?_
          refine AllReadyH.cons (o := ?o126_0) ?h126_0 (fun K hK => ?kw126_0) (AllReadyH.cons (o := ?o126_12) ?h126_12 (fun K hK => ?kw126_12) AllReadyH.nil)
          case h126_0 => simp only [List.getElem?_toArray, List.getElem?_cons_succ, List.getElem?_cons_zero]; rfl
          case h126_12 => simp only [List.getElem?_toArray, List.getElem?_cons_succ, List.getElem?_cons_zero]; rfl
          case kw126_0 =>
            go_simp <;> (try go_wp2_with fail)
            refine hK.out _ _ ?_ (fun hHeld => ?_)
            · (first | (repeat' (first | with_reducible assumption | with_reducible exact Gk.refl _ _ | with_reducible refine Gk.drew ?_ | with_reducible refine Gk.set ?_ _ _ | with_reducible refine Gk.alloc ?_ _ | with_reducible refine Gk.call ?_ (by assumption))) | (first | with_reducible assumption | (with_reducible refine Below.drew ?_; with_reducible assumption) | (with_reducible refine ba _ _ ?_; with_reducible assumption) | (with_reducible refine Below.drew ?_; with_reducible refine ba _ _ ?_; with_reducible assumption) | exact Below.refl _ _ | exact (Below.refl _ _).drew | exact (Below.refl _ _).alloc (Nat.le_refl _) _ | (refine bc _ _ (by assumption) (by assumption))))
            clear hK K
            refine RegOk.put_ (m' := 4095) (by kernel_rfl) ?_
            try simp only [Act.put, List.setIfInBounds_toArray, List.set_cons_zero, List.set_cons_succ]
            refine hR.come (rs := [12]) (by kernel_rfl) (by simp) ?_
            refine AllReadyH.cons (o := ?o127_12) ?h127_12 (fun K hK => ?kw127_12) AllReadyH.nil
            case h127_12 => simp only [List.getElem?_toArray, List.getElem?_cons_succ, List.getElem?_cons_zero]; rfl
            go_simp
            go_at_call 12; (with_reducible refine (evalP (ts := liftF x) (ps := ps.drop 3) (nt := 8) (np := 3) _ (by rw [liftF_len]; exact HX8.out) HD3.out (by decide) (by decide) HSB.out (HDR.out.keep (Below.agree hB))).mono ?_); rw [HY3.out, M2.out, N2.out]; rintro e wC ⟨rfl, hbC⟩; have hC := hB.trans (hbC.mono hB.size); have gC : Gk go wr wC := Gk.ofBelow hC; obtain ⟨c0', c1', -⟩ := pair2 (mvQ HE hC)
            refine hK.out _ _ ?_ (fun hHeld => ?_)
            · (first | (repeat' (first | with_reducible assumption | with_reducible exact Gk.refl _ _ | with_reducible refine Gk.drew ?_ | with_reducible refine Gk.set ?_ _ _ | with_reducible refine Gk.alloc ?_ _ | with_reducible refine Gk.call ?_ (by assumption))) | (first | with_reducible assumption | (with_reducible refine Below.drew ?_; with_reducible assumption) | (with_reducible refine ba _ _ ?_; with_reducible assumption) | (with_reducible refine Below.drew ?_; with_reducible refine ba _ _ ?_; with_reducible assumption) | exact Below.refl _ _ | exact (Below.refl _ _).drew | exact (Below.refl _ _).alloc (Nat.le_refl _) _ | (refine bc _ _ (by assumption) (by assumption))))
            clear hK K
            refine RegOk.put_ (m' := 8191) (by kernel_rfl) ?_
            try simp only [Act.put, List.setIfInBounds_toArray, List.set_cons_zero, List.set_cons_succ]
            refine hR.come (rs := [13]) (by kernel_rfl) (by simp) ?_
            refine AllReadyH.cons (o := ?o128_13) ?h128_13 (fun K hK => ?kw128_13) AllReadyH.nil
            case h128_13 => simp only [List.getElem?_toArray, List.getElem?_cons_succ, List.getElem?_cons_zero]; rfl
            go_simp
            go_at_call 10; (with_reducible refine (mulN (x := y1) (y := y2) M1.out N1.out M2.out N2.out M3.out N3.out _).mono ?_); rintro e wD ⟨rfl, hbD⟩; have hD := hC.trans (hbD.mono hC.size); have gD : Gk go wr wD := Gk.ofBelow hD; obtain ⟨d0', d1', -⟩ := pair2 (mvQ HE hD)
            refine hK.out _ _ ?_ (fun hHeld => ?_)
            · (first | (repeat' (first | with_reducible assumption | with_reducible exact Gk.refl _ _ | with_reducible refine Gk.drew ?_ | with_reducible refine Gk.set ?_ _ _ | with_reducible refine Gk.alloc ?_ _ | with_reducible refine Gk.call ?_ (by assumption))) | (first | with_reducible assumption | (with_reducible refine Below.drew ?_; with_reducible assumption) | (with_reducible refine ba _ _ ?_; with_reducible assumption) | (with_reducible refine Below.drew ?_; with_reducible refine ba _ _ ?_; with_reducible assumption) | exact Below.refl _ _ | exact (Below.refl _ _).drew | exact (Below.refl _ _).alloc (Nat.le_refl _) _ | (refine bc _ _ (by assumption) (by assumption))))
            clear hK K
            refine RegOk.put_ (m' := 16383) (by kernel_rfl) ?_
            try simp only [Act.put, List.setIfInBounds_toArray, List.set_cons_zero, List.set_cons_succ]
            refine hR.come (rs := [14]) (by kernel_rfl) (by simp) ?_
            refine AllReadyH.cons (o := ?o129_14) ?h129_14 (fun K hK => ?kw129_14) AllReadyH.nil
            case h129_14 => simp only [List.getElem?_toArray, List.getElem?_cons_succ, List.getElem?_cons_zero]; rfl
            go_simp
            go_at_call 9; (with_reducible refine (addN (x := q) (y := y1.mul y2) rfl rfl M3.out N3.out HR.out HS.out _).mono ?_); rintro e wE ⟨rfl, hbE⟩; have hE := hD.trans (hbE.mono hD.size); have gE : Gk go wr wE := Gk.ofBelow hE; have RB := mvQ HE hE; obtain ⟨f0, f1, lb⟩ := pair2 RB; have fb := frzX RB
            refine hK.out _ _ ?_ (fun hHeld => ?_)
            · (first | (repeat' (first | with_reducible assumption | with_reducible exact Gk.refl _ _ | with_reducible refine Gk.drew ?_ | with_reducible refine Gk.set ?_ _ _ | with_reducible refine Gk.alloc ?_ _ | with_reducible refine Gk.call ?_ (by assumption))) | (first | with_reducible assumption | (with_reducible refine Below.drew ?_; with_reducible assumption) | (with_reducible refine ba _ _ ?_; with_reducible assumption) | (with_reducible refine Below.drew ?_; with_reducible refine ba _ _ ?_; with_reducible assumption) | exact Below.refl _ _ | exact (Below.refl _ _).drew | exact (Below.refl _ _).alloc (Nat.le_refl _) _ | (refine bc _ _ (by assumption) (by assumption))))
            clear hK K
            refine RegOk.put_ (m' := 32767) (by kernel_rfl) ?_
            try simp only [Act.put, List.setIfInBounds_toArray, List.set_cons_zero, List.set_cons_succ]
            refine hR.come (rs := [15]) (by kernel_rfl) (by simp) ?_
            refine AllReadyH.cons (o := ?o130_15) ?h130_15 (fun K hK => ?kw130_15) AllReadyH.nil
            case h130_15 => simp only [List.getElem?_toArray, List.getElem?_cons_succ, List.getElem?_cons_zero]; rfl
            go_simp <;> (try go_wp2_with fail)
            refine hK.out _ _ ?_ (fun hHeld => ?_)
            · (first | (repeat' (first | with_reducible assumption | with_reducible exact Gk.refl _ _ | with_reducible refine Gk.drew ?_ | with_reducible refine Gk.set ?_ _ _ | with_reducible refine Gk.alloc ?_ _ | with_reducible refine Gk.call ?_ (by assumption))) | (first | with_reducible assumption | (with_reducible refine Below.drew ?_; with_reducible assumption) | (with_reducible refine ba _ _ ?_; with_reducible assumption) | (with_reducible refine Below.drew ?_; with_reducible refine ba _ _ ?_; with_reducible assumption) | exact Below.refl _ _ | exact (Below.refl _ _).drew | exact (Below.refl _ _).alloc (Nat.le_refl _) _ | (refine bc _ _ (by assumption) (by assumption))))
            clear hK K
            refine RegOk.put_ (m' := 65535) (by kernel_rfl) ?_
            try simp only [Act.put, List.setIfInBounds_toArray, List.set_cons_zero, List.set_cons_succ]
            refine hR.all (by kernel_rfl) ?_ _
            refine NoPanic.normal ?_
            go_wp2_with fail
            go_roundw
            case rel =>
              refine ⟨j + 1, by omega, by go_num, Lib.hid (HGr.out.trans ?_), Lib.hid (by rw [HST.out, HR.out, HS.out]; exact setpair RB.out)⟩
              (repeat' (first | with_reducible assumption | with_reducible exact Gk.refl _ _ | with_reducible refine Gk.drew ?_ | with_reducible refine Gk.set ?_ _ _ | with_reducible refine Gk.alloc ?_ _ | with_reducible refine Gk.call ?_ (by assumption)))
            case measure => simp [intOf]; omega
          case kw126_12 =>
            go_simp
            go_at_call 12; (with_reducible refine (evalP (ts := liftF x) (ps := ps.drop 3) (nt := 8) (np := 3) _ (by rw [liftF_len]; exact HX8.out) HD3.out (by decide) (by decide) HSB.out (HDR.out.keep (Below.agree hB))).mono ?_); rw [HY3.out, M2.out, N2.out]; rintro e wC ⟨rfl, hbC⟩; have hC := hB.trans (hbC.mono hB.size); have gC : Gk go wr wC := Gk.ofBelow hC; obtain ⟨c0', c1', -⟩ := pair2 (mvQ HE hC)
            refine hK.out _ _ ?_ (fun hHeld => ?_)
            · (first | (repeat' (first | with_reducible assumption | with_reducible exact Gk.refl _ _ | with_reducible refine Gk.drew ?_ | with_reducible refine Gk.set ?_ _ _ | with_reducible refine Gk.alloc ?_ _ | with_reducible refine Gk.call ?_ (by assumption))) | (first | with_reducible assumption | (with_reducible refine Below.drew ?_; with_reducible assumption) | (with_reducible refine ba _ _ ?_; with_reducible assumption) | (with_reducible refine Below.drew ?_; with_reducible refine ba _ _ ?_; with_reducible assumption) | exact Below.refl _ _ | exact (Below.refl _ _).drew | exact (Below.refl _ _).alloc (Nat.le_refl _) _ | (refine bc _ _ (by assumption) (by assumption))))
            clear hK K
            refine RegOk.put_ (m' := 8190) (by kernel_rfl) ?_
            try simp only [Act.put, List.setIfInBounds_toArray, List.set_cons_zero, List.set_cons_succ]
            refine hR.come (rs := [0, 13]) (by kernel_rfl) (by simp) ?_
            refine AllReadyH.cons (o := ?o131_0) ?h131_0 (fun K hK => ?kw131_0) (AllReadyH.cons (o := ?o131_13) ?h131_13 (fun K hK => ?kw131_13) AllReadyH.nil)
            case h131_0 => simp only [List.getElem?_toArray, List.getElem?_cons_succ, List.getElem?_cons_zero]; rfl
            case h131_13 => simp only [List.getElem?_toArray, List.getElem?_cons_succ, List.getElem?_cons_zero]; rfl
            case kw131_0 =>
              go_simp <;> (try go_wp2_with fail)
              refine hK.out _ _ ?_ (fun hHeld => ?_)
              · (first | (repeat' (first | with_reducible assumption | with_reducible exact Gk.refl _ _ | with_reducible refine Gk.drew ?_ | with_reducible refine Gk.set ?_ _ _ | with_reducible refine Gk.alloc ?_ _ | with_reducible refine Gk.call ?_ (by assumption))) | (first | with_reducible assumption | (with_reducible refine Below.drew ?_; with_reducible assumption) | (with_reducible refine ba _ _ ?_; with_reducible assumption) | (with_reducible refine Below.drew ?_; with_reducible refine ba _ _ ?_; with_reducible assumption) | exact Below.refl _ _ | exact (Below.refl _ _).drew | exact (Below.refl _ _).alloc (Nat.le_refl _) _ | (refine bc _ _ (by assumption) (by assumption))))
              clear hK K
              refine RegOk.put_ (m' := 8191) (by kernel_rfl) ?_
              try simp only [Act.put, List.setIfInBounds_toArray, List.set_cons_zero, List.set_cons_succ]
              refine hR.come (rs := [13]) (by kernel_rfl) (by simp) ?_
              refine AllReadyH.cons (o := ?o132_13) ?h132_13 (fun K hK => ?kw132_13) AllReadyH.nil
              case h132_13 => simp only [List.getElem?_toArray, List.getElem?_cons_succ, List.getElem?_cons_zero]; rfl
              go_simp
              go_at_call 10; (with_reducible refine (mulN (x := y1) (y := y2) M1.out N1.out M2.out N2.out M3.out N3.out _).mono ?_); rintro e wD ⟨rfl, hbD⟩; have hD := hC.trans (hbD.mono hC.size); have gD : Gk go wr wD := Gk.ofBelow hD; obtain ⟨d0', d1', -⟩ := pair2 (mvQ HE hD)
              refine hK.out _ _ ?_ (fun hHeld => ?_)
              · (first | (repeat' (first | with_reducible assumption | with_reducible exact Gk.refl _ _ | with_reducible refine Gk.drew ?_ | with_reducible refine Gk.set ?_ _ _ | with_reducible refine Gk.alloc ?_ _ | with_reducible refine Gk.call ?_ (by assumption))) | (first | with_reducible assumption | (with_reducible refine Below.drew ?_; with_reducible assumption) | (with_reducible refine ba _ _ ?_; with_reducible assumption) | (with_reducible refine Below.drew ?_; with_reducible refine ba _ _ ?_; with_reducible assumption) | exact Below.refl _ _ | exact (Below.refl _ _).drew | exact (Below.refl _ _).alloc (Nat.le_refl _) _ | (refine bc _ _ (by assumption) (by assumption))))
              clear hK K
              refine RegOk.put_ (m' := 16383) (by kernel_rfl) ?_
              try simp only [Act.put, List.setIfInBounds_toArray, List.set_cons_zero, List.set_cons_succ]
              refine hR.come (rs := [14]) (by kernel_rfl) (by simp) ?_
              refine AllReadyH.cons (o := ?o133_14) ?h133_14 (fun K hK => ?kw133_14) AllReadyH.nil
              case h133_14 => simp only [List.getElem?_toArray, List.getElem?_cons_succ, List.getElem?_cons_zero]; rfl
              go_simp
              go_at_call 9; (with_reducible refine (addN (x := q) (y := y1.mul y2) rfl rfl M3.out N3.out HR.out HS.out _).mono ?_); rintro e wE ⟨rfl, hbE⟩; have hE := hD.trans (hbE.mono hD.size); have gE : Gk go wr wE := Gk.ofBelow hE; have RB := mvQ HE hE; obtain ⟨f0, f1, lb⟩ := pair2 RB; have fb := frzX RB
              refine hK.out _ _ ?_ (fun hHeld => ?_)
              · (first | (repeat' (first | with_reducible assumption | with_reducible exact Gk.refl _ _ | with_reducible refine Gk.drew ?_ | with_reducible refine Gk.set ?_ _ _ | with_reducible refine Gk.alloc ?_ _ | with_reducible refine Gk.call ?_ (by assumption))) | (first | with_reducible assumption | (with_reducible refine Below.drew ?_; with_reducible assumption) | (with_reducible refine ba _ _ ?_; with_reducible assumption) | (with_reducible refine Below.drew ?_; with_reducible refine ba _ _ ?_; with_reducible assumption) | exact Below.refl _ _ | exact (Below.refl _ _).drew | exact (Below.refl _ _).alloc (Nat.le_refl _) _ | (refine bc _ _ (by assumption) (by assumption))))
              clear hK K
              refine RegOk.put_ (m' := 32767) (by kernel_rfl) ?_
              try simp only [Act.put, List.setIfInBounds_toArray, List.set_cons_zero, List.set_cons_succ]
              refine hR.come (rs := [15]) (by kernel_rfl) (by simp) ?_
              refine AllReadyH.cons (o := ?o134_15) ?h134_15 (fun K hK => ?kw134_15) AllReadyH.nil
              case h134_15 => simp only [List.getElem?_toArray, List.getElem?_cons_succ, List.getElem?_cons_zero]; rfl
              go_simp <;> (try go_wp2_with fail)
              refine hK.out _ _ ?_ (fun hHeld => ?_)
              · (first | (repeat' (first | with_reducible assumption | with_reducible exact Gk.refl _ _ | with_reducible refine Gk.drew ?_ | with_reducible refine Gk.set ?_ _ _ | with_reducible refine Gk.alloc ?_ _ | with_reducible refine Gk.call ?_ (by assumption))) | (first | with_reducible assumption | (with_reducible refine Below.drew ?_; with_reducible assumption) | (with_reducible refine ba _ _ ?_; with_reducible assumption) | (with_reducible refine Below.drew ?_; with_reducible refine ba _ _ ?_; with_reducible assumption) | exact Below.refl _ _ | exact (Below.refl _ _).drew | exact (Below.refl _ _).alloc (Nat.le_refl _) _ | (refine bc _ _ (by assumption) (by assumption))))
              clear hK K
              refine RegOk.put_ (m' := 65535) (by kernel_rfl) ?_
              try simp only [Act.put, List.setIfInBounds_toArray, List.set_cons_zero, List.set_cons_succ]
              refine hR.all (by kernel_rfl) ?_ _
              refine NoPanic.normal ?_
              go_wp2_with fail
              go_roundw
              case rel =>
                refine ⟨j + 1, by omega, by go_num, Lib.hid (HGr.out.trans ?_), Lib.hid (by rw [HST.out, HR.out, HS.out]; exact setpair RB.out)⟩
                (repeat' (first | with_reducible assumption | with_reducible exact Gk.refl _ _ | with_reducible refine Gk.drew ?_ | with_reducible refine Gk.set ?_ _ _ | with_reducible refine Gk.alloc ?_ _ | with_reducible refine Gk.call ?_ (by assumption)))
              case measure => simp [intOf]; omega
            case kw131_13 =>
              go_simp
              go_at_call 10; (with_reducible refine (mulN (x := y1) (y := y2) M1.out N1.out M2.out N2.out M3.out N3.out _).mono ?_); rintro e wD ⟨rfl, hbD⟩; have hD := hC.trans (hbD.mono hC.size); have gD : Gk go wr wD := Gk.ofBelow hD; obtain ⟨d0', d1', -⟩ := pair2 (mvQ HE hD)
              refine hK.out _ _ ?_ (fun hHeld => ?_)
              · (first | (repeat' (first | with_reducible assumption | with_reducible exact Gk.refl _ _ | with_reducible refine Gk.drew ?_ | with_reducible refine Gk.set ?_ _ _ | with_reducible refine Gk.alloc ?_ _ | with_reducible refine Gk.call ?_ (by assumption))) | (first | with_reducible assumption | (with_reducible refine Below.drew ?_; with_reducible assumption) | (with_reducible refine ba _ _ ?_; with_reducible assumption) | (with_reducible refine Below.drew ?_; with_reducible refine ba _ _ ?_; with_reducible assumption) | exact Below.refl _ _ | exact (Below.refl _ _).drew | exact (Below.refl _ _).alloc (Nat.le_refl _) _ | (refine bc _ _ (by assumption) (by assumption))))
              clear hK K
              refine RegOk.put_ (m' := 16382) (by kernel_rfl) ?_
              try simp only [Act.put, List.setIfInBounds_toArray, List.set_cons_zero, List.set_cons_succ]
              refine hR.come (rs := [0]) (by kernel_rfl) (by simp) ?_
              refine AllReadyH.cons (o := ?o135_0) ?h135_0 (fun K hK => ?kw135_0) AllReadyH.nil
              case h135_0 => simp only [List.getElem?_toArray, List.getElem?_cons_succ, List.getElem?_cons_zero]; rfl
              go_simp <;> (try go_wp2_with fail)
              refine hK.out _ _ ?_ (fun hHeld => ?_)
              · (first | (repeat' (first | with_reducible assumption | with_reducible exact Gk.refl _ _ | with_reducible refine Gk.drew ?_ | with_reducible refine Gk.set ?_ _ _ | with_reducible refine Gk.alloc ?_ _ | with_reducible refine Gk.call ?_ (by assumption))) | (first | with_reducible assumption | (with_reducible refine Below.drew ?_; with_reducible assumption) | (with_reducible refine ba _ _ ?_; with_reducible assumption) | (with_reducible refine Below.drew ?_; with_reducible refine ba _ _ ?_; with_reducible assumption) | exact Below.refl _ _ | exact (Below.refl _ _).drew | exact (Below.refl _ _).alloc (Nat.le_refl _) _ | (refine bc _ _ (by assumption) (by assumption))))
              clear hK K
              refine RegOk.put_ (m' := 16383) (by kernel_rfl) ?_
              try simp only [Act.put, List.setIfInBounds_toArray, List.set_cons_zero, List.set_cons_succ]
              refine hR.come (rs := [14]) (by kernel_rfl) (by simp) ?_
              refine AllReadyH.cons (o := ?o136_14) ?h136_14 (fun K hK => ?kw136_14) AllReadyH.nil
              case h136_14 => simp only [List.getElem?_toArray, List.getElem?_cons_succ, List.getElem?_cons_zero]; rfl
              go_simp
              go_at_call 9; (with_reducible refine (addN (x := q) (y := y1.mul y2) rfl rfl M3.out N3.out HR.out HS.out _).mono ?_); rintro e wE ⟨rfl, hbE⟩; have hE := hD.trans (hbE.mono hD.size); have gE : Gk go wr wE := Gk.ofBelow hE; have RB := mvQ HE hE; obtain ⟨f0, f1, lb⟩ := pair2 RB; have fb := frzX RB
              refine hK.out _ _ ?_ (fun hHeld => ?_)
              · (first | (repeat' (first | with_reducible assumption | with_reducible exact Gk.refl _ _ | with_reducible refine Gk.drew ?_ | with_reducible refine Gk.set ?_ _ _ | with_reducible refine Gk.alloc ?_ _ | with_reducible refine Gk.call ?_ (by assumption))) | (first | with_reducible assumption | (with_reducible refine Below.drew ?_; with_reducible assumption) | (with_reducible refine ba _ _ ?_; with_reducible assumption) | (with_reducible refine Below.drew ?_; with_reducible refine ba _ _ ?_; with_reducible assumption) | exact Below.refl _ _ | exact (Below.refl _ _).drew | exact (Below.refl _ _).alloc (Nat.le_refl _) _ | (refine bc _ _ (by assumption) (by assumption))))
              clear hK K
              refine RegOk.put_ (m' := 32767) (by kernel_rfl) ?_
              try simp only [Act.put, List.setIfInBounds_toArray, List.set_cons_zero, List.set_cons_succ]
              refine hR.come (rs := [15]) (by kernel_rfl) (by simp) ?_
              refine AllReadyH.cons (o := ?o137_15) ?h137_15 (fun K hK => ?kw137_15) AllReadyH.nil
              case h137_15 => simp only [List.getElem?_toArray, List.getElem?_cons_succ, List.getElem?_cons_zero]; rfl
              go_simp <;> (try go_wp2_with fail)
              refine hK.out _ _ ?_ (fun hHeld => ?_)
              · (first | (repeat' (first | with_reducible assumption | with_reducible exact Gk.refl _ _ | with_reducible refine Gk.drew ?_ | with_reducible refine Gk.set ?_ _ _ | with_reducible refine Gk.alloc ?_ _ | with_reducible refine Gk.call ?_ (by assumption))) | (first | with_reducible assumption | (with_reducible refine Below.drew ?_; with_reducible assumption) | (with_reducible refine ba _ _ ?_; with_reducible assumption) | (with_reducible refine Below.drew ?_; with_reducible refine ba _ _ ?_; with_reducible assumption) | exact Below.refl _ _ | exact (Below.refl _ _).drew | exact (Below.refl _ _).alloc (Nat.le_refl _) _ | (refine bc _ _ (by assumption) (by assumption))))
              clear hK K
              refine RegOk.put_ (m' := 65535) (by kernel_rfl) ?_
              try simp only [Act.put, List.setIfInBounds_toArray, List.set_cons_zero, List.set_cons_succ]
              refine hR.all (by kernel_rfl) ?_ _
              refine NoPanic.normal ?_
              go_wp2_with fail
              go_roundw
              case rel =>
                refine ⟨j + 1, by omega, by go_num, Lib.hid (HGr.out.trans ?_), Lib.hid (by rw [HST.out, HR.out, HS.out]; exact setpair RB.out)⟩
                (repeat' (first | with_reducible assumption | with_reducible exact Gk.refl _ _ | with_reducible refine Gk.drew ?_ | with_reducible refine Gk.set ?_ _ _ | with_reducible refine Gk.alloc ?_ _ | with_reducible refine Gk.call ?_ (by assumption)))
              case measure => simp [intOf]; omega
    · have hj1 : ¬ (j : Int) < 5 := by omega
      obtain rfl : j = 5 := by omega
      obtain ⟨q, hq⟩ : ∃ q, sumQ F 5 = q := ⟨_, rfl⟩
      have hev : evalTo (liftF tb) ps 64 = q := by
        rw [← HTB.out, table_ext HCO.out.five HP6.out, ← hq, ← HF.out]
      rw [hq] at HE
      obtain ⟨r, hr⟩ : ∃ r, q.u % pF = r := ⟨_, rfl⟩
      obtain ⟨s', hs⟩ : ∃ r, q.v % pF = r := ⟨_, rfl⟩
      rw [hr, hs] at HE
      have HEV := Lib.hid hev
      have HR := Lib.hid hr
      have HS := Lib.hid hs
      have HTr := Lib.hid (HGr.out.slKeep HT6.out (fun h => by have := h.2; omega))
      obtain ⟨e0, e1, -⟩ := pair2 HE
      clear hev hr hs hq hj0 hj hlt
      go_upto_region 15 with fail
      refine wp_region_noPanic ?_
      refine wp_region_held_drew (S := fun X => Gk go wr X) (by kernel_rfl) ?_ (fun hHeld => ?_)
      · (first | (repeat' (first | with_reducible assumption | with_reducible exact Gk.refl _ _ | with_reducible refine Gk.drew ?_ | with_reducible refine Gk.set ?_ _ _ | with_reducible refine Gk.alloc ?_ _ | with_reducible refine Gk.call ?_ (by assumption))) | (first | with_reducible assumption | (with_reducible refine Below.drew ?_; with_reducible assumption) | (with_reducible refine ba _ _ ?_; with_reducible assumption) | (with_reducible refine Below.drew ?_; with_reducible refine ba _ _ ?_; with_reducible assumption) | exact Below.refl _ _ | exact (Below.refl _ _).drew | exact (Below.refl _ _).alloc (Nat.le_refl _) _ | (refine bc _ _ (by assumption) (by assumption))))
      refine RegOk.begin_ (n := 10) (T := teW15) ⟨by kernel_rfl, by kernel_rfl, by kernel_rfl, by kernel_rfl⟩ fun hR => ?_
      refine hR.take (i := 0) (oi := ?ow138_0) (v := ?vw138_0) (m' := 1) ?hw138_0 (by kernel_rfl) (by kernel_rfl) (fun _ _ _ h => h) (Or.inl ⟨?sw138_0, ?yw138_0⟩) (by assumption) ?nw138_0
      case hw138_0 => simp only [List.getElem?_toArray, List.getElem?_cons_succ, List.getElem?_cons_zero]; rfl
      case sw138_0 => rfl
      case yw138_0 => (intro w hSw; (try dsimp only at hSw); go_simp <;> with_reducible rfl)
      try simp only [Act.put, List.setIfInBounds_toArray, List.set_cons_zero, List.set_cons_succ]
      refine hR.take (i := 1) (oi := ?ow139_1) (v := ?vw139_1) (m' := 3) ?hw139_1 (by kernel_rfl) (by kernel_rfl) (fun _ _ _ h => h) (Or.inl ⟨?sw139_1, ?yw139_1⟩) (by assumption) ?nw139_1
      case hw139_1 => simp only [List.getElem?_toArray, List.getElem?_cons_succ, List.getElem?_cons_zero]; rfl
      case sw139_1 => rfl
      case yw139_1 => (intro w hSw; (try dsimp only at hSw); go_simp <;> with_reducible rfl)
      try simp only [Act.put, List.setIfInBounds_toArray, List.set_cons_zero, List.set_cons_succ]
      refine hR.take (i := 2) (oi := ?ow140_2) (v := ?vw140_2) (m' := 7) ?hw140_2 (by kernel_rfl) (by kernel_rfl) (fun _ _ _ h => h) (Or.inl ⟨?sw140_2, ?yw140_2⟩) (by assumption) ?nw140_2
      case hw140_2 => simp only [List.getElem?_toArray, List.getElem?_cons_succ, List.getElem?_cons_zero]; rfl
      case sw140_2 => rfl
      case yw140_2 => (intro w hSw; (try dsimp only at hSw); go_simp <;> with_reducible rfl)
      try simp only [Act.put, List.setIfInBounds_toArray, List.set_cons_zero, List.set_cons_succ]
      refine hR.take (i := 4) (oi := ?ow141_4) (v := ?vw141_4) (m' := 23) ?hw141_4 (by kernel_rfl) (by kernel_rfl) (fun _ _ _ h => h) (Or.inl ⟨?sw141_4, ?yw141_4⟩) (by assumption) ?nw141_4
      case hw141_4 => simp only [List.getElem?_toArray, List.getElem?_cons_succ, List.getElem?_cons_zero]; rfl
      case sw141_4 => rfl
      case yw141_4 => (intro w hSw; (try dsimp only at hSw); go_simp <;> with_reducible rfl)
      try simp only [Act.put, List.setIfInBounds_toArray, List.set_cons_zero, List.set_cons_succ]
      refine hR.come (rs := [3, 6]) (by kernel_rfl) (by simp) ?_
      refine AllReadyH.cons (o := ?o142_3) ?h142_3 (fun K hK => ?kw142_3) (AllReadyH.cons (o := ?o142_6) ?h142_6 (fun K hK => ?kw142_6) AllReadyH.nil)
      case h142_3 => simp only [List.getElem?_toArray, List.getElem?_cons_succ, List.getElem?_cons_zero]; rfl
      case h142_6 => simp only [List.getElem?_toArray, List.getElem?_cons_succ, List.getElem?_cons_zero]; rfl
      case kw142_3 =>
        go_simp
        go_at_call 13; (with_reducible refine (liftP (l := tb) (n := 64) _ HTL.out (by decide) HTr.out.drew HTO.out).mono ?_); rintro e wB ⟨AB, cB, rfl, hsB, hbB⟩; have HSB := Lib.hid hsB; have hB : Below wr.heap.size wr wB := (Below.refl _ _).drew.trans hbB; have gB : Gk go wr wB := Gk.ofBelow hB; obtain ⟨a0', a1', -⟩ := pair2 (mvQ HE hB)
        refine hK.out _ _ ?_ (fun hHeld => ?_)
        · (first | (repeat' (first | with_reducible assumption | with_reducible exact Gk.refl _ _ | with_reducible refine Gk.drew ?_ | with_reducible refine Gk.set ?_ _ _ | with_reducible refine Gk.alloc ?_ _ | with_reducible refine Gk.call ?_ (by assumption))) | (first | with_reducible assumption | (with_reducible refine Below.drew ?_; with_reducible assumption) | (with_reducible refine ba _ _ ?_; with_reducible assumption) | (with_reducible refine Below.drew ?_; with_reducible refine ba _ _ ?_; with_reducible assumption) | exact Below.refl _ _ | exact (Below.refl _ _).drew | exact (Below.refl _ _).alloc (Nat.le_refl _) _ | (refine bc _ _ (by assumption) (by assumption))))
        clear hK K
        refine RegOk.put_ (m' := 31) (by kernel_rfl) ?_
        try simp only [Act.put, List.setIfInBounds_toArray, List.set_cons_zero, List.set_cons_succ]
        refine hR.come (rs := [5, 6]) (by kernel_rfl) (by simp) ?_
        refine AllReadyH.cons (o := ?o143_5) ?h143_5 (fun K hK => ?kw143_5) (AllReadyH.cons (o := ?o143_6) ?h143_6 (fun K hK => ?kw143_6) AllReadyH.nil)
        case h143_5 => simp only [List.getElem?_toArray, List.getElem?_cons_succ, List.getElem?_cons_zero]; rfl
        case h143_6 => simp only [List.getElem?_toArray, List.getElem?_cons_succ, List.getElem?_cons_zero]; rfl
        case kw143_5 =>
          go_simp
          go_at_call 12; (with_reducible refine (evalP (ts := liftF tb) (ps := ps) (nt := 64) (np := 6) _ (by rw [liftF_len]; exact HTL.out) HP6.out (by decide) (by decide) HSB.out (HPr.out.keep (Below.agree hB))).mono ?_); rw [HEV.out, HR.out, HS.out]; rintro e wC ⟨rfl, hbC⟩; have hC := hB.trans (hbC.mono hB.size); have gC : Gk go wr wC := Gk.ofBelow hC; obtain ⟨c0', c1', -⟩ := pair2 (mvQ HE hC)
          refine hK.out _ _ ?_ (fun hHeld => ?_)
          · (first | (repeat' (first | with_reducible assumption | with_reducible exact Gk.refl _ _ | with_reducible refine Gk.drew ?_ | with_reducible refine Gk.set ?_ _ _ | with_reducible refine Gk.alloc ?_ _ | with_reducible refine Gk.call ?_ (by assumption))) | (first | with_reducible assumption | (with_reducible refine Below.drew ?_; with_reducible assumption) | (with_reducible refine ba _ _ ?_; with_reducible assumption) | (with_reducible refine Below.drew ?_; with_reducible refine ba _ _ ?_; with_reducible assumption) | exact Below.refl _ _ | exact (Below.refl _ _).drew | exact (Below.refl _ _).alloc (Nat.le_refl _) _ | (refine bc _ _ (by assumption) (by assumption))))
          clear hK K
          refine RegOk.put_ (m' := 63) (by kernel_rfl) ?_
          try simp only [Act.put, List.setIfInBounds_toArray, List.set_cons_zero, List.set_cons_succ]
          refine hR.come (rs := [6]) (by kernel_rfl) (by simp) ?_
          refine AllReadyH.cons (o := ?o144_6) ?h144_6 (fun K hK => ?kw144_6) AllReadyH.nil
          case h144_6 => simp only [List.getElem?_toArray, List.getElem?_cons_succ, List.getElem?_cons_zero]; rfl
          go_simp <;> (try go_wp2_with fail)
          refine hK.out _ _ ?_ (fun hHeld => ?_)
          · (first | (repeat' (first | with_reducible assumption | with_reducible exact Gk.refl _ _ | with_reducible refine Gk.drew ?_ | with_reducible refine Gk.set ?_ _ _ | with_reducible refine Gk.alloc ?_ _ | with_reducible refine Gk.call ?_ (by assumption))) | (first | with_reducible assumption | (with_reducible refine Below.drew ?_; with_reducible assumption) | (with_reducible refine ba _ _ ?_; with_reducible assumption) | (with_reducible refine Below.drew ?_; with_reducible refine ba _ _ ?_; with_reducible assumption) | exact Below.refl _ _ | exact (Below.refl _ _).drew | exact (Below.refl _ _).alloc (Nat.le_refl _) _ | (refine bc _ _ (by assumption) (by assumption))))
          clear hK K
          refine RegOk.put_ (m' := 127) (by kernel_rfl) ?_
          try simp only [Act.put, List.setIfInBounds_toArray, List.set_cons_zero, List.set_cons_succ]
          refine hR.take (i := 7) (oi := ?ow145_7) (v := ?vw145_7) (m' := 255) ?hw145_7 (by kernel_rfl) (by kernel_rfl) (fun _ _ _ h => h) (Or.inl ⟨?sw145_7, ?yw145_7⟩) (by assumption) ?nw145_7
          case hw145_7 => simp only [List.getElem?_toArray, List.getElem?_cons_succ, List.getElem?_cons_zero]; rfl
          case sw145_7 => rfl
          case yw145_7 => (intro w hSw; (try dsimp only at hSw); go_simp <;> with_reducible rfl)
          try simp only [Act.put, List.setIfInBounds_toArray, List.set_cons_zero, List.set_cons_succ]
          refine hR.take (i := 8) (oi := ?ow146_8) (v := ?vw146_8) (m' := 511) ?hw146_8 (by kernel_rfl) (by kernel_rfl) (fun _ _ _ h => h) (Or.inl ⟨?sw146_8, ?yw146_8⟩) (by assumption) ?nw146_8
          case hw146_8 => simp only [List.getElem?_toArray, List.getElem?_cons_succ, List.getElem?_cons_zero]; rfl
          case sw146_8 => rfl
          case yw146_8 => (intro w hSw; (try dsimp only at hSw); go_simp <;> with_reducible rfl)
          try simp only [Act.put, List.setIfInBounds_toArray, List.set_cons_zero, List.set_cons_succ]
          refine hR.take (i := 9) (oi := ?ow147_9) (v := ?vw147_9) (m' := 1023) ?hw147_9 (by kernel_rfl) (by kernel_rfl) (fun _ _ _ h => h) (Or.inl ⟨?sw147_9, ?yw147_9⟩) (by assumption) ?nw147_9
          case hw147_9 => simp only [List.getElem?_toArray, List.getElem?_cons_succ, List.getElem?_cons_zero]; rfl
          case sw147_9 => rfl
          case yw147_9 => (intro w hSw; (try dsimp only at hSw); go_simp <;> with_reducible rfl)
          try simp only [Act.put, List.setIfInBounds_toArray, List.set_cons_zero, List.set_cons_succ]
          refine hR.all (by kernel_rfl) ?_ _
          refine NoPanic.normal ?_
          go_wp2_with fail
          go_ret
          refine ⟨by simp, ?_⟩
          have hG6 := HGr.out
          refine b5.out.trans (Below.mono (Gk.below (w := w6) (k := go) ?_ b6.out hgo' b6.out.size) b5.out.size)
          refine HGr.out.trans ?_
          (repeat' (first | with_reducible assumption | with_reducible exact Gk.refl _ _ | with_reducible refine Gk.drew ?_ | with_reducible refine Gk.set ?_ _ _ | with_reducible refine Gk.alloc ?_ _ | with_reducible refine Gk.call ?_ (by assumption)))
        case kw143_6 =>
          go_simp <;> (try go_wp2_with fail)
          refine hK.out _ _ ?_ (fun hHeld => ?_)
          · (first | (repeat' (first | with_reducible assumption | with_reducible exact Gk.refl _ _ | with_reducible refine Gk.drew ?_ | with_reducible refine Gk.set ?_ _ _ | with_reducible refine Gk.alloc ?_ _ | with_reducible refine Gk.call ?_ (by assumption))) | (first | with_reducible assumption | (with_reducible refine Below.drew ?_; with_reducible assumption) | (with_reducible refine ba _ _ ?_; with_reducible assumption) | (with_reducible refine Below.drew ?_; with_reducible refine ba _ _ ?_; with_reducible assumption) | exact Below.refl _ _ | exact (Below.refl _ _).drew | exact (Below.refl _ _).alloc (Nat.le_refl _) _ | (refine bc _ _ (by assumption) (by assumption))))
          clear hK K
          refine RegOk.put_ (m' := 95) (by kernel_rfl) ?_
          try simp only [Act.put, List.setIfInBounds_toArray, List.set_cons_zero, List.set_cons_succ]
          refine hR.come (rs := [5]) (by kernel_rfl) (by simp) ?_
          refine AllReadyH.cons (o := ?o148_5) ?h148_5 (fun K hK => ?kw148_5) AllReadyH.nil
          case h148_5 => simp only [List.getElem?_toArray, List.getElem?_cons_succ, List.getElem?_cons_zero]; rfl
          go_simp
          go_at_call 12; (with_reducible refine (evalP (ts := liftF tb) (ps := ps) (nt := 64) (np := 6) _ (by rw [liftF_len]; exact HTL.out) HP6.out (by decide) (by decide) HSB.out (HPr.out.keep (Below.agree hB))).mono ?_); rw [HEV.out, HR.out, HS.out]; rintro e wC ⟨rfl, hbC⟩; have hC := hB.trans (hbC.mono hB.size); have gC : Gk go wr wC := Gk.ofBelow hC; obtain ⟨c0', c1', -⟩ := pair2 (mvQ HE hC)
          refine hK.out _ _ ?_ (fun hHeld => ?_)
          · (first | (repeat' (first | with_reducible assumption | with_reducible exact Gk.refl _ _ | with_reducible refine Gk.drew ?_ | with_reducible refine Gk.set ?_ _ _ | with_reducible refine Gk.alloc ?_ _ | with_reducible refine Gk.call ?_ (by assumption))) | (first | with_reducible assumption | (with_reducible refine Below.drew ?_; with_reducible assumption) | (with_reducible refine ba _ _ ?_; with_reducible assumption) | (with_reducible refine Below.drew ?_; with_reducible refine ba _ _ ?_; with_reducible assumption) | exact Below.refl _ _ | exact (Below.refl _ _).drew | exact (Below.refl _ _).alloc (Nat.le_refl _) _ | (refine bc _ _ (by assumption) (by assumption))))
          clear hK K
          refine RegOk.put_ (m' := 127) (by kernel_rfl) ?_
          try simp only [Act.put, List.setIfInBounds_toArray, List.set_cons_zero, List.set_cons_succ]
          refine hR.take (i := 7) (oi := ?ow149_7) (v := ?vw149_7) (m' := 255) ?hw149_7 (by kernel_rfl) (by kernel_rfl) (fun _ _ _ h => h) (Or.inl ⟨?sw149_7, ?yw149_7⟩) (by assumption) ?nw149_7
          case hw149_7 => simp only [List.getElem?_toArray, List.getElem?_cons_succ, List.getElem?_cons_zero]; rfl
          case sw149_7 => rfl
          case yw149_7 => (intro w hSw; (try dsimp only at hSw); go_simp <;> with_reducible rfl)
          try simp only [Act.put, List.setIfInBounds_toArray, List.set_cons_zero, List.set_cons_succ]
          refine hR.take (i := 8) (oi := ?ow150_8) (v := ?vw150_8) (m' := 511) ?hw150_8 (by kernel_rfl) (by kernel_rfl) (fun _ _ _ h => h) (Or.inl ⟨?sw150_8, ?yw150_8⟩) (by assumption) ?nw150_8
          case hw150_8 => simp only [List.getElem?_toArray, List.getElem?_cons_succ, List.getElem?_cons_zero]; rfl
          case sw150_8 => rfl
          case yw150_8 => (intro w hSw; (try dsimp only at hSw); go_simp <;> with_reducible rfl)
          try simp only [Act.put, List.setIfInBounds_toArray, List.set_cons_zero, List.set_cons_succ]
          refine hR.take (i := 9) (oi := ?ow151_9) (v := ?vw151_9) (m' := 1023) ?hw151_9 (by kernel_rfl) (by kernel_rfl) (fun _ _ _ h => h) (Or.inl ⟨?sw151_9, ?yw151_9⟩) (by assumption) ?nw151_9
          case hw151_9 => simp only [List.getElem?_toArray, List.getElem?_cons_succ, List.getElem?_cons_zero]; rfl
          case sw151_9 => rfl
          case yw151_9 => (intro w hSw; (try dsimp only at hSw); go_simp <;> with_reducible rfl)
          try simp only [Act.put, List.setIfInBounds_toArray, List.set_cons_zero, List.set_cons_succ]
          refine hR.all (by kernel_rfl) ?_ _
          refine NoPanic.normal ?_
          go_wp2_with fail
          go_ret
          refine ⟨by simp, ?_⟩
          have hG6 := HGr.out
          refine b5.out.trans (Below.mono (Gk.below (w := w6) (k := go) ?_ b6.out hgo' b6.out.size) b5.out.size)
          refine HGr.out.trans ?_
          (repeat' (first | with_reducible assumption | with_reducible exact Gk.refl _ _ | with_reducible refine Gk.drew ?_ | with_reducible refine Gk.set ?_ _ _ | with_reducible refine Gk.alloc ?_ _ | with_reducible refine Gk.call ?_ (by assumption)))
      case kw142_6 =>
        go_simp <;> (try go_wp2_with fail)
        refine hK.out _ _ ?_ (fun hHeld => ?_)
        · (first | (repeat' (first | with_reducible assumption | with_reducible exact Gk.refl _ _ | with_reducible refine Gk.drew ?_ | with_reducible refine Gk.set ?_ _ _ | with_reducible refine Gk.alloc ?_ _ | with_reducible refine Gk.call ?_ (by assumption))) | (first | with_reducible assumption | (with_reducible refine Below.drew ?_; with_reducible assumption) | (with_reducible refine ba _ _ ?_; with_reducible assumption) | (with_reducible refine Below.drew ?_; with_reducible refine ba _ _ ?_; with_reducible assumption) | exact Below.refl _ _ | exact (Below.refl _ _).drew | exact (Below.refl _ _).alloc (Nat.le_refl _) _ | (refine bc _ _ (by assumption) (by assumption))))
        clear hK K
        refine RegOk.put_ (m' := 87) (by kernel_rfl) ?_
        try simp only [Act.put, List.setIfInBounds_toArray, List.set_cons_zero, List.set_cons_succ]
        refine hR.come (rs := [3]) (by kernel_rfl) (by simp) ?_
        refine AllReadyH.cons (o := ?o152_3) ?h152_3 (fun K hK => ?kw152_3) AllReadyH.nil
        case h152_3 => simp only [List.getElem?_toArray, List.getElem?_cons_succ, List.getElem?_cons_zero]; rfl
        go_simp
        go_at_call 13; (with_reducible refine (liftP (l := tb) (n := 64) _ HTL.out (by decide) HTr.out.drew HTO.out).mono ?_); rintro e wB ⟨AB, cB, rfl, hsB, hbB⟩; have HSB := Lib.hid hsB; have hB : Below wr.heap.size wr wB := (Below.refl _ _).drew.trans hbB; have gB : Gk go wr wB := Gk.ofBelow hB; obtain ⟨a0', a1', -⟩ := pair2 (mvQ HE hB)
        refine hK.out _ _ ?_ (fun hHeld => ?_)
        · (first | (repeat' (first | with_reducible assumption | with_reducible exact Gk.refl _ _ | with_reducible refine Gk.drew ?_ | with_reducible refine Gk.set ?_ _ _ | with_reducible refine Gk.alloc ?_ _ | with_reducible refine Gk.call ?_ (by assumption))) | (first | with_reducible assumption | (with_reducible refine Below.drew ?_; with_reducible assumption) | (with_reducible refine ba _ _ ?_; with_reducible assumption) | (with_reducible refine Below.drew ?_; with_reducible refine ba _ _ ?_; with_reducible assumption) | exact Below.refl _ _ | exact (Below.refl _ _).drew | exact (Below.refl _ _).alloc (Nat.le_refl _) _ | (refine bc _ _ (by assumption) (by assumption))))
        clear hK K
        refine RegOk.put_ (m' := 95) (by kernel_rfl) ?_
        try simp only [Act.put, List.setIfInBounds_toArray, List.set_cons_zero, List.set_cons_succ]
        refine hR.come (rs := [5]) (by kernel_rfl) (by simp) ?_
        refine AllReadyH.cons (o := ?o153_5) ?h153_5 (fun K hK => ?kw153_5) AllReadyH.nil
        case h153_5 => simp only [List.getElem?_toArray, List.getElem?_cons_succ, List.getElem?_cons_zero]; rfl
        go_simp
        go_at_call 12; (with_reducible refine (evalP (ts := liftF tb) (ps := ps) (nt := 64) (np := 6) _ (by rw [liftF_len]; exact HTL.out) HP6.out (by decide) (by decide) HSB.out (HPr.out.keep (Below.agree hB))).mono ?_); rw [HEV.out, HR.out, HS.out]; rintro e wC ⟨rfl, hbC⟩; have hC := hB.trans (hbC.mono hB.size); have gC : Gk go wr wC := Gk.ofBelow hC; obtain ⟨c0', c1', -⟩ := pair2 (mvQ HE hC)
        refine hK.out _ _ ?_ (fun hHeld => ?_)
        · (first | (repeat' (first | with_reducible assumption | with_reducible exact Gk.refl _ _ | with_reducible refine Gk.drew ?_ | with_reducible refine Gk.set ?_ _ _ | with_reducible refine Gk.alloc ?_ _ | with_reducible refine Gk.call ?_ (by assumption))) | (first | with_reducible assumption | (with_reducible refine Below.drew ?_; with_reducible assumption) | (with_reducible refine ba _ _ ?_; with_reducible assumption) | (with_reducible refine Below.drew ?_; with_reducible refine ba _ _ ?_; with_reducible assumption) | exact Below.refl _ _ | exact (Below.refl _ _).drew | exact (Below.refl _ _).alloc (Nat.le_refl _) _ | (refine bc _ _ (by assumption) (by assumption))))
        clear hK K
        refine RegOk.put_ (m' := 127) (by kernel_rfl) ?_
        try simp only [Act.put, List.setIfInBounds_toArray, List.set_cons_zero, List.set_cons_succ]
        refine hR.take (i := 7) (oi := ?ow154_7) (v := ?vw154_7) (m' := 255) ?hw154_7 (by kernel_rfl) (by kernel_rfl) (fun _ _ _ h => h) (Or.inl ⟨?sw154_7, ?yw154_7⟩) (by assumption) ?nw154_7
        case hw154_7 => simp only [List.getElem?_toArray, List.getElem?_cons_succ, List.getElem?_cons_zero]; rfl
        case sw154_7 => rfl
        case yw154_7 => (intro w hSw; (try dsimp only at hSw); go_simp <;> with_reducible rfl)
        try simp only [Act.put, List.setIfInBounds_toArray, List.set_cons_zero, List.set_cons_succ]
        refine hR.take (i := 8) (oi := ?ow155_8) (v := ?vw155_8) (m' := 511) ?hw155_8 (by kernel_rfl) (by kernel_rfl) (fun _ _ _ h => h) (Or.inl ⟨?sw155_8, ?yw155_8⟩) (by assumption) ?nw155_8
        case hw155_8 => simp only [List.getElem?_toArray, List.getElem?_cons_succ, List.getElem?_cons_zero]; rfl
        case sw155_8 => rfl
        case yw155_8 => (intro w hSw; (try dsimp only at hSw); go_simp <;> with_reducible rfl)
        try simp only [Act.put, List.setIfInBounds_toArray, List.set_cons_zero, List.set_cons_succ]
        refine hR.take (i := 9) (oi := ?ow156_9) (v := ?vw156_9) (m' := 1023) ?hw156_9 (by kernel_rfl) (by kernel_rfl) (fun _ _ _ h => h) (Or.inl ⟨?sw156_9, ?yw156_9⟩) (by assumption) ?nw156_9
        case hw156_9 => simp only [List.getElem?_toArray, List.getElem?_cons_succ, List.getElem?_cons_zero]; rfl
        case sw156_9 => rfl
        case yw156_9 => (intro w hSw; (try dsimp only at hSw); go_simp <;> with_reducible rfl)
        try simp only [Act.put, List.setIfInBounds_toArray, List.set_cons_zero, List.set_cons_succ]
        refine hR.all (by kernel_rfl) ?_ _
        refine NoPanic.normal ?_
        go_wp2_with fail
        go_ret
        refine ⟨by simp, ?_⟩
        have hG6 := HGr.out
        refine b5.out.trans (Below.mono (Gk.below (w := w6) (k := go) ?_ b6.out hgo' b6.out.size) b5.out.size)
        refine HGr.out.trans ?_
        (repeat' (first | with_reducible assumption | with_reducible exact Gk.refl _ _ | with_reducible refine Gk.drew ?_ | with_reducible refine Gk.set ?_ _ _ | with_reducible refine Gk.alloc ?_ _ | with_reducible refine Gk.call ?_ (by assumption)))
end Go.Proofs.Ytpdblgchfkcgpaa
