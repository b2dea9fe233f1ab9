/-
  Texts of this claim, merged: Pa2. Conditions: as each theorem says.
-/
import Derived.Test.YtagadbdbbglddaaGreatDoorU1
import Derived.Test.YtagadbdbbglddaaGreatDoorU2
import Derived.Test.YtagadbdbbglddaaGreatDoorU3
import Derived.Test.YtagadbdbbglddaaGreatDoorU4
import Derived.Test.YtagadbdbbglddaaGreatDoorShelf
set_option linter.unusedSimpArgs false
set_option linter.unusedVariables false
namespace Go.Proofs.YtagadbdbbglddaaGreatDoor
open Go.RowKit

def wsI (c : UInt8) : Int := Go.Lib.indexByte [32, 9, 13, 10] c
theorem wsI_yes {c : UInt8} (h : isWs c = true) : 0 ≤ wsI c := by
  unfold isWs at h
  simp only [Bool.or_eq_true, beq_iff_eq] at h
  rcases h with ((h | h) | h) | h <;> subst h <;> decide
theorem wsI_no {c : UInt8} (h : isWs c = false) : wsI c = -1 := by
  unfold isWs at h
  simp only [Bool.or_eq_false_iff, beq_eq_false_iff_ne, ne_eq] at h
  obtain ⟨⟨⟨h1, h2⟩, h3⟩, h4⟩ := h
  have e : ∀ a : UInt8, ¬ c = a → (a == c) = false := fun a h => by rw [beq_eq_false_iff_ne]; exact fun e => h e.symm
  unfold wsI
  simp only [Go.Lib.indexByte, e _ h1, e _ h2, e _ h3, e _ h4]
  rfl
theorem wsP {c : UInt8} {k : Int} (hk : wsI c = k) (w : World) : Calls Tryz.prog 72 #[.string { data := #[32, 9, 13, 10] }, .int .u8 (c.toNat : Int)] w fun e w' => e = .returned (.int .i64 k) ∧ w = w' :=
  (Tryz.strings_IndexByte { data := #[32, 9, 13, 10] } (c.toNat : Int) w).mono fun e w' ⟨h1, h2⟩ => ⟨by rw [h1, ← hk]; simp [wsI], h2.symm⟩
theorem Gk.belowR {k : Nat} {w X Y : World} (h : Gk k w X) (hb : Below w.heap.size X Y) : Gk k w Y :=
  ⟨⟨hb.os.trans h.g.os, hb.tape.trans h.g.tape, hb.output.trans h.g.output, Nat.le_trans h.g.size hb.size, fun b hl hn => (hb.block b hl).trans (h.g.block b hl hn)⟩⟩
theorem two2P {W : World} {g : Nat} {u v : Value} {t : TypeId} (h : Hid (W.heap[g]? = some (.cells #[u, v] t (0, 0)))) : W.cell? ⟨g, 0, none⟩ = some u ∧ W.cell? ⟨g, 1, none⟩ = some v :=
  ⟨cell_of_row _ _ 0 _ _ _ h.out, cell_of_row _ _ 1 _ _ _ h.out⟩
theorem hasPrefixP {l p : List UInt8} {b : Bool} (hb : p.isPrefixOf l = b) (w : World) : Calls Tryz.prog 74 #[.string ⟨l.toArray⟩, .string ⟨p.toArray⟩] w fun e w' => e = .returned (.bool b) ∧ w = w' :=
  (Tryz.strings_HasPrefix ⟨l.toArray⟩ ⟨p.toArray⟩ w).mono fun e w' ⟨h1, h2⟩ => ⟨by rw [h1, ← hb]; rfl, h2.symm⟩
/-- The parser's box: its text, what is left of it, no error. -/
def PAt (bs : List UInt8) (g : Nat) (l : List UInt8) (w : World) : Prop :=
  ∃ i : Nat, i ≤ bs.length ∧ bs.drop i = l ∧ w.heap[g]? = some (.cells #[.string ⟨bs.toArray⟩, .int .i64 (i : Nat), .int .i64 0, .int .i64 0] 77 (0, 0))
theorem frzP {W : World} {g : Nat} {cs : Array Value} {t : TypeId} (h : Hid (W.heap[g]? = some (.cells cs t (0, 0)))) (i : Nat) : W.frozen? ⟨g, i, none⟩ = false := by simp [World.frozen?, h.out]
theorem mvP {w w' : World} {g : Nat} {o : Obj} (h : Hid (w.heap[g]? = some o)) (hb : Below w.heap.size w w') : Hid (w'.heap[g]? = some o) := Lib.hid ((hb.block g (heap_lt h.out)).trans h.out)
theorem PAt.drew {bs : List UInt8} {g : Nat} {l : List UInt8} {w : World} (h : PAt bs g l w) : PAt bs g l w.drew := h
def pa2B : List FRow := [(0, ([], (57, [0]))), (1, ([0], (58, [56]))), (2, ([1], (59, [57]))), (3, ([2], (60, [58]))), (4, ([], (61, [0]))), (5, ([4], (62, [60]))), (6, ([5], (63, [61]))), (7, ([6], (64, [62]))), (8, ([], (65, [0]))), (9, ([8], (66, [64]))), (10, ([3, 7, 9], (67, [59, 63, 65]))), (11, ([10], (68, [66]))), (12, ([11, 9, 0, 1, 2, 3, 4, 5, 6, 7, 8, 9, 10, 11], (0, [2, 67])))]
def pa2C : List FRow := [(0, ([], (78, [0]))), (1, ([0], (79, [77]))), (2, ([1], (80, [78]))), (3, ([2], (81, [79]))), (4, ([], (82, [0]))), (5, ([4], (83, [81]))), (6, ([5], (84, [82]))), (7, ([6], (85, [83]))), (8, ([], (86, [0]))), (9, ([8], (87, [85]))), (10, ([3, 7, 9], (88, [80, 84, 86]))), (11, ([10], (89, [87]))), (12, ([11, 9, 0, 1, 2, 3, 4, 5, 6, 7, 8, 9, 10, 11], (0, [2, 88])))]
def pa2A : List FRow := [(0, ([], (5, [0]))), (1, ([0], (6, [4]))), (2, ([1], (7, [5]))), (3, ([2], (8, [6]))), (4, ([], (9, [0]))), (5, ([4], (10, [8]))), (6, ([5], (11, [9]))), (7, ([6], (12, [10]))), (8, ([7], (13, [11]))), (9, ([3, 8], (14, [7, 12]))), (10, ([9], (15, [13]))), (11, ([10], (16, [0, 14]))), (12, ([11, 10], (17, [15, 14]))), (13, ([12, 10], (18, [16, 14]))), (14, ([13, 10], (19, [17, 14]))), (15, ([10], (20, [0, 14]))), (16, ([15, 10], (21, [19, 14]))), (17, ([16, 10], (22, [20, 14]))), (18, ([17, 10], (23, [21, 14]))), (19, ([14, 18, 10], (24, [18, 22, 14]))), (20, ([19, 10, 10], (25, [23, 14]))), (21, ([20, 10], (26, [24, 14]))), (22, ([10, 21], (27, [14, 25])))]
set_option maxRecDepth 100000 in
set_option maxHeartbeats 4000000 in
theorem peekP {bs l t : List UInt8} {k : Int} {g : Nat} (w : World) (hp : PAt bs g l w) (hl : bs.length ≤ 1000) (ht : tokF (skipW l) = (k, t)) :
    Calls Tryz.prog 29 #[.pointer (some ⟨g, 0, none⟩)] w fun e w' => e = .returned (.agg #[.int .i64 k, .string ⟨t.toArray⟩]) ∧ PAt bs g (skipW l) w' ∧ Gk g w w' := by
  obtain ⟨i, hi, rfl, hg⟩ := hp
  have HT := Lib.hid ht
  have HG := Lib.hid hg
  have lg := heap_lt hg
  clear ht hg
  go_enter Tryz.func29, Tryz.ntmps29
  go_wp2_with fail
  go_loopw [] (fun wr => ∃ j : Nat, j ≤ bs.length ∧ Hid (skipW (bs.drop i) = skipW (bs.drop j)) ∧ Hid (wr.heap[g]? = some (.cells #[.string ⟨bs.toArray⟩, .int .i64 (j : Nat), .int .i64 0, .int .i64 0] 77 (0, 0))) ∧ Hid (wr.heap[w.heap.size]? = some (.cells #[.int .i64 0, .string ⟨#[]⟩] 80 (0, 0))) ∧ Hid (Gk g w wr)) (fun wr => bs.length - (intOf (cellOf wr ⟨g, 1, none⟩)).toNat)
  case atStart => exact ⟨i, hi, Lib.hid rfl, Lib.hid ((Below.heap_alloc _ _ _ lg).trans HG.out), Lib.hid (heap_alloc_at rfl), Lib.hid ((Gk.refl _ _).alloc _)⟩
  case round =>
    obtain ⟨j, hj, HE, HP, HR, HK⟩ := hrel
    have hj0 : (0 : Int) ≤ (j : Int) := by omega
    have zp : ∀ W, Below wr.heap.size wr W → _ ∧ _ ∧ _ ∧ _ := fun W hW => row4 (mvP HP hW)
    have br : Below wr.heap.size wr wr := Below.refl _ _
    have ba : ∀ W o, Below wr.heap.size wr W → Below wr.heap.size wr (W.alloc o) := fun W o h => h.alloc h.size o
    have bc : ∀ W W', Below wr.heap.size wr W → Below W.heap.size W W' → Below wr.heap.size wr W' := fun W W' h k => h.trans (k.mono h.size)
    have hgr : g ≠ w.heap.size := by omega
    obtain ⟨b, hb⟩ : ∃ b, (match bs[j]? with | some c => isWs c | none => false) = b := ⟨_, rfl⟩
    have HB := Lib.hid hb
    clear hb
    go_upto_region 1 with fail
    go_cut [26] (fun v wx => v = .bool b ∧ Below wr.heap.size wr wx)
    case first =>
      by_cases hlt : j < bs.length
      · have hj1 : (j : Int) < (bs.length : Int) := by omega
        obtain ⟨c, hc⟩ : ∃ c, bs[j]? = some c := ⟨_, List.getElem?_eq_getElem hlt⟩
        have hx := str_at hc
        obtain ⟨kx, hkx⟩ : ∃ k, wsI c = k := ⟨_, rfl⟩
        have HKX := Lib.hid hkx
        have hb := HB.out
        rw [hc] at hb
        dsimp only at hb
        cases hws : isWs c with
        | true =>
          have h0 : 0 ≤ kx := by rw [← hkx]; exact wsI_yes hws
          obtain rfl : b = true := by rw [← hb, hws]
          clear hc hkx hws hb
          refine wp_region_noPanic ?_
          refine wp_region_held_drew (S := fun X => Below wr.heap.size wr X) (by kernel_rfl) ?_ (fun hHeld => ?_)
          · (first | (repeat' (first | with_reducible assumption | exact Nat.le_refl _ | with_reducible refine Below.drew ?_)) | (first | with_reducible assumption | (with_reducible refine Below.drew ?_; with_reducible assumption) | (with_reducible refine ba _ _ ?_; with_reducible assumption) | (with_reducible refine Below.drew ?_; with_reducible refine ba _ _ ?_; with_reducible assumption) | exact Below.refl _ _ | exact (Below.refl _ _).drew | exact (Below.refl _ _).alloc (Nat.le_refl _) _ | (refine bc _ _ (by assumption) (by assumption))))
          refine RegOk.begin_ (n := 23) (T := pa2A) ⟨by kernel_rfl, by kernel_rfl, by kernel_rfl, by kernel_rfl⟩ fun hR => ?_
          refine hR.take (i := 0) (oi := ?ow681_0) (v := ?vw681_0) (m' := 1) ?hw681_0 (by kernel_rfl) (by kernel_rfl) (fun _ _ _ h => h) (Or.inl ⟨?sw681_0, ?yw681_0⟩) (by assumption) ?nw681_0
          case hw681_0 => simp only [List.getElem?_toArray, List.getElem?_cons_succ, List.getElem?_cons_zero]; rfl
          case sw681_0 => rfl
          case yw681_0 => (intro w hSw; (try dsimp only at hSw); go_simp <;> with_reducible rfl)
          try simp only [Act.put, List.setIfInBounds_toArray, List.set_cons_zero, List.set_cons_succ]
          refine hR.take (i := 1) (oi := ?ow682_1) (v := ?vw682_1) (m' := 3) ?hw682_1 (by kernel_rfl) (by kernel_rfl) (fun _ _ _ h => h) (Or.inl ⟨?sw682_1, ?yw682_1⟩) (by assumption) ?nw682_1
          case hw682_1 => simp only [List.getElem?_toArray, List.getElem?_cons_succ, List.getElem?_cons_zero]; rfl
          case sw682_1 => rfl
          case yw682_1 => (intro w hSw; (try dsimp only at hSw); go_simp <;> with_reducible rfl)
          try simp only [Act.put, List.setIfInBounds_toArray, List.set_cons_zero, List.set_cons_succ]
          refine hR.take (i := 2) (oi := ?ow683_2) (v := ?vw683_2) (m' := 7) ?hw683_2 (by kernel_rfl) (by kernel_rfl) (fun _ _ _ h => h) (Or.inl ⟨?sw683_2, ?yw683_2⟩) (by assumption) ?nw683_2
          case hw683_2 => simp only [List.getElem?_toArray, List.getElem?_cons_succ, List.getElem?_cons_zero]; rfl
          case sw683_2 => rfl
          case yw683_2 => (intro w hSw; (try dsimp only at hSw); go_simp <;> with_reducible rfl)
          try simp only [Act.put, List.setIfInBounds_toArray, List.set_cons_zero, List.set_cons_succ]
          refine hR.take (i := 3) (oi := ?ow684_3) (v := ?vw684_3) (m' := 15) ?hw684_3 (by kernel_rfl) (by kernel_rfl) (fun _ _ _ h => h) (Or.inl ⟨?sw684_3, ?yw684_3⟩) (by assumption) ?nw684_3
          case hw684_3 => simp only [List.getElem?_toArray, List.getElem?_cons_succ, List.getElem?_cons_zero]; rfl
          case sw684_3 => rfl
          case yw684_3 => (intro w hSw; (try dsimp only at hSw); go_simp <;> with_reducible rfl)
          try simp only [Act.put, List.setIfInBounds_toArray, List.set_cons_zero, List.set_cons_succ]
          refine hR.take (i := 4) (oi := ?ow685_4) (v := ?vw685_4) (m' := 31) ?hw685_4 (by kernel_rfl) (by kernel_rfl) (fun _ _ _ h => h) (Or.inl ⟨?sw685_4, ?yw685_4⟩) (by assumption) ?nw685_4
          case hw685_4 => simp only [List.getElem?_toArray, List.getElem?_cons_succ, List.getElem?_cons_zero]; rfl
          case sw685_4 => rfl
          case yw685_4 => (intro w hSw; (try dsimp only at hSw); go_simp <;> with_reducible rfl)
          try simp only [Act.put, List.setIfInBounds_toArray, List.set_cons_zero, List.set_cons_succ]
          refine hR.take (i := 5) (oi := ?ow686_5) (v := ?vw686_5) (m' := 63) ?hw686_5 (by kernel_rfl) (by kernel_rfl) (fun _ _ _ h => h) (Or.inl ⟨?sw686_5, ?yw686_5⟩) (by assumption) ?nw686_5
          case hw686_5 => simp only [List.getElem?_toArray, List.getElem?_cons_succ, List.getElem?_cons_zero]; rfl
          case sw686_5 => rfl
          case yw686_5 => (intro w hSw; (try dsimp only at hSw); go_simp <;> with_reducible rfl)
          try simp only [Act.put, List.setIfInBounds_toArray, List.set_cons_zero, List.set_cons_succ]
          refine hR.take (i := 6) (oi := ?ow687_6) (v := ?vw687_6) (m' := 127) ?hw687_6 (by kernel_rfl) (by kernel_rfl) (fun _ _ _ h => h) (Or.inl ⟨?sw687_6, ?yw687_6⟩) (by assumption) ?nw687_6
          case hw687_6 => simp only [List.getElem?_toArray, List.getElem?_cons_succ, List.getElem?_cons_zero]; rfl
          case sw687_6 => rfl
          case yw687_6 => (intro w hSw; (try dsimp only at hSw); go_simp <;> with_reducible rfl)
          try simp only [Act.put, List.setIfInBounds_toArray, List.set_cons_zero, List.set_cons_succ]
          refine hR.take (i := 7) (oi := ?ow688_7) (v := ?vw688_7) (m' := 255) ?hw688_7 (by kernel_rfl) (by kernel_rfl) (fun _ _ _ h => h) (Or.inl ⟨?sw688_7, ?yw688_7⟩) (by assumption) ?nw688_7
          case hw688_7 => simp only [List.getElem?_toArray, List.getElem?_cons_succ, List.getElem?_cons_zero]; rfl
          case sw688_7 => rfl
          case yw688_7 => (intro w hSw; (try dsimp only at hSw); go_simp <;> with_reducible rfl)
          try simp only [Act.put, List.setIfInBounds_toArray, List.set_cons_zero, List.set_cons_succ]
          refine hR.take (i := 8) (oi := ?ow689_8) (v := ?vw689_8) (m' := 511) ?hw689_8 (by kernel_rfl) (by kernel_rfl) (fun _ _ _ h => h) (Or.inl ⟨?sw689_8, ?yw689_8⟩) (by assumption) ?nw689_8
          case hw689_8 => simp only [List.getElem?_toArray, List.getElem?_cons_succ, List.getElem?_cons_zero]; rfl
          case sw689_8 => rfl
          case yw689_8 => (intro w hSw; (try dsimp only at hSw); go_simp <;> with_reducible rfl)
          try simp only [Act.put, List.setIfInBounds_toArray, List.set_cons_zero, List.set_cons_succ]
          refine hR.take (i := 9) (oi := ?ow690_9) (v := ?vw690_9) (m' := 1023) ?hw690_9 (by kernel_rfl) (by kernel_rfl) (fun _ _ _ h => h) (Or.inl ⟨?sw690_9, ?yw690_9⟩) (by assumption) ?nw690_9
          case hw690_9 => simp only [List.getElem?_toArray, List.getElem?_cons_succ, List.getElem?_cons_zero]; rfl
          case sw690_9 => rfl
          case yw690_9 => (intro w hSw; (try dsimp only at hSw); go_simp <;> with_reducible rfl)
          try simp only [Act.put, List.setIfInBounds_toArray, List.set_cons_zero, List.set_cons_succ]
          refine hR.take (i := 10) (oi := ?ow691_10) (v := ?vw691_10) (m' := 2047) ?hw691_10 (by kernel_rfl) (by kernel_rfl) (fun _ _ _ h => h) (Or.inl ⟨?sw691_10, ?yw691_10⟩) (by assumption) ?nw691_10
          case hw691_10 => simp only [List.getElem?_toArray, List.getElem?_cons_succ, List.getElem?_cons_zero]; rfl
          case sw691_10 => rfl
          case yw691_10 => (intro w hSw; (try dsimp only at hSw); go_simp <;> with_reducible rfl)
          try simp only [Act.put, List.setIfInBounds_toArray, List.set_cons_zero, List.set_cons_succ]
          refine hR.take (i := 11) (oi := ?ow692_11) (v := ?vw692_11) (m' := 4095) ?hw692_11 (by kernel_rfl) (by kernel_rfl) (fun _ _ _ h => h) (Or.inl ⟨?sw692_11, ?yw692_11⟩) (by assumption) ?nw692_11
          case hw692_11 => simp only [List.getElem?_toArray, List.getElem?_cons_succ, List.getElem?_cons_zero]; rfl
          case sw692_11 => rfl
          case yw692_11 => (intro w hSw; (try dsimp only at hSw); go_simp <;> with_reducible rfl)
          try simp only [Act.put, List.setIfInBounds_toArray, List.set_cons_zero, List.set_cons_succ]
          refine hR.take (i := 12) (oi := ?ow693_12) (v := ?vw693_12) (m' := 8191) ?hw693_12 (by kernel_rfl) (by kernel_rfl) (fun _ _ _ h => h) (Or.inl ⟨?sw693_12, ?yw693_12⟩) (by assumption) ?nw693_12
          case hw693_12 => simp only [List.getElem?_toArray, List.getElem?_cons_succ, List.getElem?_cons_zero]; rfl
          case sw693_12 => rfl
          case yw693_12 => (intro w hSw; (try dsimp only at hSw); go_simp <;> with_reducible rfl)
          try simp only [Act.put, List.setIfInBounds_toArray, List.set_cons_zero, List.set_cons_succ]
          refine hR.take (i := 13) (oi := ?ow694_13) (v := ?vw694_13) (m' := 16383) ?hw694_13 (by kernel_rfl) (by kernel_rfl) (fun _ _ _ h => h) (Or.inl ⟨?sw694_13, ?yw694_13⟩) (by assumption) ?nw694_13
          case hw694_13 => simp only [List.getElem?_toArray, List.getElem?_cons_succ, List.getElem?_cons_zero]; rfl
          case sw694_13 => rfl
          case yw694_13 => (intro w hSw; (try dsimp only at hSw); go_simp <;> with_reducible rfl)
          try simp only [Act.put, List.setIfInBounds_toArray, List.set_cons_zero, List.set_cons_succ]
          refine hR.take (i := 14) (oi := ?ow695_14) (v := ?vw695_14) (m' := 32767) ?hw695_14 (by kernel_rfl) (by kernel_rfl) (fun _ _ _ h => h) (Or.inl ⟨?sw695_14, ?yw695_14⟩) (by assumption) ?nw695_14
          case hw695_14 => simp only [List.getElem?_toArray, List.getElem?_cons_succ, List.getElem?_cons_zero]; rfl
          case sw695_14 => rfl
          case yw695_14 => (intro w hSw; (try dsimp only at hSw); go_simp <;> with_reducible rfl)
          try simp only [Act.put, List.setIfInBounds_toArray, List.set_cons_zero, List.set_cons_succ]
          refine hR.take (i := 15) (oi := ?ow696_15) (v := ?vw696_15) (m' := 65535) ?hw696_15 (by kernel_rfl) (by kernel_rfl) (fun _ _ _ h => h) (Or.inl ⟨?sw696_15, ?yw696_15⟩) (by assumption) ?nw696_15
          case hw696_15 => simp only [List.getElem?_toArray, List.getElem?_cons_succ, List.getElem?_cons_zero]; rfl
          case sw696_15 => rfl
          case yw696_15 => (intro w hSw; (try dsimp only at hSw); go_simp <;> with_reducible rfl)
          try simp only [Act.put, List.setIfInBounds_toArray, List.set_cons_zero, List.set_cons_succ]
          refine hR.take (i := 16) (oi := ?ow697_16) (v := ?vw697_16) (m' := 131071) ?hw697_16 (by kernel_rfl) (by kernel_rfl) (fun _ _ _ h => h) (Or.inl ⟨?sw697_16, ?yw697_16⟩) (by assumption) ?nw697_16
          case hw697_16 => simp only [List.getElem?_toArray, List.getElem?_cons_succ, List.getElem?_cons_zero]; rfl
          case sw697_16 => rfl
          case yw697_16 => (intro w hSw; (try dsimp only at hSw); go_simp <;> with_reducible rfl)
          try simp only [Act.put, List.setIfInBounds_toArray, List.set_cons_zero, List.set_cons_succ]
          refine hR.take (i := 17) (oi := ?ow698_17) (v := ?vw698_17) (m' := 262143) ?hw698_17 (by kernel_rfl) (by kernel_rfl) (fun _ _ _ h => h) (Or.inl ⟨?sw698_17, ?yw698_17⟩) (by assumption) ?nw698_17
          case hw698_17 => simp only [List.getElem?_toArray, List.getElem?_cons_succ, List.getElem?_cons_zero]; rfl
          case sw698_17 => rfl
          case yw698_17 => (intro w hSw; (try dsimp only at hSw); go_simp <;> with_reducible rfl)
          try simp only [Act.put, List.setIfInBounds_toArray, List.set_cons_zero, List.set_cons_succ]
          refine hR.take (i := 18) (oi := ?ow699_18) (v := ?vw699_18) (m' := 524287) ?hw699_18 (by kernel_rfl) (by kernel_rfl) (fun _ _ _ h => h) (Or.inl ⟨?sw699_18, ?yw699_18⟩) (by assumption) ?nw699_18
          case hw699_18 => simp only [List.getElem?_toArray, List.getElem?_cons_succ, List.getElem?_cons_zero]; rfl
          case sw699_18 => rfl
          case yw699_18 => (intro w hSw; (try dsimp only at hSw); go_simp <;> with_reducible rfl)
          try simp only [Act.put, List.setIfInBounds_toArray, List.set_cons_zero, List.set_cons_succ]
          refine hR.take (i := 19) (oi := ?ow700_19) (v := ?vw700_19) (m' := 1048575) ?hw700_19 (by kernel_rfl) (by kernel_rfl) (fun _ _ _ h => h) (Or.inl ⟨?sw700_19, ?yw700_19⟩) (by assumption) ?nw700_19
          case hw700_19 => simp only [List.getElem?_toArray, List.getElem?_cons_succ, List.getElem?_cons_zero]; rfl
          case sw700_19 => rfl
          case yw700_19 => (intro w hSw; (try dsimp only at hSw); go_simp <;> with_reducible rfl)
          try simp only [Act.put, List.setIfInBounds_toArray, List.set_cons_zero, List.set_cons_succ]
          refine hR.come (rs := [20]) (by kernel_rfl) (by simp) ?_
          refine AllReadyH.cons (o := ?o701_20) ?h701_20 (fun K hK => ?kw701_20) AllReadyH.nil
          case h701_20 => simp only [List.getElem?_toArray, List.getElem?_cons_succ, List.getElem?_cons_zero]; rfl
          go_simp
          go_at_call 72; refine (wsP (c := c) HKX.out _).mono ?_; rintro e w2 ⟨rfl, rfl⟩
          refine hK.out _ _ ?_ (fun hHeld => ?_)
          · (first | (repeat' (first | with_reducible assumption | exact Nat.le_refl _ | with_reducible refine Below.drew ?_)) | (first | with_reducible assumption | (with_reducible refine Below.drew ?_; with_reducible assumption) | (with_reducible refine ba _ _ ?_; with_reducible assumption) | (with_reducible refine Below.drew ?_; with_reducible refine ba _ _ ?_; with_reducible assumption) | exact Below.refl _ _ | exact (Below.refl _ _).drew | exact (Below.refl _ _).alloc (Nat.le_refl _) _ | (refine bc _ _ (by assumption) (by assumption))))
          clear hK K
          refine RegOk.put_ (m' := 2097151) (by kernel_rfl) ?_
          try simp only [Act.put, List.setIfInBounds_toArray, List.set_cons_zero, List.set_cons_succ]
          refine hR.take (i := 21) (oi := ?ow702_21) (v := ?vw702_21) (m' := 4194303) ?hw702_21 (by kernel_rfl) (by kernel_rfl) (fun _ _ _ h => h) (Or.inl ⟨?sw702_21, ?yw702_21⟩) (by assumption) ?nw702_21
          case hw702_21 => simp only [List.getElem?_toArray, List.getElem?_cons_succ, List.getElem?_cons_zero]; rfl
          case sw702_21 => rfl
          case yw702_21 => (intro w hSw; (try dsimp only at hSw); go_simp <;> with_reducible rfl)
          try simp only [Act.put, List.setIfInBounds_toArray, List.set_cons_zero, List.set_cons_succ]
          refine hR.take (i := 22) (oi := ?ow703_22) (v := ?vw703_22) (m' := 8388607) ?hw703_22 (by kernel_rfl) (by kernel_rfl) (fun _ _ _ h => h) (Or.inl ⟨?sw703_22, ?yw703_22⟩) (by assumption) ?nw703_22
          case hw703_22 => simp only [List.getElem?_toArray, List.getElem?_cons_succ, List.getElem?_cons_zero]; rfl
          case sw703_22 => rfl
          case yw703_22 => (intro w hSw; (try dsimp only at hSw); go_simp <;> with_reducible rfl)
          try simp only [Act.put, List.setIfInBounds_toArray, List.set_cons_zero, List.set_cons_succ]
          refine hR.all (by kernel_rfl) ?_ _
          refine NoPanic.normal ?_
          go_wp2_with fail
          go_meet
          case rel => exact ⟨rfl, (by (first | with_reducible assumption | (with_reducible refine Below.drew ?_; with_reducible assumption) | (with_reducible refine ba _ _ ?_; with_reducible assumption) | (with_reducible refine Below.drew ?_; with_reducible refine ba _ _ ?_; with_reducible assumption) | exact Below.refl _ _ | exact (Below.refl _ _).drew | exact (Below.refl _ _).alloc (Nat.le_refl _) _ | (refine bc _ _ (by assumption) (by assumption))))⟩
        | false =>
          have h0 : ¬ 0 ≤ kx := by rw [← hkx, wsI_no hws]; decide
          obtain rfl : b = false := by rw [← hb, hws]
          clear hc hkx hws hb
          refine wp_region_noPanic ?_
          refine wp_region_held_drew (S := fun X => Below wr.heap.size wr X) (by kernel_rfl) ?_ (fun hHeld => ?_)
          · (first | (repeat' (first | with_reducible assumption | exact Nat.le_refl _ | with_reducible refine Below.drew ?_)) | (first | with_reducible assumption | (with_reducible refine Below.drew ?_; with_reducible assumption) | (with_reducible refine ba _ _ ?_; with_reducible assumption) | (with_reducible refine Below.drew ?_; with_reducible refine ba _ _ ?_; with_reducible assumption) | exact Below.refl _ _ | exact (Below.refl _ _).drew | exact (Below.refl _ _).alloc (Nat.le_refl _) _ | (refine bc _ _ (by assumption) (by assumption))))
          refine RegOk.begin_ (n := 23) (T := pa2A) ⟨by kernel_rfl, by kernel_rfl, by kernel_rfl, by kernel_rfl⟩ fun hR => ?_
          refine hR.take (i := 0) (oi := ?ow704_0) (v := ?vw704_0) (m' := 1) ?hw704_0 (by kernel_rfl) (by kernel_rfl) (fun _ _ _ h => h) (Or.inl ⟨?sw704_0, ?yw704_0⟩) (by assumption) ?nw704_0
          case hw704_0 => simp only [List.getElem?_toArray, List.getElem?_cons_succ, List.getElem?_cons_zero]; rfl
          case sw704_0 => rfl
          case yw704_0 => (intro w hSw; (try dsimp only at hSw); go_simp <;> with_reducible rfl)
          try simp only [Act.put, List.setIfInBounds_toArray, List.set_cons_zero, List.set_cons_succ]
          refine hR.take (i := 1) (oi := ?ow705_1) (v := ?vw705_1) (m' := 3) ?hw705_1 (by kernel_rfl) (by kernel_rfl) (fun _ _ _ h => h) (Or.inl ⟨?sw705_1, ?yw705_1⟩) (by assumption) ?nw705_1
          case hw705_1 => simp only [List.getElem?_toArray, List.getElem?_cons_succ, List.getElem?_cons_zero]; rfl
          case sw705_1 => rfl
          case yw705_1 => (intro w hSw; (try dsimp only at hSw); go_simp <;> with_reducible rfl)
          try simp only [Act.put, List.setIfInBounds_toArray, List.set_cons_zero, List.set_cons_succ]
          refine hR.take (i := 2) (oi := ?ow706_2) (v := ?vw706_2) (m' := 7) ?hw706_2 (by kernel_rfl) (by kernel_rfl) (fun _ _ _ h => h) (Or.inl ⟨?sw706_2, ?yw706_2⟩) (by assumption) ?nw706_2
          case hw706_2 => simp only [List.getElem?_toArray, List.getElem?_cons_succ, List.getElem?_cons_zero]; rfl
          case sw706_2 => rfl
          case yw706_2 => (intro w hSw; (try dsimp only at hSw); go_simp <;> with_reducible rfl)
          try simp only [Act.put, List.setIfInBounds_toArray, List.set_cons_zero, List.set_cons_succ]
          refine hR.take (i := 3) (oi := ?ow707_3) (v := ?vw707_3) (m' := 15) ?hw707_3 (by kernel_rfl) (by kernel_rfl) (fun _ _ _ h => h) (Or.inl ⟨?sw707_3, ?yw707_3⟩) (by assumption) ?nw707_3
          case hw707_3 => simp only [List.getElem?_toArray, List.getElem?_cons_succ, List.getElem?_cons_zero]; rfl
          case sw707_3 => rfl
          case yw707_3 => (intro w hSw; (try dsimp only at hSw); go_simp <;> with_reducible rfl)
          try simp only [Act.put, List.setIfInBounds_toArray, List.set_cons_zero, List.set_cons_succ]
          refine hR.take (i := 4) (oi := ?ow708_4) (v := ?vw708_4) (m' := 31) ?hw708_4 (by kernel_rfl) (by kernel_rfl) (fun _ _ _ h => h) (Or.inl ⟨?sw708_4, ?yw708_4⟩) (by assumption) ?nw708_4
          case hw708_4 => simp only [List.getElem?_toArray, List.getElem?_cons_succ, List.getElem?_cons_zero]; rfl
          case sw708_4 => rfl
          case yw708_4 => (intro w hSw; (try dsimp only at hSw); go_simp <;> with_reducible rfl)
          try simp only [Act.put, List.setIfInBounds_toArray, List.set_cons_zero, List.set_cons_succ]
          refine hR.take (i := 5) (oi := ?ow709_5) (v := ?vw709_5) (m' := 63) ?hw709_5 (by kernel_rfl) (by kernel_rfl) (fun _ _ _ h => h) (Or.inl ⟨?sw709_5, ?yw709_5⟩) (by assumption) ?nw709_5
          case hw709_5 => simp only [List.getElem?_toArray, List.getElem?_cons_succ, List.getElem?_cons_zero]; rfl
          case sw709_5 => rfl
          case yw709_5 => (intro w hSw; (try dsimp only at hSw); go_simp <;> with_reducible rfl)
          try simp only [Act.put, List.setIfInBounds_toArray, List.set_cons_zero, List.set_cons_succ]
          refine hR.take (i := 6) (oi := ?ow710_6) (v := ?vw710_6) (m' := 127) ?hw710_6 (by kernel_rfl) (by kernel_rfl) (fun _ _ _ h => h) (Or.inl ⟨?sw710_6, ?yw710_6⟩) (by assumption) ?nw710_6
          case hw710_6 => simp only [List.getElem?_toArray, List.getElem?_cons_succ, List.getElem?_cons_zero]; rfl
          case sw710_6 => rfl
          case yw710_6 => (intro w hSw; (try dsimp only at hSw); go_simp <;> with_reducible rfl)
          try simp only [Act.put, List.setIfInBounds_toArray, List.set_cons_zero, List.set_cons_succ]
          refine hR.take (i := 7) (oi := ?ow711_7) (v := ?vw711_7) (m' := 255) ?hw711_7 (by kernel_rfl) (by kernel_rfl) (fun _ _ _ h => h) (Or.inl ⟨?sw711_7, ?yw711_7⟩) (by assumption) ?nw711_7
          case hw711_7 => simp only [List.getElem?_toArray, List.getElem?_cons_succ, List.getElem?_cons_zero]; rfl
          case sw711_7 => rfl
          case yw711_7 => (intro w hSw; (try dsimp only at hSw); go_simp <;> with_reducible rfl)
          try simp only [Act.put, List.setIfInBounds_toArray, List.set_cons_zero, List.set_cons_succ]
          refine hR.take (i := 8) (oi := ?ow712_8) (v := ?vw712_8) (m' := 511) ?hw712_8 (by kernel_rfl) (by kernel_rfl) (fun _ _ _ h => h) (Or.inl ⟨?sw712_8, ?yw712_8⟩) (by assumption) ?nw712_8
          case hw712_8 => simp only [List.getElem?_toArray, List.getElem?_cons_succ, List.getElem?_cons_zero]; rfl
          case sw712_8 => rfl
          case yw712_8 => (intro w hSw; (try dsimp only at hSw); go_simp <;> with_reducible rfl)
          try simp only [Act.put, List.setIfInBounds_toArray, List.set_cons_zero, List.set_cons_succ]
          refine hR.take (i := 9) (oi := ?ow713_9) (v := ?vw713_9) (m' := 1023) ?hw713_9 (by kernel_rfl) (by kernel_rfl) (fun _ _ _ h => h) (Or.inl ⟨?sw713_9, ?yw713_9⟩) (by assumption) ?nw713_9
          case hw713_9 => simp only [List.getElem?_toArray, List.getElem?_cons_succ, List.getElem?_cons_zero]; rfl
          case sw713_9 => rfl
          case yw713_9 => (intro w hSw; (try dsimp only at hSw); go_simp <;> with_reducible rfl)
          try simp only [Act.put, List.setIfInBounds_toArray, List.set_cons_zero, List.set_cons_succ]
          refine hR.take (i := 10) (oi := ?ow714_10) (v := ?vw714_10) (m' := 2047) ?hw714_10 (by kernel_rfl) (by kernel_rfl) (fun _ _ _ h => h) (Or.inl ⟨?sw714_10, ?yw714_10⟩) (by assumption) ?nw714_10
          case hw714_10 => simp only [List.getElem?_toArray, List.getElem?_cons_succ, List.getElem?_cons_zero]; rfl
          case sw714_10 => rfl
          case yw714_10 => (intro w hSw; (try dsimp only at hSw); go_simp <;> with_reducible rfl)
          try simp only [Act.put, List.setIfInBounds_toArray, List.set_cons_zero, List.set_cons_succ]
          refine hR.take (i := 11) (oi := ?ow715_11) (v := ?vw715_11) (m' := 4095) ?hw715_11 (by kernel_rfl) (by kernel_rfl) (fun _ _ _ h => h) (Or.inl ⟨?sw715_11, ?yw715_11⟩) (by assumption) ?nw715_11
          case hw715_11 => simp only [List.getElem?_toArray, List.getElem?_cons_succ, List.getElem?_cons_zero]; rfl
          case sw715_11 => rfl
          case yw715_11 => (intro w hSw; (try dsimp only at hSw); go_simp <;> with_reducible rfl)
          try simp only [Act.put, List.setIfInBounds_toArray, List.set_cons_zero, List.set_cons_succ]
          refine hR.take (i := 12) (oi := ?ow716_12) (v := ?vw716_12) (m' := 8191) ?hw716_12 (by kernel_rfl) (by kernel_rfl) (fun _ _ _ h => h) (Or.inl ⟨?sw716_12, ?yw716_12⟩) (by assumption) ?nw716_12
          case hw716_12 => simp only [List.getElem?_toArray, List.getElem?_cons_succ, List.getElem?_cons_zero]; rfl
          case sw716_12 => rfl
          case yw716_12 => (intro w hSw; (try dsimp only at hSw); go_simp <;> with_reducible rfl)
          try simp only [Act.put, List.setIfInBounds_toArray, List.set_cons_zero, List.set_cons_succ]
          refine hR.take (i := 13) (oi := ?ow717_13) (v := ?vw717_13) (m' := 16383) ?hw717_13 (by kernel_rfl) (by kernel_rfl) (fun _ _ _ h => h) (Or.inl ⟨?sw717_13, ?yw717_13⟩) (by assumption) ?nw717_13
          case hw717_13 => simp only [List.getElem?_toArray, List.getElem?_cons_succ, List.getElem?_cons_zero]; rfl
          case sw717_13 => rfl
          case yw717_13 => (intro w hSw; (try dsimp only at hSw); go_simp <;> with_reducible rfl)
          try simp only [Act.put, List.setIfInBounds_toArray, List.set_cons_zero, List.set_cons_succ]
          refine hR.take (i := 14) (oi := ?ow718_14) (v := ?vw718_14) (m' := 32767) ?hw718_14 (by kernel_rfl) (by kernel_rfl) (fun _ _ _ h => h) (Or.inl ⟨?sw718_14, ?yw718_14⟩) (by assumption) ?nw718_14
          case hw718_14 => simp only [List.getElem?_toArray, List.getElem?_cons_succ, List.getElem?_cons_zero]; rfl
          case sw718_14 => rfl
          case yw718_14 => (intro w hSw; (try dsimp only at hSw); go_simp <;> with_reducible rfl)
          try simp only [Act.put, List.setIfInBounds_toArray, List.set_cons_zero, List.set_cons_succ]
          refine hR.take (i := 15) (oi := ?ow719_15) (v := ?vw719_15) (m' := 65535) ?hw719_15 (by kernel_rfl) (by kernel_rfl) (fun _ _ _ h => h) (Or.inl ⟨?sw719_15, ?yw719_15⟩) (by assumption) ?nw719_15
          case hw719_15 => simp only [List.getElem?_toArray, List.getElem?_cons_succ, List.getElem?_cons_zero]; rfl
          case sw719_15 => rfl
          case yw719_15 => (intro w hSw; (try dsimp only at hSw); go_simp <;> with_reducible rfl)
          try simp only [Act.put, List.setIfInBounds_toArray, List.set_cons_zero, List.set_cons_succ]
          refine hR.take (i := 16) (oi := ?ow720_16) (v := ?vw720_16) (m' := 131071) ?hw720_16 (by kernel_rfl) (by kernel_rfl) (fun _ _ _ h => h) (Or.inl ⟨?sw720_16, ?yw720_16⟩) (by assumption) ?nw720_16
          case hw720_16 => simp only [List.getElem?_toArray, List.getElem?_cons_succ, List.getElem?_cons_zero]; rfl
          case sw720_16 => rfl
          case yw720_16 => (intro w hSw; (try dsimp only at hSw); go_simp <;> with_reducible rfl)
          try simp only [Act.put, List.setIfInBounds_toArray, List.set_cons_zero, List.set_cons_succ]
          refine hR.take (i := 17) (oi := ?ow721_17) (v := ?vw721_17) (m' := 262143) ?hw721_17 (by kernel_rfl) (by kernel_rfl) (fun _ _ _ h => h) (Or.inl ⟨?sw721_17, ?yw721_17⟩) (by assumption) ?nw721_17
          case hw721_17 => simp only [List.getElem?_toArray, List.getElem?_cons_succ, List.getElem?_cons_zero]; rfl
          case sw721_17 => rfl
          case yw721_17 => (intro w hSw; (try dsimp only at hSw); go_simp <;> with_reducible rfl)
          try simp only [Act.put, List.setIfInBounds_toArray, List.set_cons_zero, List.set_cons_succ]
          refine hR.take (i := 18) (oi := ?ow722_18) (v := ?vw722_18) (m' := 524287) ?hw722_18 (by kernel_rfl) (by kernel_rfl) (fun _ _ _ h => h) (Or.inl ⟨?sw722_18, ?yw722_18⟩) (by assumption) ?nw722_18
          case hw722_18 => simp only [List.getElem?_toArray, List.getElem?_cons_succ, List.getElem?_cons_zero]; rfl
          case sw722_18 => rfl
          case yw722_18 => (intro w hSw; (try dsimp only at hSw); go_simp <;> with_reducible rfl)
          try simp only [Act.put, List.setIfInBounds_toArray, List.set_cons_zero, List.set_cons_succ]
          refine hR.take (i := 19) (oi := ?ow723_19) (v := ?vw723_19) (m' := 1048575) ?hw723_19 (by kernel_rfl) (by kernel_rfl) (fun _ _ _ h => h) (Or.inl ⟨?sw723_19, ?yw723_19⟩) (by assumption) ?nw723_19
          case hw723_19 => simp only [List.getElem?_toArray, List.getElem?_cons_succ, List.getElem?_cons_zero]; rfl
          case sw723_19 => rfl
          case yw723_19 => (intro w hSw; (try dsimp only at hSw); go_simp <;> with_reducible rfl)
          try simp only [Act.put, List.setIfInBounds_toArray, List.set_cons_zero, List.set_cons_succ]
          refine hR.come (rs := [20]) (by kernel_rfl) (by simp) ?_
          refine AllReadyH.cons (o := ?o724_20) ?h724_20 (fun K hK => ?kw724_20) AllReadyH.nil
          case h724_20 => simp only [List.getElem?_toArray, List.getElem?_cons_succ, List.getElem?_cons_zero]; rfl
          go_simp
          go_at_call 72; refine (wsP (c := c) HKX.out _).mono ?_; rintro e w2 ⟨rfl, rfl⟩
          refine hK.out _ _ ?_ (fun hHeld => ?_)
          · (first | (repeat' (first | with_reducible assumption | exact Nat.le_refl _ | with_reducible refine Below.drew ?_)) | (first | with_reducible assumption | (with_reducible refine Below.drew ?_; with_reducible assumption) | (with_reducible refine ba _ _ ?_; with_reducible assumption) | (with_reducible refine Below.drew ?_; with_reducible refine ba _ _ ?_; with_reducible assumption) | exact Below.refl _ _ | exact (Below.refl _ _).drew | exact (Below.refl _ _).alloc (Nat.le_refl _) _ | (refine bc _ _ (by assumption) (by assumption))))
          clear hK K
          refine RegOk.put_ (m' := 2097151) (by kernel_rfl) ?_
          try simp only [Act.put, List.setIfInBounds_toArray, List.set_cons_zero, List.set_cons_succ]
          refine hR.take (i := 21) (oi := ?ow725_21) (v := ?vw725_21) (m' := 4194303) ?hw725_21 (by kernel_rfl) (by kernel_rfl) (fun _ _ _ h => h) (Or.inl ⟨?sw725_21, ?yw725_21⟩) (by assumption) ?nw725_21
          case hw725_21 => simp only [List.getElem?_toArray, List.getElem?_cons_succ, List.getElem?_cons_zero]; rfl
          case sw725_21 => rfl
          case yw725_21 => (intro w hSw; (try dsimp only at hSw); go_simp <;> with_reducible rfl)
          try simp only [Act.put, List.setIfInBounds_toArray, List.set_cons_zero, List.set_cons_succ]
          refine hR.take (i := 22) (oi := ?ow726_22) (v := ?vw726_22) (m' := 8388607) ?hw726_22 (by kernel_rfl) (by kernel_rfl) (fun _ _ _ h => h) (Or.inl ⟨?sw726_22, ?yw726_22⟩) (by assumption) ?nw726_22
          case hw726_22 => simp only [List.getElem?_toArray, List.getElem?_cons_succ, List.getElem?_cons_zero]; rfl
          case sw726_22 => rfl
          case yw726_22 => (intro w hSw; (try dsimp only at hSw); go_simp <;> with_reducible rfl)
          try simp only [Act.put, List.setIfInBounds_toArray, List.set_cons_zero, List.set_cons_succ]
          refine hR.all (by kernel_rfl) ?_ _
          refine NoPanic.normal ?_
          go_wp2_with fail
          go_meet
          case rel => exact ⟨rfl, (by (first | with_reducible assumption | (with_reducible refine Below.drew ?_; with_reducible assumption) | (with_reducible refine ba _ _ ?_; with_reducible assumption) | (with_reducible refine Below.drew ?_; with_reducible refine ba _ _ ?_; with_reducible assumption) | exact Below.refl _ _ | exact (Below.refl _ _).drew | exact (Below.refl _ _).alloc (Nat.le_refl _) _ | (refine bc _ _ (by assumption) (by assumption))))⟩
      · have hj1 : ¬ (j : Int) < (bs.length : Int) := by omega
        obtain rfl : b = false := by have := HB.out; rw [List.getElem?_eq_none (by omega)] at this; exact this.symm
        refine wp_region_noPanic ?_
        refine wp_region_held_drew (S := fun X => Below wr.heap.size wr X) (by kernel_rfl) ?_ (fun hHeld => ?_)
        · (first | (repeat' (first | with_reducible assumption | exact Nat.le_refl _ | with_reducible refine Below.drew ?_)) | (first | with_reducible assumption | (with_reducible refine Below.drew ?_; with_reducible assumption) | (with_reducible refine ba _ _ ?_; with_reducible assumption) | (with_reducible refine Below.drew ?_; with_reducible refine ba _ _ ?_; with_reducible assumption) | exact Below.refl _ _ | exact (Below.refl _ _).drew | exact (Below.refl _ _).alloc (Nat.le_refl _) _ | (refine bc _ _ (by assumption) (by assumption))))
        refine RegOk.begin_ (n := 23) (T := pa2A) ⟨by kernel_rfl, by kernel_rfl, by kernel_rfl, by kernel_rfl⟩ fun hR => ?_
        refine hR.take (i := 0) (oi := ?ow727_0) (v := ?vw727_0) (m' := 1) ?hw727_0 (by kernel_rfl) (by kernel_rfl) (fun _ _ _ h => h) (Or.inl ⟨?sw727_0, ?yw727_0⟩) (by assumption) ?nw727_0
        case hw727_0 => simp only [List.getElem?_toArray, List.getElem?_cons_succ, List.getElem?_cons_zero]; rfl
        case sw727_0 => rfl
        case yw727_0 => (intro w hSw; (try dsimp only at hSw); go_simp <;> with_reducible rfl)
        try simp only [Act.put, List.setIfInBounds_toArray, List.set_cons_zero, List.set_cons_succ]
        refine hR.take (i := 1) (oi := ?ow728_1) (v := ?vw728_1) (m' := 3) ?hw728_1 (by kernel_rfl) (by kernel_rfl) (fun _ _ _ h => h) (Or.inl ⟨?sw728_1, ?yw728_1⟩) (by assumption) ?nw728_1
        case hw728_1 => simp only [List.getElem?_toArray, List.getElem?_cons_succ, List.getElem?_cons_zero]; rfl
        case sw728_1 => rfl
        case yw728_1 => (intro w hSw; (try dsimp only at hSw); go_simp <;> with_reducible rfl)
        try simp only [Act.put, List.setIfInBounds_toArray, List.set_cons_zero, List.set_cons_succ]
        refine hR.take (i := 2) (oi := ?ow729_2) (v := ?vw729_2) (m' := 7) ?hw729_2 (by kernel_rfl) (by kernel_rfl) (fun _ _ _ h => h) (Or.inl ⟨?sw729_2, ?yw729_2⟩) (by assumption) ?nw729_2
        case hw729_2 => simp only [List.getElem?_toArray, List.getElem?_cons_succ, List.getElem?_cons_zero]; rfl
        case sw729_2 => rfl
        case yw729_2 => (intro w hSw; (try dsimp only at hSw); go_simp <;> with_reducible rfl)
        try simp only [Act.put, List.setIfInBounds_toArray, List.set_cons_zero, List.set_cons_succ]
        refine hR.take (i := 3) (oi := ?ow730_3) (v := ?vw730_3) (m' := 15) ?hw730_3 (by kernel_rfl) (by kernel_rfl) (fun _ _ _ h => h) (Or.inl ⟨?sw730_3, ?yw730_3⟩) (by assumption) ?nw730_3
        case hw730_3 => simp only [List.getElem?_toArray, List.getElem?_cons_succ, List.getElem?_cons_zero]; rfl
        case sw730_3 => rfl
        case yw730_3 => (intro w hSw; (try dsimp only at hSw); go_simp <;> with_reducible rfl)
        try simp only [Act.put, List.setIfInBounds_toArray, List.set_cons_zero, List.set_cons_succ]
        refine hR.take (i := 4) (oi := ?ow731_4) (v := ?vw731_4) (m' := 31) ?hw731_4 (by kernel_rfl) (by kernel_rfl) (fun _ _ _ h => h) (Or.inl ⟨?sw731_4, ?yw731_4⟩) (by assumption) ?nw731_4
        case hw731_4 => simp only [List.getElem?_toArray, List.getElem?_cons_succ, List.getElem?_cons_zero]; rfl
        case sw731_4 => rfl
        case yw731_4 => (intro w hSw; (try dsimp only at hSw); go_simp <;> with_reducible rfl)
        try simp only [Act.put, List.setIfInBounds_toArray, List.set_cons_zero, List.set_cons_succ]
        refine hR.take (i := 5) (oi := ?ow732_5) (v := ?vw732_5) (m' := 63) ?hw732_5 (by kernel_rfl) (by kernel_rfl) (fun _ _ _ h => h) (Or.inl ⟨?sw732_5, ?yw732_5⟩) (by assumption) ?nw732_5
        case hw732_5 => simp only [List.getElem?_toArray, List.getElem?_cons_succ, List.getElem?_cons_zero]; rfl
        case sw732_5 => rfl
        case yw732_5 => (intro w hSw; (try dsimp only at hSw); go_simp <;> with_reducible rfl)
        try simp only [Act.put, List.setIfInBounds_toArray, List.set_cons_zero, List.set_cons_succ]
        refine hR.take (i := 6) (oi := ?ow733_6) (v := ?vw733_6) (m' := 127) ?hw733_6 (by kernel_rfl) (by kernel_rfl) (fun _ _ _ h => h) (Or.inl ⟨?sw733_6, ?yw733_6⟩) (by assumption) ?nw733_6
        case hw733_6 => simp only [List.getElem?_toArray, List.getElem?_cons_succ, List.getElem?_cons_zero]; rfl
        case sw733_6 => rfl
        case yw733_6 => (intro w hSw; (try dsimp only at hSw); go_simp <;> with_reducible rfl)
        try simp only [Act.put, List.setIfInBounds_toArray, List.set_cons_zero, List.set_cons_succ]
        refine hR.take (i := 7) (oi := ?ow734_7) (v := ?vw734_7) (m' := 255) ?hw734_7 (by kernel_rfl) (by kernel_rfl) (fun _ _ _ h => h) (Or.inl ⟨?sw734_7, ?yw734_7⟩) (by assumption) ?nw734_7
        case hw734_7 => simp only [List.getElem?_toArray, List.getElem?_cons_succ, List.getElem?_cons_zero]; rfl
        case sw734_7 => rfl
        case yw734_7 => (intro w hSw; (try dsimp only at hSw); go_simp <;> with_reducible rfl)
        try simp only [Act.put, List.setIfInBounds_toArray, List.set_cons_zero, List.set_cons_succ]
        refine hR.take (i := 8) (oi := ?ow735_8) (v := ?vw735_8) (m' := 511) ?hw735_8 (by kernel_rfl) (by kernel_rfl) (fun _ _ _ h => h) (Or.inl ⟨?sw735_8, ?yw735_8⟩) (by assumption) ?nw735_8
        case hw735_8 => simp only [List.getElem?_toArray, List.getElem?_cons_succ, List.getElem?_cons_zero]; rfl
        case sw735_8 => rfl
        case yw735_8 => (intro w hSw; (try dsimp only at hSw); go_simp <;> with_reducible rfl)
        try simp only [Act.put, List.setIfInBounds_toArray, List.set_cons_zero, List.set_cons_succ]
        refine hR.take (i := 9) (oi := ?ow736_9) (v := ?vw736_9) (m' := 1023) ?hw736_9 (by kernel_rfl) (by kernel_rfl) (fun _ _ _ h => h) (Or.inl ⟨?sw736_9, ?yw736_9⟩) (by assumption) ?nw736_9
        case hw736_9 => simp only [List.getElem?_toArray, List.getElem?_cons_succ, List.getElem?_cons_zero]; rfl
        case sw736_9 => rfl
        case yw736_9 => (intro w hSw; (try dsimp only at hSw); go_simp <;> with_reducible rfl)
        try simp only [Act.put, List.setIfInBounds_toArray, List.set_cons_zero, List.set_cons_succ]
        refine hR.take (i := 10) (oi := ?ow737_10) (v := ?vw737_10) (m' := 2047) ?hw737_10 (by kernel_rfl) (by kernel_rfl) (fun _ _ _ h => h) (Or.inl ⟨?sw737_10, ?yw737_10⟩) (by assumption) ?nw737_10
        case hw737_10 => simp only [List.getElem?_toArray, List.getElem?_cons_succ, List.getElem?_cons_zero]; rfl
        case sw737_10 => rfl
        case yw737_10 => (intro w hSw; (try dsimp only at hSw); go_simp <;> with_reducible rfl)
        try simp only [Act.put, List.setIfInBounds_toArray, List.set_cons_zero, List.set_cons_succ]
        refine hR.take (i := 11) (oi := ?ow738_11) (v := ?vw738_11) (m' := 4095) ?hw738_11 (by kernel_rfl) (by kernel_rfl) (fun _ _ _ h => h) (Or.inr ⟨?sw738_11, ?yw738_11⟩) (by assumption) ?nw738_11
        case hw738_11 => simp only [List.getElem?_toArray, List.getElem?_cons_succ, List.getElem?_cons_zero]; rfl
        case sw738_11 => rfl
        case yw738_11 => rfl
        try simp only [Act.put, List.setIfInBounds_toArray, List.set_cons_zero, List.set_cons_succ]
        refine hR.take (i := 12) (oi := ?ow739_12) (v := ?vw739_12) (m' := 8191) ?hw739_12 (by kernel_rfl) (by kernel_rfl) (fun _ _ _ h => h) (Or.inr ⟨?sw739_12, ?yw739_12⟩) (by assumption) ?nw739_12
        case hw739_12 => simp only [List.getElem?_toArray, List.getElem?_cons_succ, List.getElem?_cons_zero]; rfl
        case sw739_12 => rfl
        case yw739_12 => rfl
        try simp only [Act.put, List.setIfInBounds_toArray, List.set_cons_zero, List.set_cons_succ]
        refine hR.take (i := 13) (oi := ?ow740_13) (v := ?vw740_13) (m' := 16383) ?hw740_13 (by kernel_rfl) (by kernel_rfl) (fun _ _ _ h => h) (Or.inr ⟨?sw740_13, ?yw740_13⟩) (by assumption) ?nw740_13
        case hw740_13 => simp only [List.getElem?_toArray, List.getElem?_cons_succ, List.getElem?_cons_zero]; rfl
        case sw740_13 => rfl
        case yw740_13 => rfl
        try simp only [Act.put, List.setIfInBounds_toArray, List.set_cons_zero, List.set_cons_succ]
        refine hR.take (i := 14) (oi := ?ow741_14) (v := ?vw741_14) (m' := 32767) ?hw741_14 (by kernel_rfl) (by kernel_rfl) (fun _ _ _ h => h) (Or.inr ⟨?sw741_14, ?yw741_14⟩) (by assumption) ?nw741_14
        case hw741_14 => simp only [List.getElem?_toArray, List.getElem?_cons_succ, List.getElem?_cons_zero]; rfl
        case sw741_14 => rfl
        case yw741_14 => rfl
        try simp only [Act.put, List.setIfInBounds_toArray, List.set_cons_zero, List.set_cons_succ]
        refine hR.take (i := 15) (oi := ?ow742_15) (v := ?vw742_15) (m' := 65535) ?hw742_15 (by kernel_rfl) (by kernel_rfl) (fun _ _ _ h => h) (Or.inr ⟨?sw742_15, ?yw742_15⟩) (by assumption) ?nw742_15
        case hw742_15 => simp only [List.getElem?_toArray, List.getElem?_cons_succ, List.getElem?_cons_zero]; rfl
        case sw742_15 => rfl
        case yw742_15 => rfl
        try simp only [Act.put, List.setIfInBounds_toArray, List.set_cons_zero, List.set_cons_succ]
        refine hR.take (i := 16) (oi := ?ow743_16) (v := ?vw743_16) (m' := 131071) ?hw743_16 (by kernel_rfl) (by kernel_rfl) (fun _ _ _ h => h) (Or.inr ⟨?sw743_16, ?yw743_16⟩) (by assumption) ?nw743_16
        case hw743_16 => simp only [List.getElem?_toArray, List.getElem?_cons_succ, List.getElem?_cons_zero]; rfl
        case sw743_16 => rfl
        case yw743_16 => rfl
        try simp only [Act.put, List.setIfInBounds_toArray, List.set_cons_zero, List.set_cons_succ]
        refine hR.take (i := 17) (oi := ?ow744_17) (v := ?vw744_17) (m' := 262143) ?hw744_17 (by kernel_rfl) (by kernel_rfl) (fun _ _ _ h => h) (Or.inr ⟨?sw744_17, ?yw744_17⟩) (by assumption) ?nw744_17
        case hw744_17 => simp only [List.getElem?_toArray, List.getElem?_cons_succ, List.getElem?_cons_zero]; rfl
        case sw744_17 => rfl
        case yw744_17 => rfl
        try simp only [Act.put, List.setIfInBounds_toArray, List.set_cons_zero, List.set_cons_succ]
        refine hR.take (i := 18) (oi := ?ow745_18) (v := ?vw745_18) (m' := 524287) ?hw745_18 (by kernel_rfl) (by kernel_rfl) (fun _ _ _ h => h) (Or.inr ⟨?sw745_18, ?yw745_18⟩) (by assumption) ?nw745_18
        case hw745_18 => simp only [List.getElem?_toArray, List.getElem?_cons_succ, List.getElem?_cons_zero]; rfl
        case sw745_18 => rfl
        case yw745_18 => rfl
        try simp only [Act.put, List.setIfInBounds_toArray, List.set_cons_zero, List.set_cons_succ]
        refine hR.take (i := 19) (oi := ?ow746_19) (v := ?vw746_19) (m' := 1048575) ?hw746_19 (by kernel_rfl) (by kernel_rfl) (fun _ _ _ h => h) (Or.inr ⟨?sw746_19, ?yw746_19⟩) (by assumption) ?nw746_19
        case hw746_19 => simp only [List.getElem?_toArray, List.getElem?_cons_succ, List.getElem?_cons_zero]; rfl
        case sw746_19 => rfl
        case yw746_19 => rfl
        try simp only [Act.put, List.setIfInBounds_toArray, List.set_cons_zero, List.set_cons_succ]
        refine hR.take (i := 20) (oi := ?ow747_20) (v := ?vw747_20) (m' := 2097151) ?hw747_20 (by kernel_rfl) (by kernel_rfl) (fun _ _ _ h => h) (Or.inr ⟨?sw747_20, ?yw747_20⟩) (by assumption) ?nw747_20
        case hw747_20 => simp only [List.getElem?_toArray, List.getElem?_cons_succ, List.getElem?_cons_zero]; rfl
        case sw747_20 => rfl
        case yw747_20 => rfl
        try simp only [Act.put, List.setIfInBounds_toArray, List.set_cons_zero, List.set_cons_succ]
        refine hR.take (i := 21) (oi := ?ow748_21) (v := ?vw748_21) (m' := 4194303) ?hw748_21 (by kernel_rfl) (by kernel_rfl) (fun _ _ _ h => h) (Or.inr ⟨?sw748_21, ?yw748_21⟩) (by assumption) ?nw748_21
        case hw748_21 => simp only [List.getElem?_toArray, List.getElem?_cons_succ, List.getElem?_cons_zero]; rfl
        case sw748_21 => rfl
        case yw748_21 => rfl
        try simp only [Act.put, List.setIfInBounds_toArray, List.set_cons_zero, List.set_cons_succ]
        refine hR.take (i := 22) (oi := ?ow749_22) (v := ?vw749_22) (m' := 8388607) ?hw749_22 (by kernel_rfl) (by kernel_rfl) (fun _ _ _ h => h) (Or.inl ⟨?sw749_22, ?yw749_22⟩) (by assumption) ?nw749_22
        case hw749_22 => simp only [List.getElem?_toArray, List.getElem?_cons_succ, List.getElem?_cons_zero]; rfl
        case sw749_22 => rfl
        case yw749_22 => (intro w hSw; (try dsimp only at hSw); go_simp <;> with_reducible rfl)
        try simp only [Act.put, List.setIfInBounds_toArray, List.set_cons_zero, List.set_cons_succ]
        refine hR.all (by kernel_rfl) ?_ _
        refine NoPanic.normal ?_
        go_wp2_with fail
        go_meet
        case rel => exact ⟨rfl, (by (first | with_reducible assumption | (with_reducible refine Below.drew ?_; with_reducible assumption) | (with_reducible refine ba _ _ ?_; with_reducible assumption) | (with_reducible refine Below.drew ?_; with_reducible refine ba _ _ ?_; with_reducible assumption) | exact Below.refl _ _ | exact (Below.refl _ _).drew | exact (Below.refl _ _).alloc (Nat.le_refl _) _ | (refine bc _ _ (by assumption) (by assumption))))⟩
    obtain ⟨rfl, hbw⟩ := hcut
    obtain ⟨w2, hwv⟩ : ∃ x, x = wc := ⟨_, rfl⟩
    subst hwv
    have HP0 := HP
    replace HP := mvP HP hbw
    replace HR := mvP HR hbw
    have HK2 := Lib.hid (HK.out.call hbw)
    obtain ⟨p0, p1, p2, p3⟩ := row4 HP
    have fg := frzP HP
    have lgw := heap_lt HP.out
    clear zp br ba bc HK hbw
    cases b with
    | true =>
      obtain ⟨c, hc, hws⟩ : ∃ c, bs[j]? = some c ∧ isWs c = true := by
        have h1 := HB.out
        cases hc : bs[j]? with
        | none => rw [hc] at h1; exact absurd h1 (by simp)
        | some c => rw [hc] at h1; exact ⟨c, rfl, h1⟩
      have hlt : j < bs.length := (List.getElem?_eq_some_iff.1 hc).1
      have HE2 := Lib.hid (show skipW (bs.drop i) = skipW (bs.drop (j + 1)) by rw [HE.out, drop_cons hc]; unfold skipW; rw [List.dropWhile_cons_of_pos hws])
      have hw : IntKind.i64.wrap ((j : Int) + 1) = ((j + 1 : Nat) : Int) := IntWalk.i64_in _ (by omega)
      clear hc hws
      go_wp2_with fail
      go_roundw
      case rel => exact ⟨j + 1, by omega, HE2, Lib.hid (heap_set (i := 1) HP.out), Lib.hid ((Below.heap_setCell _ _ _ _ (by simp <;> omega)).trans HR.out), Lib.hid (HK2.out.set 1 _)⟩
      case measure =>
        have h1 : cellOf wr ⟨g, 1, none⟩ = .int .i64 (j : Int) := by
          have h0 := (row4 HP0).2.1
          simp [cellOf, h0]
        have h3 := (row4 (Lib.hid (heap_set (i := 1) (u := .int .i64 ((j : Int) + 1)) HP.out))).2.1
        have h2 : cellOf (w2.setCell ⟨g, 1, none⟩ (.int .i64 ((j : Int) + 1))) ⟨g, 1, none⟩ = .int .i64 ((j : Int) + 1) := by
          unfold cellOf
          rw [h3]; rfl
        rw [h1, h2]
        simp [intOf]; omega
    | false =>
      have HN := Lib.hid (show skipW (bs.drop i) = bs.drop j by
        rw [HE.out]
        have h1 := HB.out
        cases hc : bs[j]? with
        | none => rw [List.drop_of_length_le (List.getElem?_eq_none_iff.1 hc)]; rfl
        | some c =>
          rw [hc] at h1
          rw [drop_cons hc]
          unfold skipW
          rw [List.dropWhile_cons_of_neg (by dsimp only at h1; rw [h1]; simp)])
      go_upto_region 3 with fail
      have hj1 : (j : Int) ≤ (bs.length : Int) := by omega
      obtain ⟨L, hL⟩ : ∃ L, bs.drop j = L := ⟨_, rfl⟩
      have hex : (ByteArray.mk bs.toArray).extract j bs.length = ByteArray.mk L.toArray := by
        rw [str_cut, hL, List.take_of_length_le (by rw [← hL, List.length_drop]; omega)]
      have HL := Lib.hid hL
      clear hL
      go_cut [3] (fun v wx => v = .string ⟨L.toArray⟩ ∧ Below w2.heap.size w2 wx)
      case first =>
        go_quiet (fail)
        go_wp2_with fail
        go_meet
        case rel => exact ⟨rfl, below_drewN (Below.refl _ _) _⟩
      obtain ⟨rfl, hb3⟩ := hcut
      have HP2 := mvP HP hb3
      have HR2 := mvP HR hb3
      have HK3 := Lib.hid (HK2.out.call hb3)
      clear p0 p1 p2 p3 fg lgw hex HP HR HK2 hb3
      obtain ⟨w2, hwv⟩ : ∃ x, x = wc := ⟨_, rfl⟩
      subst hwv
      have HP := HP2
      have HR := HR2
      have HK2 := HK3
      clear HP2 HR2 HK3
      obtain ⟨p0, p1, p2, p3⟩ := row4 HP
      have fg := frzP HP
      have lgw := heap_lt HP.out
      replace HT := Lib.hid (show tokF L = (k, t) by rw [← HL.out, ← HN.out]; exact HT.out)
      obtain ⟨r0, r1⟩ := two2P HR
      have fr := frzP HR
      have lr := heap_lt HR.out
      have hS0 : ∀ W, Below w2.heap.size w2 W → Below w.heap.size w2 W ∧ W.cell? ⟨g, 0, none⟩ = some (.string ⟨bs.toArray⟩) ∧ W.cell? ⟨g, 1, none⟩ = some (.int .i64 (j : Int)) := fun W hW => ⟨hW.mono (Nat.le_of_lt lr), (row4 (mvP HP hW)).1, (row4 (mvP HP hW)).2.1⟩
      have hS1 : ∀ W u v, Below w2.heap.size w2 W → Below w.heap.size w2 ((W.setCell ⟨w.heap.size, 0, none⟩ u).setCell ⟨w.heap.size, 1, none⟩ v) ∧ ((W.setCell ⟨w.heap.size, 0, none⟩ u).setCell ⟨w.heap.size, 1, none⟩ v).cell? ⟨g, 0, none⟩ = some (.string ⟨bs.toArray⟩) ∧ ((W.setCell ⟨w.heap.size, 0, none⟩ u).setCell ⟨w.heap.size, 1, none⟩ v).cell? ⟨g, 1, none⟩ = some (.int .i64 (j : Int)) := fun W u v hW => by
        obtain ⟨c0, c1, -, -⟩ := row4 (W := (W.setCell ⟨w.heap.size, 0, none⟩ u).setCell ⟨w.heap.size, 1, none⟩ v) (Lib.hid (((Below.heap_setCell _ _ _ _ (by simp <;> omega)).trans (Below.heap_setCell _ _ _ _ (by simp <;> omega))).trans (mvP HP hW).out))
        exact ⟨((hW.mono (Nat.le_of_lt lr)).setCell (Nat.le_refl _) _).setCell (Nat.le_refl _) _, c0, c1⟩
      have hS2 : ∀ W u v, Below w2.heap.size w2 W → Below w.heap.size w2 ((W.setCell ⟨w.heap.size, 0, none⟩ u).setCell ⟨w.heap.size, 1, none⟩ v).drew ∧ ((W.setCell ⟨w.heap.size, 0, none⟩ u).setCell ⟨w.heap.size, 1, none⟩ v).drew.cell? ⟨g, 0, none⟩ = some (.string ⟨bs.toArray⟩) ∧ ((W.setCell ⟨w.heap.size, 0, none⟩ u).setCell ⟨w.heap.size, 1, none⟩ v).drew.cell? ⟨g, 1, none⟩ = some (.int .i64 (j : Int)) := fun W u v hW => ⟨(hS1 W u v hW).1.drew, (hS1 W u v hW).2.1, (hS1 W u v hW).2.2⟩
      have hFin : ∀ W u v, Below w2.heap.size w2 W → PAt bs g (skipW (bs.drop i)) ((W.setCell ⟨w.heap.size, 0, none⟩ u).setCell ⟨w.heap.size, 1, none⟩ v) ∧ Gk g w ((W.setCell ⟨w.heap.size, 0, none⟩ u).setCell ⟨w.heap.size, 1, none⟩ v) := fun W u v hW =>
        ⟨⟨j, hj, HN.out.symm, ((Below.heap_setCell _ _ _ _ (by simp <;> omega)).trans (Below.heap_setCell _ _ _ _ (by simp <;> omega))).trans (mvP HP hW).out⟩, HK2.out.belowR (hS1 W u v hW).1⟩
      have HF := Lib.hid hFin
      clear hFin
      cases L with
      | nil =>
        obtain ⟨rfl, rfl⟩ : k = 0 ∧ t = [] := by have := HT.out; unfold tokF at this; injection this with h1 h2; exact ⟨h1.symm, h2.symm⟩
        go_wp2_with fail
        refine bodyPost_ret (v := .agg #[.int .i64 0, .string ⟨#[]⟩]) (by simp [results, Tryz.results29, go_sem, *]) rfl ⟨by rfl, ?_, ?_⟩
        · (repeat' (first | exact (HF.out w2 _ _ (Below.refl _ _)).1 | with_reducible refine PAt.drew ?_))
        · (repeat' (first | exact (HF.out w2 _ _ (Below.refl _ _)).2 | with_reducible refine Gk.drew ?_))
      | cons c r =>
        have h0 : (c :: r)[0]? = some c := rfl
        have hx0 := str_at h0
        have hlen0 : (0 : Int) < ((c :: r).length : Int) := by simp <;> omega
        have hlen1 : 0 < (c :: r).length := by simp
        have hct := HT.out
        unfold tokF at hct
        dsimp only at hct
        have HLL := HL.out
        by_cases hw7 : inR 97 122 c = true
        case pos =>
          rw [if_pos hw7] at hct
          obtain ⟨h1, h2⟩ := (inR_iff 97 122 c).1 hw7
          have g1 : (97 : Int) ≤ (c.toNat : Int) := by simpa using (show (((97 : UInt8).toNat : Nat) : Int) ≤ (c.toNat : Int) by omega)
          have g2 : (c.toNat : Int) ≤ (122 : Int) := by simpa using (show (c.toNat : Int) ≤ (((122 : UInt8).toNat : Nat) : Int) by omega)
          obtain ⟨m, hm⟩ : ∃ m, j + (spanF 97 122 (bs.drop j)).length = m := ⟨_, rfl⟩
          have hml : m ≤ bs.length := by have h5 := span_le 97 122 (bs.drop j); rw [List.length_drop] at h5; omega
          have hjm : j ≤ m := by omega
          have hjm' : (j : Int) ≤ (m : Int) := by omega
          have hml' : (m : Int) ≤ (bs.length : Int) := by omega
          obtain ⟨hk, htt⟩ : k = 1 ∧ t = spanF 97 122 (c :: r) := by injection hct with h1 h2; exact ⟨h1.symm, h2.symm⟩
          subst hk
          have hex : (ByteArray.mk bs.toArray).extract j m = ByteArray.mk t.toArray := by
            rw [str_cut, show m - j = (spanF 97 122 (bs.drop j)).length by omega, span_take, HL.out, htt]
          have HM := Lib.hid hm
          clear hct htt hm h1 h2
          go_upto_region 7 with fail
          have bc : ∀ W W', Below w2.heap.size w2 W → Below W.heap.size W W' → Below w2.heap.size w2 W' := fun W W' h k => h.trans (k.mono h.size)
          refine wp_region_noPanic ?_
          refine wp_region_held_drew (S := fun X => Below w.heap.size w2 X ∧ X.cell? ⟨g, 0, none⟩ = some (.string ⟨bs.toArray⟩) ∧ X.cell? ⟨g, 1, none⟩ = some (.int .i64 (j : Int))) (by kernel_rfl) ?_ (fun hHeld => ?_)
          · (first | exact hS1 w2 _ _ (Below.refl _ _) | exact hS2 w2 _ _ (Below.refl _ _) | exact hS0 w2.drew (Below.refl _ _).drew | exact hS0 w2 (Below.refl _ _) | (first | with_reducible assumption | (with_reducible refine Below.drew ?_; with_reducible assumption) | (with_reducible refine ba _ _ ?_; with_reducible assumption) | (with_reducible refine Below.drew ?_; with_reducible refine ba _ _ ?_; with_reducible assumption) | exact Below.refl _ _ | exact (Below.refl _ _).drew | exact (Below.refl _ _).alloc (Nat.le_refl _) _ | (refine bc _ _ (by assumption) (by assumption))))
          refine RegOk.begin_ (n := 13) (T := pa2B) ⟨by kernel_rfl, by kernel_rfl, by kernel_rfl, by kernel_rfl⟩ fun hR => ?_
          refine hR.take (i := 0) (oi := ?ow750_0) (v := ?vw750_0) (m' := 1) ?hw750_0 (by kernel_rfl) (by kernel_rfl) (fun _ _ _ h => h) (Or.inl ⟨?sw750_0, ?yw750_0⟩) (by assumption) ?nw750_0
          case hw750_0 => simp only [List.getElem?_toArray, List.getElem?_cons_succ, List.getElem?_cons_zero]; rfl
          case sw750_0 => rfl
          case yw750_0 => (intro w hSw; (try dsimp only at hSw); go_simp <;> with_reducible rfl)
          try simp only [Act.put, List.setIfInBounds_toArray, List.set_cons_zero, List.set_cons_succ]
          refine hR.take (i := 1) (oi := ?ow751_1) (v := ?vw751_1) (m' := 3) ?hw751_1 (by kernel_rfl) (by kernel_rfl) (fun _ _ _ h => h) (Or.inl ⟨?sw751_1, ?yw751_1⟩) (by assumption) ?nw751_1
          case hw751_1 => simp only [List.getElem?_toArray, List.getElem?_cons_succ, List.getElem?_cons_zero]; rfl
          case sw751_1 => rfl
          case yw751_1 => (intro w hSw; (try dsimp only at hSw); go_simp <;> with_reducible rfl)
          try simp only [Act.put, List.setIfInBounds_toArray, List.set_cons_zero, List.set_cons_succ]
          refine hR.take (i := 2) (oi := ?ow752_2) (v := ?vw752_2) (m' := 7) ?hw752_2 (by kernel_rfl) (by kernel_rfl) (fun _ _ _ h => h) (Or.inl ⟨?sw752_2, ?yw752_2⟩) (by assumption) ?nw752_2
          case hw752_2 => simp only [List.getElem?_toArray, List.getElem?_cons_succ, List.getElem?_cons_zero]; rfl
          case sw752_2 => rfl
          case yw752_2 => (intro w hSw; (try dsimp only at hSw); go_simp <;> with_reducible rfl)
          try simp only [Act.put, List.setIfInBounds_toArray, List.set_cons_zero, List.set_cons_succ]
          refine hR.take (i := 3) (oi := ?ow753_3) (v := ?vw753_3) (m' := 15) ?hw753_3 (by kernel_rfl) (by kernel_rfl) (fun _ _ _ h => h) (Or.inl ⟨?sw753_3, ?yw753_3⟩) (by assumption) ?nw753_3
          case hw753_3 => simp only [List.getElem?_toArray, List.getElem?_cons_succ, List.getElem?_cons_zero]; rfl
          case sw753_3 => rfl
          case yw753_3 => (intro w hSw; (try dsimp only at hSw); go_simp <;> with_reducible rfl)
          try simp only [Act.put, List.setIfInBounds_toArray, List.set_cons_zero, List.set_cons_succ]
          refine hR.take (i := 4) (oi := ?ow754_4) (v := ?vw754_4) (m' := 31) ?hw754_4 (by kernel_rfl) (by kernel_rfl) (fun _ _ _ h => h) (Or.inl ⟨?sw754_4, ?yw754_4⟩) (by assumption) ?nw754_4
          case hw754_4 => simp only [List.getElem?_toArray, List.getElem?_cons_succ, List.getElem?_cons_zero]; rfl
          case sw754_4 => rfl
          case yw754_4 => (intro w hSw; (try dsimp only at hSw); go_simp <;> with_reducible rfl)
          try simp only [Act.put, List.setIfInBounds_toArray, List.set_cons_zero, List.set_cons_succ]
          refine hR.take (i := 5) (oi := ?ow755_5) (v := ?vw755_5) (m' := 63) ?hw755_5 (by kernel_rfl) (by kernel_rfl) (fun _ _ _ h => h) (Or.inl ⟨?sw755_5, ?yw755_5⟩) (by assumption) ?nw755_5
          case hw755_5 => simp only [List.getElem?_toArray, List.getElem?_cons_succ, List.getElem?_cons_zero]; rfl
          case sw755_5 => rfl
          case yw755_5 => (intro w hSw; (try dsimp only at hSw); go_simp <;> with_reducible rfl)
          try simp only [Act.put, List.setIfInBounds_toArray, List.set_cons_zero, List.set_cons_succ]
          refine hR.take (i := 6) (oi := ?ow756_6) (v := ?vw756_6) (m' := 127) ?hw756_6 (by kernel_rfl) (by kernel_rfl) (fun _ _ _ h => h) (Or.inl ⟨?sw756_6, ?yw756_6⟩) (by assumption) ?nw756_6
          case hw756_6 => simp only [List.getElem?_toArray, List.getElem?_cons_succ, List.getElem?_cons_zero]; rfl
          case sw756_6 => rfl
          case yw756_6 => (intro w hSw; (try dsimp only at hSw); go_simp <;> with_reducible rfl)
          try simp only [Act.put, List.setIfInBounds_toArray, List.set_cons_zero, List.set_cons_succ]
          refine hR.take (i := 7) (oi := ?ow757_7) (v := ?vw757_7) (m' := 255) ?hw757_7 (by kernel_rfl) (by kernel_rfl) (fun _ _ _ h => h) (Or.inl ⟨?sw757_7, ?yw757_7⟩) (by assumption) ?nw757_7
          case hw757_7 => simp only [List.getElem?_toArray, List.getElem?_cons_succ, List.getElem?_cons_zero]; rfl
          case sw757_7 => rfl
          case yw757_7 => (intro w hSw; (try dsimp only at hSw); go_simp <;> with_reducible rfl)
          try simp only [Act.put, List.setIfInBounds_toArray, List.set_cons_zero, List.set_cons_succ]
          refine hR.take (i := 8) (oi := ?ow758_8) (v := ?vw758_8) (m' := 511) ?hw758_8 (by kernel_rfl) (by kernel_rfl) (fun _ _ _ h => h) (Or.inl ⟨?sw758_8, ?yw758_8⟩) (by assumption) ?nw758_8
          case hw758_8 => simp only [List.getElem?_toArray, List.getElem?_cons_succ, List.getElem?_cons_zero]; rfl
          case sw758_8 => rfl
          case yw758_8 => (intro w hSw; (try dsimp only at hSw); go_simp <;> with_reducible rfl)
          try simp only [Act.put, List.setIfInBounds_toArray, List.set_cons_zero, List.set_cons_succ]
          refine hR.come (rs := [9]) (by kernel_rfl) (by simp) ?_
          refine AllReadyH.cons (o := ?o759_9) ?h759_9 (fun K hK => ?kw759_9) AllReadyH.nil
          case h759_9 => simp only [List.getElem?_toArray, List.getElem?_cons_succ, List.getElem?_cons_zero]; rfl
          go_simp
          go_at_call 73; refine (spanP (lo := 97) (hi := 122) HM.out w2.drew HP.out hj hl).mono ?_; rintro e w3 ⟨rfl, rfl⟩
          refine hK.out _ _ ?_ (fun hHeld => ?_)
          · (first | exact hS1 w2 _ _ (Below.refl _ _) | exact hS2 w2 _ _ (Below.refl _ _) | exact hS0 w2.drew (Below.refl _ _).drew | exact hS0 w2 (Below.refl _ _) | (first | with_reducible assumption | (with_reducible refine Below.drew ?_; with_reducible assumption) | (with_reducible refine ba _ _ ?_; with_reducible assumption) | (with_reducible refine Below.drew ?_; with_reducible refine ba _ _ ?_; with_reducible assumption) | exact Below.refl _ _ | exact (Below.refl _ _).drew | exact (Below.refl _ _).alloc (Nat.le_refl _) _ | (refine bc _ _ (by assumption) (by assumption))))
          clear hK K
          refine RegOk.put_ (m' := 1023) (by kernel_rfl) ?_
          try simp only [Act.put, List.setIfInBounds_toArray, List.set_cons_zero, List.set_cons_succ]
          refine hR.take (i := 10) (oi := ?ow760_10) (v := ?vw760_10) (m' := 2047) ?hw760_10 (by kernel_rfl) (by kernel_rfl) (fun _ _ _ h => h) (Or.inl ⟨?sw760_10, ?yw760_10⟩) (by assumption) ?nw760_10
          case hw760_10 => simp only [List.getElem?_toArray, List.getElem?_cons_succ, List.getElem?_cons_zero]; rfl
          case sw760_10 => rfl
          case yw760_10 => (intro w hSw; (try dsimp only at hSw); go_simp <;> with_reducible rfl)
          try simp only [Act.put, List.setIfInBounds_toArray, List.set_cons_zero, List.set_cons_succ]
          refine hR.take (i := 11) (oi := ?ow761_11) (v := ?vw761_11) (m' := 4095) ?hw761_11 (by kernel_rfl) (by kernel_rfl) (fun _ _ _ h => h) (Or.inl ⟨?sw761_11, ?yw761_11⟩) (by assumption) ?nw761_11
          case hw761_11 => simp only [List.getElem?_toArray, List.getElem?_cons_succ, List.getElem?_cons_zero]; rfl
          case sw761_11 => rfl
          case yw761_11 => (intro w hSw; (try dsimp only at hSw); go_simp <;> with_reducible rfl)
          try simp only [Act.put, List.setIfInBounds_toArray, List.set_cons_zero, List.set_cons_succ]
          refine hR.come (rs := [12]) (by kernel_rfl) (by simp) ?_
          refine AllReadyH.cons (o := ?o762_12) ?h762_12 (fun K hK => ?kw762_12) AllReadyH.nil
          case h762_12 => simp only [List.getElem?_toArray, List.getElem?_cons_succ, List.getElem?_cons_zero]; rfl
          go_simp <;> (try go_wp2_with fail)
          refine hK.out _ _ ?_ (fun hHeld => ?_)
          · (first | exact hS1 w2 _ _ (Below.refl _ _) | exact hS2 w2 _ _ (Below.refl _ _) | exact hS0 w2.drew (Below.refl _ _).drew | exact hS0 w2 (Below.refl _ _) | (first | with_reducible assumption | (with_reducible refine Below.drew ?_; with_reducible assumption) | (with_reducible refine ba _ _ ?_; with_reducible assumption) | (with_reducible refine Below.drew ?_; with_reducible refine ba _ _ ?_; with_reducible assumption) | exact Below.refl _ _ | exact (Below.refl _ _).drew | exact (Below.refl _ _).alloc (Nat.le_refl _) _ | (refine bc _ _ (by assumption) (by assumption))))
          clear hK K
          refine RegOk.put_ (m' := 8191) (by kernel_rfl) ?_
          try simp only [Act.put, List.setIfInBounds_toArray, List.set_cons_zero, List.set_cons_succ]
          refine hR.all (by kernel_rfl) ?_ _
          refine NoPanic.normal ?_
          go_wp2_with fail
          refine bodyPost_ret (v := .agg #[.int .i64 1, .string ⟨t.toArray⟩]) (by simp [results, Tryz.results29, go_sem, *]) rfl ⟨by rfl, ?_, ?_⟩
          · (repeat' (first | exact (HF.out w2 _ _ (Below.refl _ _)).1 | with_reducible refine PAt.drew ?_))
          · (repeat' (first | exact (HF.out w2 _ _ (Below.refl _ _)).2 | with_reducible refine Gk.drew ?_))
        rw [if_neg hw7] at hct
        by_cases hw9 : inR 48 57 c = true
        case pos =>
          rw [if_pos hw9] at hct
          obtain ⟨h1, h2⟩ := (inR_iff 48 57 c).1 hw9
          have g1 : (48 : Int) ≤ (c.toNat : Int) := by simpa using (show (((48 : UInt8).toNat : Nat) : Int) ≤ (c.toNat : Int) by omega)
          have g2 : (c.toNat : Int) ≤ (57 : Int) := by simpa using (show (c.toNat : Int) ≤ (((57 : UInt8).toNat : Nat) : Int) by omega)
          obtain ⟨m, hm⟩ : ∃ m, j + (spanF 48 57 (bs.drop j)).length = m := ⟨_, rfl⟩
          have hml : m ≤ bs.length := by have h5 := span_le 48 57 (bs.drop j); rw [List.length_drop] at h5; omega
          have hjm : j ≤ m := by omega
          have hjm' : (j : Int) ≤ (m : Int) := by omega
          have hml' : (m : Int) ≤ (bs.length : Int) := by omega
          obtain ⟨hk, htt⟩ : k = 2 ∧ t = spanF 48 57 (c :: r) := by injection hct with h1 h2; exact ⟨h1.symm, h2.symm⟩
          subst hk
          have hex : (ByteArray.mk bs.toArray).extract j m = ByteArray.mk t.toArray := by
            rw [str_cut, show m - j = (spanF 48 57 (bs.drop j)).length by omega, span_take, HL.out, htt]
          have HM := Lib.hid hm
          clear hct htt hm h1 h2
          go_upto_region 9 with fail
          have bc : ∀ W W', Below w2.heap.size w2 W → Below W.heap.size W W' → Below w2.heap.size w2 W' := fun W W' h k => h.trans (k.mono h.size)
          refine wp_region_noPanic ?_
          refine wp_region_held_drew (S := fun X => Below w.heap.size w2 X ∧ X.cell? ⟨g, 0, none⟩ = some (.string ⟨bs.toArray⟩) ∧ X.cell? ⟨g, 1, none⟩ = some (.int .i64 (j : Int))) (by kernel_rfl) ?_ (fun hHeld => ?_)
          · (first | exact hS1 w2 _ _ (Below.refl _ _) | exact hS2 w2 _ _ (Below.refl _ _) | exact hS0 w2.drew (Below.refl _ _).drew | exact hS0 w2 (Below.refl _ _) | (first | with_reducible assumption | (with_reducible refine Below.drew ?_; with_reducible assumption) | (with_reducible refine ba _ _ ?_; with_reducible assumption) | (with_reducible refine Below.drew ?_; with_reducible refine ba _ _ ?_; with_reducible assumption) | exact Below.refl _ _ | exact (Below.refl _ _).drew | exact (Below.refl _ _).alloc (Nat.le_refl _) _ | (refine bc _ _ (by assumption) (by assumption))))
          refine RegOk.begin_ (n := 13) (T := pa2C) ⟨by kernel_rfl, by kernel_rfl, by kernel_rfl, by kernel_rfl⟩ fun hR => ?_
          refine hR.take (i := 0) (oi := ?ow763_0) (v := ?vw763_0) (m' := 1) ?hw763_0 (by kernel_rfl) (by kernel_rfl) (fun _ _ _ h => h) (Or.inl ⟨?sw763_0, ?yw763_0⟩) (by assumption) ?nw763_0
          case hw763_0 => simp only [List.getElem?_toArray, List.getElem?_cons_succ, List.getElem?_cons_zero]; rfl
          case sw763_0 => rfl
          case yw763_0 => (intro w hSw; (try dsimp only at hSw); go_simp <;> with_reducible rfl)
          try simp only [Act.put, List.setIfInBounds_toArray, List.set_cons_zero, List.set_cons_succ]
          refine hR.take (i := 1) (oi := ?ow764_1) (v := ?vw764_1) (m' := 3) ?hw764_1 (by kernel_rfl) (by kernel_rfl) (fun _ _ _ h => h) (Or.inl ⟨?sw764_1, ?yw764_1⟩) (by assumption) ?nw764_1
          case hw764_1 => simp only [List.getElem?_toArray, List.getElem?_cons_succ, List.getElem?_cons_zero]; rfl
          case sw764_1 => rfl
          case yw764_1 => (intro w hSw; (try dsimp only at hSw); go_simp <;> with_reducible rfl)
          try simp only [Act.put, List.setIfInBounds_toArray, List.set_cons_zero, List.set_cons_succ]
          refine hR.take (i := 2) (oi := ?ow765_2) (v := ?vw765_2) (m' := 7) ?hw765_2 (by kernel_rfl) (by kernel_rfl) (fun _ _ _ h => h) (Or.inl ⟨?sw765_2, ?yw765_2⟩) (by assumption) ?nw765_2
          case hw765_2 => simp only [List.getElem?_toArray, List.getElem?_cons_succ, List.getElem?_cons_zero]; rfl
          case sw765_2 => rfl
          case yw765_2 => (intro w hSw; (try dsimp only at hSw); go_simp <;> with_reducible rfl)
          try simp only [Act.put, List.setIfInBounds_toArray, List.set_cons_zero, List.set_cons_succ]
          refine hR.take (i := 3) (oi := ?ow766_3) (v := ?vw766_3) (m' := 15) ?hw766_3 (by kernel_rfl) (by kernel_rfl) (fun _ _ _ h => h) (Or.inl ⟨?sw766_3, ?yw766_3⟩) (by assumption) ?nw766_3
          case hw766_3 => simp only [List.getElem?_toArray, List.getElem?_cons_succ, List.getElem?_cons_zero]; rfl
          case sw766_3 => rfl
          case yw766_3 => (intro w hSw; (try dsimp only at hSw); go_simp <;> with_reducible rfl)
          try simp only [Act.put, List.setIfInBounds_toArray, List.set_cons_zero, List.set_cons_succ]
          refine hR.take (i := 4) (oi := ?ow767_4) (v := ?vw767_4) (m' := 31) ?hw767_4 (by kernel_rfl) (by kernel_rfl) (fun _ _ _ h => h) (Or.inl ⟨?sw767_4, ?yw767_4⟩) (by assumption) ?nw767_4
          case hw767_4 => simp only [List.getElem?_toArray, List.getElem?_cons_succ, List.getElem?_cons_zero]; rfl
          case sw767_4 => rfl
          case yw767_4 => (intro w hSw; (try dsimp only at hSw); go_simp <;> with_reducible rfl)
          try simp only [Act.put, List.setIfInBounds_toArray, List.set_cons_zero, List.set_cons_succ]
          refine hR.take (i := 5) (oi := ?ow768_5) (v := ?vw768_5) (m' := 63) ?hw768_5 (by kernel_rfl) (by kernel_rfl) (fun _ _ _ h => h) (Or.inl ⟨?sw768_5, ?yw768_5⟩) (by assumption) ?nw768_5
          case hw768_5 => simp only [List.getElem?_toArray, List.getElem?_cons_succ, List.getElem?_cons_zero]; rfl
          case sw768_5 => rfl
          case yw768_5 => (intro w hSw; (try dsimp only at hSw); go_simp <;> with_reducible rfl)
          try simp only [Act.put, List.setIfInBounds_toArray, List.set_cons_zero, List.set_cons_succ]
          refine hR.take (i := 6) (oi := ?ow769_6) (v := ?vw769_6) (m' := 127) ?hw769_6 (by kernel_rfl) (by kernel_rfl) (fun _ _ _ h => h) (Or.inl ⟨?sw769_6, ?yw769_6⟩) (by assumption) ?nw769_6
          case hw769_6 => simp only [List.getElem?_toArray, List.getElem?_cons_succ, List.getElem?_cons_zero]; rfl
          case sw769_6 => rfl
          case yw769_6 => (intro w hSw; (try dsimp only at hSw); go_simp <;> with_reducible rfl)
          try simp only [Act.put, List.setIfInBounds_toArray, List.set_cons_zero, List.set_cons_succ]
          refine hR.take (i := 7) (oi := ?ow770_7) (v := ?vw770_7) (m' := 255) ?hw770_7 (by kernel_rfl) (by kernel_rfl) (fun _ _ _ h => h) (Or.inl ⟨?sw770_7, ?yw770_7⟩) (by assumption) ?nw770_7
          case hw770_7 => simp only [List.getElem?_toArray, List.getElem?_cons_succ, List.getElem?_cons_zero]; rfl
          case sw770_7 => rfl
          case yw770_7 => (intro w hSw; (try dsimp only at hSw); go_simp <;> with_reducible rfl)
          try simp only [Act.put, List.setIfInBounds_toArray, List.set_cons_zero, List.set_cons_succ]
          refine hR.take (i := 8) (oi := ?ow771_8) (v := ?vw771_8) (m' := 511) ?hw771_8 (by kernel_rfl) (by kernel_rfl) (fun _ _ _ h => h) (Or.inl ⟨?sw771_8, ?yw771_8⟩) (by assumption) ?nw771_8
          case hw771_8 => simp only [List.getElem?_toArray, List.getElem?_cons_succ, List.getElem?_cons_zero]; rfl
          case sw771_8 => rfl
          case yw771_8 => (intro w hSw; (try dsimp only at hSw); go_simp <;> with_reducible rfl)
          try simp only [Act.put, List.setIfInBounds_toArray, List.set_cons_zero, List.set_cons_succ]
          refine hR.come (rs := [9]) (by kernel_rfl) (by simp) ?_
          refine AllReadyH.cons (o := ?o772_9) ?h772_9 (fun K hK => ?kw772_9) AllReadyH.nil
          case h772_9 => simp only [List.getElem?_toArray, List.getElem?_cons_succ, List.getElem?_cons_zero]; rfl
          go_simp
          go_at_call 73; refine (spanP (lo := 48) (hi := 57) HM.out w2.drew HP.out hj hl).mono ?_; rintro e w3 ⟨rfl, rfl⟩
          refine hK.out _ _ ?_ (fun hHeld => ?_)
          · (first | exact hS1 w2 _ _ (Below.refl _ _) | exact hS2 w2 _ _ (Below.refl _ _) | exact hS0 w2.drew (Below.refl _ _).drew | exact hS0 w2 (Below.refl _ _) | (first | with_reducible assumption | (with_reducible refine Below.drew ?_; with_reducible assumption) | (with_reducible refine ba _ _ ?_; with_reducible assumption) | (with_reducible refine Below.drew ?_; with_reducible refine ba _ _ ?_; with_reducible assumption) | exact Below.refl _ _ | exact (Below.refl _ _).drew | exact (Below.refl _ _).alloc (Nat.le_refl _) _ | (refine bc _ _ (by assumption) (by assumption))))
          clear hK K
          refine RegOk.put_ (m' := 1023) (by kernel_rfl) ?_
          try simp only [Act.put, List.setIfInBounds_toArray, List.set_cons_zero, List.set_cons_succ]
          refine hR.take (i := 10) (oi := ?ow773_10) (v := ?vw773_10) (m' := 2047) ?hw773_10 (by kernel_rfl) (by kernel_rfl) (fun _ _ _ h => h) (Or.inl ⟨?sw773_10, ?yw773_10⟩) (by assumption) ?nw773_10
          case hw773_10 => simp only [List.getElem?_toArray, List.getElem?_cons_succ, List.getElem?_cons_zero]; rfl
          case sw773_10 => rfl
          case yw773_10 => (intro w hSw; (try dsimp only at hSw); go_simp <;> with_reducible rfl)
          try simp only [Act.put, List.setIfInBounds_toArray, List.set_cons_zero, List.set_cons_succ]
          refine hR.take (i := 11) (oi := ?ow774_11) (v := ?vw774_11) (m' := 4095) ?hw774_11 (by kernel_rfl) (by kernel_rfl) (fun _ _ _ h => h) (Or.inl ⟨?sw774_11, ?yw774_11⟩) (by assumption) ?nw774_11
          case hw774_11 => simp only [List.getElem?_toArray, List.getElem?_cons_succ, List.getElem?_cons_zero]; rfl
          case sw774_11 => rfl
          case yw774_11 => (intro w hSw; (try dsimp only at hSw); go_simp <;> with_reducible rfl)
          try simp only [Act.put, List.setIfInBounds_toArray, List.set_cons_zero, List.set_cons_succ]
          refine hR.come (rs := [12]) (by kernel_rfl) (by simp) ?_
          refine AllReadyH.cons (o := ?o775_12) ?h775_12 (fun K hK => ?kw775_12) AllReadyH.nil
          case h775_12 => simp only [List.getElem?_toArray, List.getElem?_cons_succ, List.getElem?_cons_zero]; rfl
          go_simp <;> (try go_wp2_with fail)
          refine hK.out _ _ ?_ (fun hHeld => ?_)
          · (first | exact hS1 w2 _ _ (Below.refl _ _) | exact hS2 w2 _ _ (Below.refl _ _) | exact hS0 w2.drew (Below.refl _ _).drew | exact hS0 w2 (Below.refl _ _) | (first | with_reducible assumption | (with_reducible refine Below.drew ?_; with_reducible assumption) | (with_reducible refine ba _ _ ?_; with_reducible assumption) | (with_reducible refine Below.drew ?_; with_reducible refine ba _ _ ?_; with_reducible assumption) | exact Below.refl _ _ | exact (Below.refl _ _).drew | exact (Below.refl _ _).alloc (Nat.le_refl _) _ | (refine bc _ _ (by assumption) (by assumption))))
          clear hK K
          refine RegOk.put_ (m' := 8191) (by kernel_rfl) ?_
          try simp only [Act.put, List.setIfInBounds_toArray, List.set_cons_zero, List.set_cons_succ]
          refine hR.all (by kernel_rfl) ?_ _
          refine NoPanic.normal ?_
          go_wp2_with fail
          refine bodyPost_ret (v := .agg #[.int .i64 2, .string ⟨t.toArray⟩]) (by simp [results, Tryz.results29, go_sem, *]) rfl ⟨by rfl, ?_, ?_⟩
          · (repeat' (first | exact (HF.out w2 _ _ (Below.refl _ _)).1 | with_reducible refine PAt.drew ?_))
          · (repeat' (first | exact (HF.out w2 _ _ (Below.refl _ _)).2 | with_reducible refine Gk.drew ?_))
        rw [if_neg hw9] at hct
        by_cases h61 : c = 61
        case pos =>
          subst h61
          rw [if_pos rfl] at hct
          obtain ⟨rfl, rfl⟩ : k = 3 ∧ t = [61] := by injection hct with h1 h2; exact ⟨h1.symm, h2.symm⟩
          clear hct hw7 hw9
          go_wp2_with fail
          refine bodyPost_ret (v := .agg #[.int .i64 3, .string ⟨#[61]⟩]) (by simp [results, Tryz.results29, go_sem, *]) rfl ⟨by rfl, ?_, ?_⟩
          · (repeat' (first | exact (HF.out w2 _ _ (Below.refl _ _)).1 | with_reducible refine PAt.drew ?_))
          · (repeat' (first | exact (HF.out w2 _ _ (Below.refl _ _)).2 | with_reducible refine Gk.drew ?_))
        rw [if_neg h61] at hct
        have e61 : ((c.toNat : Int) == 61) = false := by
          rw [beq_eq_false_iff_ne]
          intro h
          exact h61 (UInt8.toNat_inj.1 (by have : (61 : UInt8).toNat = 61 := rfl; omega))
        have n97 : ¬ ((97 : Int) ≤ (c.toNat : Int) ∧ (c.toNat : Int) ≤ 122) := fun h => hw7 ((inR_iff 97 122 c).2 ⟨by have : (97 : UInt8).toNat = 97 := rfl; omega, by have : (122 : UInt8).toNat = 122 := rfl; omega⟩)
        have n48 : ¬ ((48 : Int) ≤ (c.toNat : Int) ∧ (c.toNat : Int) ≤ 57) := fun h => hw9 ((inR_iff 48 57 c).2 ⟨by have : (48 : UInt8).toNat = 48 := rfl; omega, by have : (57 : UInt8).toNat = 57 := rfl; omega⟩)
        obtain ⟨b, hb⟩ : ∃ b, [46, 46].isPrefixOf (c :: r) = b := ⟨_, rfl⟩
        have HB2 := Lib.hid hb
        rw [hb] at hct
        clear hb
        have A1 : ¬ (97 : Int) ≤ (c.toNat : Int) ∨ ((97 : Int) ≤ (c.toNat : Int) ∧ ¬ (c.toNat : Int) ≤ 122) := by omega
        have A2 : ¬ (48 : Int) ≤ (c.toNat : Int) ∨ ((48 : Int) ≤ (c.toNat : Int) ∧ ¬ (c.toNat : Int) ≤ 57) := by omega
        clear n97 n48 hw7 hw9 h61
        cases b with
        | true =>
          obtain ⟨hk, htt⟩ : k = 3 ∧ t = [46, 46] := by injection hct with h1 h2; exact ⟨h1.symm, h2.symm⟩
          subst hk; subst htt
          clear hct
          rcases A1 with a1 | ⟨a1, a2⟩ <;> rcases A2 with d1 | ⟨d1, d2⟩ <;> (try (exfalso; omega))
          all_goals
            go_wp2_with (go_at_call 74; refine (hasPrefixP (l := c :: r) (p := [46, 46]) HB2.out _).mono ?_; rintro e w3 ⟨rfl, rfl⟩)
            refine bodyPost_ret (v := .agg #[.int .i64 3, .string ⟨#[46, 46]⟩]) (by simp [results, Tryz.results29, go_sem, *]) rfl ⟨by rfl, ?_, ?_⟩
            · (repeat' (first | exact (HF.out w2 _ _ (Below.refl _ _)).1 | with_reducible refine PAt.drew ?_))
            · (repeat' (first | exact (HF.out w2 _ _ (Below.refl _ _)).2 | with_reducible refine Gk.drew ?_))
        | false =>
          obtain ⟨hk, htt⟩ : k = 4 ∧ t = [] := by injection hct with h1 h2; exact ⟨h1.symm, h2.symm⟩
          subst hk; subst htt
          clear hct
          rcases A1 with a1 | ⟨a1, a2⟩ <;> rcases A2 with d1 | ⟨d1, d2⟩ <;> (try (exfalso; omega))
          all_goals
            go_wp2_with (go_at_call 74; refine (hasPrefixP (l := c :: r) (p := [46, 46]) HB2.out _).mono ?_; rintro e w3 ⟨rfl, rfl⟩)
            refine bodyPost_ret (v := .agg #[.int .i64 4, .string ⟨#[]⟩]) (by simp [results, Tryz.results29, go_sem, *]) rfl ⟨by rfl, ?_, ?_⟩
            · (repeat' (first | exact (HF.out w2 _ _ (Below.refl _ _)).1 | with_reducible refine PAt.drew ?_))
            · (repeat' (first | exact (HF.out w2 _ _ (Below.refl _ _)).2 | with_reducible refine Gk.drew ?_))
end Go.Proofs.YtagadbdbbglddaaGreatDoor
