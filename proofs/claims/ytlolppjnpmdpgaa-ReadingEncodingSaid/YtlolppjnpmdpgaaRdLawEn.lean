/-
  The law 'ReadingEncoding', walked: it returns true for every input, and nothing that existed changes. No condition.
-/
import Derived.Test.YtlolppjnpmdpgaaRdS
import Derived.Test.YtlolppjnpmdpgaaReg
namespace Go.Proofs.Ytlolppjnpmdpgaa
open Go.RowKit

theorem encode_rdOf (a b d : UInt8) : encodeF (rdOf a b d) = [a, b, d] := by
  have h1 := a.toNat_lt; have h2 := b.toNat_lt; have h3 := d.toNat_lt
  have e : ∀ (x : UInt8) (n : Int), n % 256 = (x.toNat : Int) → byteF n = x := fun x n hn => by
    unfold byteF; rw [hn]; simp
  unfold encodeF rdOf
  simp only
  rw [e a _ (by omega), e b _ (by omega), e d _ (by omega)]
theorem rdOf_encode {r : Rd} (h : ValidR r) : rdOf (byteF (r.who + 16 * r.knd)) (byteF r.whn) (byteF r.val) = r := by
  obtain ⟨⟨h1, h2⟩, ⟨h3, h4⟩, ⟨h5, h6⟩, h7, h8⟩ := h
  have e : ∀ (n : Int), 0 ≤ n → n < 256 → ((byteF n).toNat : Int) = n := fun n h0 h1 => by
    unfold byteF; simp; omega
  have e1 := e (r.who + 16 * r.knd) (by omega) (by omega)
  have e2 := e r.whn (by omega) (by omega)
  have e3 := e r.val (by omega) (by omega)
  unfold rdOf
  refine Rd.ext_ ?_ ?_ ?_ ?_ <;> simp only <;> omega

theorem validP_eq {r : Rd} {b : Bool} (h : validB r = b) (w : World) : Calls Try.prog 17 #[.agg #[.int .i64 r.who, .int .i64 r.whn, .int .i64 r.knd, .int .i64 r.val]] w fun e w' => e = .returned (.bool b) ∧ Below w.heap.size w w' := by
  rw [← h]; exact validP_any r w
def shortB (n : Nat) : Bool := decide (n ≠ 3 ∧ n < 100)
theorem ar3 {W : World} {g : Nat} {u v x : Value} {t : TypeId} (h : Hid (W.heap[g]? = some (.cells #[u, v, x] t (0, 0)))) :
    W.cell? ⟨g, 0, none⟩ = some u ∧ W.cell? ⟨g, 1, none⟩ = some v ∧ W.cell? ⟨g, 2, none⟩ = some x :=
  ⟨cell_of_row _ _ 0 _ _ _ h.out, cell_of_row _ _ 1 _ _ _ h.out, cell_of_row _ _ 2 _ _ _ h.out⟩
set_option maxRecDepth 100000 in
set_option maxHeartbeats 8000000 in
theorem walk_ReadingEncoding {b0 b1 b2 : UInt8} {r : Rd} {A : Option Addr} {c : Nat} {more : List UInt8} (w : World) (h : Sl .u8 (fun _ => True) w A c more) :
    Calls Try.prog 9 #[.agg #[.int .u8 (b0.toNat : Int), .int .u8 (b1.toNat : Int), .int .u8 (b2.toNat : Int)], .agg #[.int .i64 r.who, .int .i64 r.whn, .int .i64 r.knd, .int .i64 r.val], .slice A more.length c] w fun e w' => e = .returned (.bool true) ∧ Below w.heap.size w w' := by
  have hm := h.max
  have hcm := h.capMax
  have hle := h.le
  clear h
  go_enter Try.func9, Try.ntmps9
  go_wp2_with (first
    | (go_at_call 10; refine (sanityR _).mono ?_; rintro e w1 ⟨rfl, hb1⟩; have bz_hb1 := hb1.size; simp [World.setCell] at bz_hb1; have bl0_hb1 : w.heap.size < w1.heap.size := (by omega); have bk0_hb1 : w.heap.size < w.heap.size + 1 + 1 := (by omega); have bl1_hb1 : w.heap.size + 1 < w1.heap.size := (by omega); have bk1_hb1 : w.heap.size + 1 < w.heap.size + 1 + 1 := (by omega); obtain ⟨hc_hb1, hf_hb1⟩ := bcellk (k := w.heap.size + 1 + 1) hb1 (by simp [World.setCell]))
    | (go_at_call 23; refine (decodeP b0 b1 b2 _ (lit3 b0 b1 b2 _ rfl)).mono ?_; rintro e w2 ⟨rfl, hb2⟩))
  refine wp_world (F := fun wx => Hid (wx.heap[w.heap.size]? = some (.cells #[.int .u8 (b0.toNat : Int), .int .u8 (b1.toNat : Int), .int .u8 (b2.toNat : Int)] 44 (0, 0))) ∧ Hid (wx.heap[w.heap.size + 1]? = some (.cells #[.int .i64 r.who, .int .i64 r.whn, .int .i64 r.knd, .int .i64 r.val] 24 (0, 0))) ∧ Hid (wx.heap[w2.heap.size]? = some (.cells #[.int .i64 (rdOf b0 b1 b2).who, .int .i64 (rdOf b0 b1 b2).whn, .int .i64 (rdOf b0 b1 b2).knd, .int .i64 (rdOf b0 b1 b2).val] 24 (0, 0))) ∧ Hid (Below w.heap.size w wx)) ?_ ?_
  · refine ⟨Lib.hid ((Below.heap_alloc _ _ _ (by have := hb1.size; have := hb2.size; simp at *; omega)).trans ((hb2.block _ (by have := hb1.size; simp at *; omega)).trans ((Below.heap_alloc _ _ _ (by have := hb1.size; simp at *; omega)).trans ((hb1.block _ (by simp; omega)).trans ((Below.heap_alloc _ _ _ (by simp)).trans (heap_alloc_at rfl)))))),
      Lib.hid ((Below.heap_alloc _ _ _ (by have := hb1.size; have := hb2.size; simp at *; omega)).trans ((hb2.block _ (by have := hb1.size; simp at *; omega)).trans ((Below.heap_alloc _ _ _ (by have := hb1.size; simp at *; omega)).trans ((hb1.block _ (by simp)).trans (heap_alloc_at (by simp)))))),
      Lib.hid (heap_alloc_at rfl), Lib.hid ?_⟩
    have q1 : Below w.heap.size w w1 := (((Below.refl _ _).alloc (Nat.le_refl _) _).alloc (by simp) _).trans (hb1.mono (by simp; omega))
    have q2 : Below w1.heap.size w1 w2 := ((Below.refl _ _).alloc (Nat.le_refl _) _).trans (hb2.mono (by simp))
    have q3 := q1.trans (q2.mono q1.size)
    exact q3.alloc q3.size _
  rintro wr ⟨gB, gR, gX, bw⟩
  have lX := heap_lt gX.out
  generalize w2.heap.size = nX at *
  clear hb1 hb2 hc_hb1
  go_cut [46] (fun v wx => v = .bool false ∧ Below wr.heap.size wr wx)
  case first => as_aux_lemma =>
    obtain ⟨x0, x1, x2⟩ := ar3 gB
    obtain ⟨y0, y1, y2, y3⟩ := rd4 (r := rdOf b0 b1 b2) gX
    have z0 := hold x0
    have z1 := hold x1
    have z2 := hold x2
    have u0 := hold y0
    have u1 := hold y1
    have u2 := hold y2
    have u3 := hold y3
    have lB := heap_lt gB.out
    have hv : validB (rdOf b0 b1 b2) = true := by simpa [validB] using rdOf_valid b0 b1 b2
    have hE := encode_rdOf b0 b1 b2
    clear x0 x1 x2 y0 y1 y2 y3 gB gR gX bw
    have ba : ∀ W o, Below wr.heap.size wr W → Below wr.heap.size wr (W.alloc o) := fun W o h => h.alloc h.size o
    have bc : ∀ W W', Below wr.heap.size wr W → Below W.heap.size W W' → Below wr.heap.size wr W' := fun W W' h k => h.trans (k.mono h.size)
    refine wp_region_noPanic ?_
    refine wp_region_held_drew (S := fun X => Below wr.heap.size wr X) (by kernel_rfl) ?_ (fun hHeld => ?_)
    · (first | with_reducible assumption | (with_reducible refine Below.drew ?_; with_reducible assumption) | (with_reducible refine ba _ _ ?_; with_reducible assumption) | (with_reducible refine Below.drew ?_; with_reducible refine ba _ _ ?_; with_reducible assumption) | exact Below.refl _ _ | exact (Below.refl _ _).drew | exact (Below.refl _ _).alloc (Nat.le_refl _) _ | (refine bc _ _ (by assumption) (by assumption)))
    refine wpAnyH_take (i := 0) (oi := ?oz1_0) (v := ?vz1_0) ?hz1_0 ?pz1_0 ?qz1_0 ?rz1_0 (fun _ _ _ h => h) (Or.inl ⟨?sz1_0, ?yz1_0⟩) (by assumption) ?nz1_0
    case hz1_0 => simp only [List.getElem?_toArray, List.getElem?_cons_succ, List.getElem?_cons_zero]; rfl
    case pz1_0 => kernel_rfl
    case qz1_0 => kernel_rfl
    case rz1_0 => kernel_rfl
    case sz1_0 => rfl
    case yz1_0 => (intro w hSw; (try dsimp only at hSw); go_simp <;> with_reducible rfl)
    try simp only [Act.put, List.setIfInBounds_toArray, List.set_cons_zero, List.set_cons_succ]
    refine wpAnyH_take (i := 1) (oi := ?oz2_1) (v := ?vz2_1) ?hz2_1 ?pz2_1 ?qz2_1 ?rz2_1 (fun _ _ _ h => h) (Or.inl ⟨?sz2_1, ?yz2_1⟩) (by assumption) ?nz2_1
    case hz2_1 => simp only [List.getElem?_toArray, List.getElem?_cons_succ, List.getElem?_cons_zero]; rfl
    case pz2_1 => kernel_rfl
    case qz2_1 => kernel_rfl
    case rz2_1 => kernel_rfl
    case sz2_1 => rfl
    case yz2_1 => (intro w hSw; (try dsimp only at hSw); go_simp <;> with_reducible rfl)
    try simp only [Act.put, List.setIfInBounds_toArray, List.set_cons_zero, List.set_cons_succ]
    refine wpAnyH_take (i := 2) (oi := ?oz3_2) (v := ?vz3_2) ?hz3_2 ?pz3_2 ?qz3_2 ?rz3_2 (fun _ _ _ h => h) (Or.inl ⟨?sz3_2, ?yz3_2⟩) (by assumption) ?nz3_2
    case hz3_2 => simp only [List.getElem?_toArray, List.getElem?_cons_succ, List.getElem?_cons_zero]; rfl
    case pz3_2 => kernel_rfl
    case qz3_2 => kernel_rfl
    case rz3_2 => kernel_rfl
    case sz3_2 => rfl
    case yz3_2 => (intro w hSw; (try dsimp only at hSw); go_simp <;> with_reducible rfl)
    try simp only [Act.put, List.setIfInBounds_toArray, List.set_cons_zero, List.set_cons_succ]
    refine wpAnyH_take (i := 3) (oi := ?oz4_3) (v := ?vz4_3) ?hz4_3 ?pz4_3 ?qz4_3 ?rz4_3 (fun _ _ _ h => h) (Or.inl ⟨?sz4_3, ?yz4_3⟩) (by assumption) ?nz4_3
    case hz4_3 => simp only [List.getElem?_toArray, List.getElem?_cons_succ, List.getElem?_cons_zero]; rfl
    case pz4_3 => kernel_rfl
    case qz4_3 => kernel_rfl
    case rz4_3 => kernel_rfl
    case sz4_3 => rfl
    case yz4_3 => (intro w hSw; (try dsimp only at hSw); go_simp <;> with_reducible rfl)
    try simp only [Act.put, List.setIfInBounds_toArray, List.set_cons_zero, List.set_cons_succ]
    refine wpAnyH_ready (rs := [4]) (by kernel_rfl) (by simp) ?_
    refine AllReadyH.cons (o := ?o5_4) ?h5_4 (fun K hK => ?k5_4) AllReadyH.nil
    case h5_4 => simp only [List.getElem?_toArray, List.getElem?_cons_succ, List.getElem?_cons_zero]; rfl
    go_simp
    go_at_call 17
    refine (validP_eq hv _).mono ?_
    rintro e w4 ⟨rfl, hb4⟩
    have hk := bc _ _ (by assumption) hb4
    refine hK.out _ _ ?_ (fun hHeld => ?_)
    · (first | with_reducible assumption | (with_reducible refine Below.drew ?_; with_reducible assumption) | (with_reducible refine ba _ _ ?_; with_reducible assumption) | (with_reducible refine Below.drew ?_; with_reducible refine ba _ _ ?_; with_reducible assumption) | exact Below.refl _ _ | exact (Below.refl _ _).drew | exact (Below.refl _ _).alloc (Nat.le_refl _) _ | (refine bc _ _ (by assumption) (by assumption)))
    clear hK K
    try simp only [Act.put, List.setIfInBounds_toArray, List.set_cons_zero, List.set_cons_succ]
    refine wpAnyH_take (i := 5) (oi := ?oz6_5) (v := ?vz6_5) ?hz6_5 ?pz6_5 ?qz6_5 ?rz6_5 (fun _ _ _ h => h) (Or.inl ⟨?sz6_5, ?yz6_5⟩) (by assumption) ?nz6_5
    case hz6_5 => simp only [List.getElem?_toArray, List.getElem?_cons_succ, List.getElem?_cons_zero]; rfl
    case pz6_5 => kernel_rfl
    case qz6_5 => kernel_rfl
    case rz6_5 => kernel_rfl
    case sz6_5 => rfl
    case yz6_5 => (intro w hSw; (try dsimp only at hSw); go_simp <;> with_reducible rfl)
    try simp only [Act.put, List.setIfInBounds_toArray, List.set_cons_zero, List.set_cons_succ]
    refine wpAnyH_take (i := 6) (oi := ?oz7_6) (v := ?vz7_6) ?hz7_6 ?pz7_6 ?qz7_6 ?rz7_6 (fun _ _ _ h => h) (Or.inl ⟨?sz7_6, ?yz7_6⟩) (by assumption) ?nz7_6
    case hz7_6 => simp only [List.getElem?_toArray, List.getElem?_cons_succ, List.getElem?_cons_zero]; rfl
    case pz7_6 => kernel_rfl
    case qz7_6 => kernel_rfl
    case rz7_6 => kernel_rfl
    case sz7_6 => rfl
    case yz7_6 => (intro w hSw; (try dsimp only at hSw); go_simp <;> with_reducible rfl)
    try simp only [Act.put, List.setIfInBounds_toArray, List.set_cons_zero, List.set_cons_succ]
    refine wpAnyH_take (i := 7) (oi := ?oz8_7) (v := ?vz8_7) ?hz8_7 ?pz8_7 ?qz8_7 ?rz8_7 (fun _ _ _ h => h) (Or.inl ⟨?sz8_7, ?yz8_7⟩) (by assumption) ?nz8_7
    case hz8_7 => simp only [List.getElem?_toArray, List.getElem?_cons_succ, List.getElem?_cons_zero]; rfl
    case pz8_7 => kernel_rfl
    case qz8_7 => kernel_rfl
    case rz8_7 => kernel_rfl
    case sz8_7 => rfl
    case yz8_7 => (intro w hSw; (try dsimp only at hSw); go_simp <;> with_reducible rfl)
    try simp only [Act.put, List.setIfInBounds_toArray, List.set_cons_zero, List.set_cons_succ]
    refine wpAnyH_take (i := 8) (oi := ?oz9_8) (v := ?vz9_8) ?hz9_8 ?pz9_8 ?qz9_8 ?rz9_8 (fun _ _ _ h => h) (Or.inl ⟨?sz9_8, ?yz9_8⟩) (by assumption) ?nz9_8
    case hz9_8 => simp only [List.getElem?_toArray, List.getElem?_cons_succ, List.getElem?_cons_zero]; rfl
    case pz9_8 => kernel_rfl
    case qz9_8 => kernel_rfl
    case rz9_8 => kernel_rfl
    case sz9_8 => rfl
    case yz9_8 => (intro w hSw; (try dsimp only at hSw); go_simp <;> with_reducible rfl)
    try simp only [Act.put, List.setIfInBounds_toArray, List.set_cons_zero, List.set_cons_succ]
    refine wpAnyH_take (i := 11) (oi := ?oz10_11) (v := ?vz10_11) ?hz10_11 ?pz10_11 ?qz10_11 ?rz10_11 (fun _ _ _ h => h) (Or.inl ⟨?sz10_11, ?yz10_11⟩) (by assumption) ?nz10_11
    case hz10_11 => simp only [List.getElem?_toArray, List.getElem?_cons_succ, List.getElem?_cons_zero]; rfl
    case pz10_11 => kernel_rfl
    case qz10_11 => kernel_rfl
    case rz10_11 => kernel_rfl
    case sz10_11 => rfl
    case yz10_11 => (intro w hSw; (try dsimp only at hSw); go_simp <;> with_reducible rfl)
    try simp only [Act.put, List.setIfInBounds_toArray, List.set_cons_zero, List.set_cons_succ]
    refine wpAnyH_take (i := 12) (oi := ?oz11_12) (v := ?vz11_12) ?hz11_12 ?pz11_12 ?qz11_12 ?rz11_12 (fun _ _ _ h => h) (Or.inl ⟨?sz11_12, ?yz11_12⟩) (by assumption) ?nz11_12
    case hz11_12 => simp only [List.getElem?_toArray, List.getElem?_cons_succ, List.getElem?_cons_zero]; rfl
    case pz11_12 => kernel_rfl
    case qz11_12 => kernel_rfl
    case rz11_12 => kernel_rfl
    case sz11_12 => rfl
    case yz11_12 => (intro w hSw; (try dsimp only at hSw); go_simp <;> with_reducible rfl)
    try simp only [Act.put, List.setIfInBounds_toArray, List.set_cons_zero, List.set_cons_succ]
    refine wpAnyH_take (i := 13) (oi := ?oz12_13) (v := ?vz12_13) ?hz12_13 ?pz12_13 ?qz12_13 ?rz12_13 (fun _ _ _ h => h) (Or.inl ⟨?sz12_13, ?yz12_13⟩) (by assumption) ?nz12_13
    case hz12_13 => simp only [List.getElem?_toArray, List.getElem?_cons_succ, List.getElem?_cons_zero]; rfl
    case pz12_13 => kernel_rfl
    case qz12_13 => kernel_rfl
    case rz12_13 => kernel_rfl
    case sz12_13 => rfl
    case yz12_13 => (intro w hSw; (try dsimp only at hSw); go_simp <;> with_reducible rfl)
    try simp only [Act.put, List.setIfInBounds_toArray, List.set_cons_zero, List.set_cons_succ]
    refine wpAnyH_take (i := 14) (oi := ?oz13_14) (v := ?vz13_14) ?hz13_14 ?pz13_14 ?qz13_14 ?rz13_14 (fun _ _ _ h => h) (Or.inl ⟨?sz13_14, ?yz13_14⟩) (by assumption) ?nz13_14
    case hz13_14 => simp only [List.getElem?_toArray, List.getElem?_cons_succ, List.getElem?_cons_zero]; rfl
    case pz13_14 => kernel_rfl
    case qz13_14 => kernel_rfl
    case rz13_14 => kernel_rfl
    case sz13_14 => rfl
    case yz13_14 => (intro w hSw; (try dsimp only at hSw); go_simp <;> with_reducible rfl)
    try simp only [Act.put, List.setIfInBounds_toArray, List.set_cons_zero, List.set_cons_succ]
    refine wpAnyH_take (i := 15) (oi := ?oz14_15) (v := ?vz14_15) ?hz14_15 ?pz14_15 ?qz14_15 ?rz14_15 (fun _ _ _ h => h) (Or.inl ⟨?sz14_15, ?yz14_15⟩) (by assumption) ?nz14_15
    case hz14_15 => simp only [List.getElem?_toArray, List.getElem?_cons_succ, List.getElem?_cons_zero]; rfl
    case pz14_15 => kernel_rfl
    case qz14_15 => kernel_rfl
    case rz14_15 => kernel_rfl
    case sz14_15 => rfl
    case yz14_15 => (intro w hSw; (try dsimp only at hSw); go_simp <;> with_reducible rfl)
    try simp only [Act.put, List.setIfInBounds_toArray, List.set_cons_zero, List.set_cons_succ]
    refine wpAnyH_take (i := 16) (oi := ?oz15_16) (v := ?vz15_16) ?hz15_16 ?pz15_16 ?qz15_16 ?rz15_16 (fun _ _ _ h => h) (Or.inl ⟨?sz15_16, ?yz15_16⟩) (by assumption) ?nz15_16
    case hz15_16 => simp only [List.getElem?_toArray, List.getElem?_cons_succ, List.getElem?_cons_zero]; rfl
    case pz15_16 => kernel_rfl
    case qz15_16 => kernel_rfl
    case rz15_16 => kernel_rfl
    case sz15_16 => rfl
    case yz15_16 => (intro w hSw; (try dsimp only at hSw); go_simp <;> with_reducible rfl)
    try simp only [Act.put, List.setIfInBounds_toArray, List.set_cons_zero, List.set_cons_succ]
    refine wpAnyH_ready (rs := [9, 17]) (by kernel_rfl) (by simp) ?_
    refine AllReadyH.cons (o := ?o16_9) ?h16_9 (fun K hK => ?k9) (AllReadyH.cons (o := ?o16_17) ?h16_17 (fun K hK => ?k17) AllReadyH.nil)
    case h16_9 => simp only [List.getElem?_toArray, List.getElem?_cons_succ, List.getElem?_cons_zero]; rfl
    case h16_17 => simp only [List.getElem?_toArray, List.getElem?_cons_succ, List.getElem?_cons_zero]; rfl
    case k9 =>
      go_simp
      go_at_call 27
      refine (encodeP (rdOf b0 b1 b2) _ (rdOf_valid b0 b1 b2)).mono ?_
      rintro e w5 ⟨A5, c5, rfl, hs5, hb5⟩
      rw [hE] at hs5
      have hk5 := bc _ _ (by assumption) hb5
      refine hK.out _ _ ?_ (fun hHeld => ?_)
      · (first | with_reducible assumption | (with_reducible refine Below.drew ?_; with_reducible assumption) | (with_reducible refine ba _ _ ?_; with_reducible assumption) | (with_reducible refine Below.drew ?_; with_reducible refine ba _ _ ?_; with_reducible assumption) | exact Below.refl _ _ | exact (Below.refl _ _).drew | exact (Below.refl _ _).alloc (Nat.le_refl _) _ | (refine bc _ _ (by assumption) (by assumption)))
      clear hK K
      try simp only [Act.put, List.setIfInBounds_toArray, List.set_cons_zero, List.set_cons_succ]
      refine wpAnyH_base hHeld fun hH5 => ?_
      have bt := onward hk5
      have cE : ∀ W, Below w5.heap.size w5 W → (convert 25 9 (.slice A5 3 c5)).run Try.prog W = .ok (.string ⟨#[b0, b1, b2]⟩) W := fun W hW => convB12 hs5 W (Below.agree hW)
      clear hs5 hb5
      refine wpAnyH_take (i := 10) (oi := ?oz17_10) (v := ?vz17_10) ?hz17_10 ?pz17_10 ?qz17_10 ?rz17_10 (fun _ _ _ h => h) (Or.inl ⟨?sz17_10, ?yz17_10⟩) (by assumption) ?nz17_10
      case hz17_10 => simp only [List.getElem?_toArray, List.getElem?_cons_succ, List.getElem?_cons_zero]; rfl
      case pz17_10 => kernel_rfl
      case qz17_10 => kernel_rfl
      case rz17_10 => kernel_rfl
      case sz17_10 => rfl
      case yz17_10 => (intro w hSw; (try dsimp only at hSw); go_simp <;> with_reducible rfl)
      try simp only [Act.put, List.setIfInBounds_toArray, List.set_cons_zero, List.set_cons_succ]
      refine wpAnyH_ready (rs := [17]) (by kernel_rfl) (by simp) ?_
      refine AllReadyH.cons (o := ?o18_17) ?h18_17 (fun K hK => ?k18_17) AllReadyH.nil
      case h18_17 => simp only [List.getElem?_toArray, List.getElem?_cons_succ, List.getElem?_cons_zero]; rfl
      go_simp
      refine hK.out _ _ ?_ (fun hHeld => ?_)
      · (first | with_reducible assumption | (with_reducible refine Below.drew ?_; with_reducible assumption) | (with_reducible refine ba _ _ ?_; with_reducible assumption) | (with_reducible refine Below.drew ?_; with_reducible refine ba _ _ ?_; with_reducible assumption) | exact Below.refl _ _ | exact (Below.refl _ _).drew | exact (Below.refl _ _).alloc (Nat.le_refl _) _ | (refine bc _ _ (by assumption) (by assumption)))
      clear hK K
      try simp only [Act.put, List.setIfInBounds_toArray, List.set_cons_zero, List.set_cons_succ]
      refine wpAnyH_world hHeld (F := fun X => Below w5.heap.size w5 X ∧ Sl .u8 (fun _ => True) X (some ⟨w5.heap.size, 0, none⟩) 3 [b0, b1, b2]) ⟨(Below.refl _ _).alloc (Nat.le_refl _) _, lit3 b0 b1 b2 w5 rfl⟩ ?_
      rintro w6 hw6 ⟨h46, l6⟩ hHeld
      have bt6 := onward hw6
      have bt46 := onward h46
      have cL : ∀ W, Below w6.heap.size w6 W → (convert 25 9 (.slice (some ⟨w5.heap.size, 0, none⟩) 3 3)).run Try.prog W = .ok (.string ⟨#[b0, b1, b2]⟩) W := fun W hW => convB12 l6 W (Below.agree hW)
      refine wpAnyH_take (i := 18) (oi := ?oz19_18) (v := ?vz19_18) ?hz19_18 ?pz19_18 ?qz19_18 ?rz19_18 (fun _ _ _ h => h) (Or.inl ⟨?sz19_18, ?yz19_18⟩) (by assumption) ?nz19_18
      case hz19_18 => simp only [List.getElem?_toArray, List.getElem?_cons_succ, List.getElem?_cons_zero]; rfl
      case pz19_18 => kernel_rfl
      case qz19_18 => kernel_rfl
      case rz19_18 => kernel_rfl
      case sz19_18 => rfl
      case yz19_18 => (intro w hSw; (try dsimp only at hSw); go_simp <;> with_reducible rfl)
      try simp only [Act.put, List.setIfInBounds_toArray, List.set_cons_zero, List.set_cons_succ]
      refine wpAnyH_take (i := 19) (oi := ?oz20_19) (v := ?vz20_19) ?hz20_19 ?pz20_19 ?qz20_19 ?rz20_19 (fun _ _ _ h => h) (Or.inl ⟨?sz20_19, ?yz20_19⟩) (by assumption) ?nz20_19
      case hz20_19 => simp only [List.getElem?_toArray, List.getElem?_cons_succ, List.getElem?_cons_zero]; rfl
      case pz20_19 => kernel_rfl
      case qz20_19 => kernel_rfl
      case rz20_19 => kernel_rfl
      case sz20_19 => rfl
      case yz20_19 => (intro w hSw; (try dsimp only at hSw); go_simp <;> with_reducible rfl)
      try simp only [Act.put, List.setIfInBounds_toArray, List.set_cons_zero, List.set_cons_succ]
      refine wpAnyH_take (i := 20) (oi := ?oz21_20) (v := ?vz21_20) ?hz21_20 ?pz21_20 ?qz21_20 ?rz21_20 (fun _ _ _ h => h) (Or.inl ⟨?sz21_20, ?yz21_20⟩) (by assumption) ?nz21_20
      case hz21_20 => simp only [List.getElem?_toArray, List.getElem?_cons_succ, List.getElem?_cons_zero]; rfl
      case pz21_20 => kernel_rfl
      case qz21_20 => kernel_rfl
      case rz21_20 => kernel_rfl
      case sz21_20 => rfl
      case yz21_20 => (intro w hSw; (try dsimp only at hSw); go_simp <;> with_reducible rfl)
      try simp only [Act.put, List.setIfInBounds_toArray, List.set_cons_zero, List.set_cons_succ]
      refine wpAnyH_done (by kernel_rfl) ?_ _
      refine NoPanic.normal ?_
      go_wp2_with fail
      go_meet
      case rel => exact ⟨rfl, bt _ hw6⟩
    case k17 =>
      go_simp
      refine hK.out _ _ ?_ (fun hHeld => ?_)
      · (first | with_reducible assumption | (with_reducible refine Below.drew ?_; with_reducible assumption) | (with_reducible refine ba _ _ ?_; with_reducible assumption) | (with_reducible refine Below.drew ?_; with_reducible refine ba _ _ ?_; with_reducible assumption) | exact Below.refl _ _ | exact (Below.refl _ _).drew | exact (Below.refl _ _).alloc (Nat.le_refl _) _ | (refine bc _ _ (by assumption) (by assumption)))
      clear hK K
      try simp only [Act.put, List.setIfInBounds_toArray, List.set_cons_zero, List.set_cons_succ]
      refine wpAnyH_world hHeld (F := fun X => Below w4.heap.size w4 X ∧ Sl .u8 (fun _ => True) X (some ⟨w4.heap.size, 0, none⟩) 3 [b0, b1, b2]) ⟨(Below.refl _ _).alloc (Nat.le_refl _) _, lit3 b0 b1 b2 w4 rfl⟩ ?_
      rintro w6 hw6 ⟨h46, l6⟩ hHeld
      have bt6 := onward hw6
      have bt46 := onward h46
      have cL : ∀ W, Below w6.heap.size w6 W → (convert 25 9 (.slice (some ⟨w4.heap.size, 0, none⟩) 3 3)).run Try.prog W = .ok (.string ⟨#[b0, b1, b2]⟩) W := fun W hW => convB12 l6 W (Below.agree hW)
      refine wpAnyH_take (i := 18) (oi := ?oz22_18) (v := ?vz22_18) ?hz22_18 ?pz22_18 ?qz22_18 ?rz22_18 (fun _ _ _ h => h) (Or.inl ⟨?sz22_18, ?yz22_18⟩) (by assumption) ?nz22_18
      case hz22_18 => simp only [List.getElem?_toArray, List.getElem?_cons_succ, List.getElem?_cons_zero]; rfl
      case pz22_18 => kernel_rfl
      case qz22_18 => kernel_rfl
      case rz22_18 => kernel_rfl
      case sz22_18 => rfl
      case yz22_18 => (intro w hSw; (try dsimp only at hSw); go_simp <;> with_reducible rfl)
      try simp only [Act.put, List.setIfInBounds_toArray, List.set_cons_zero, List.set_cons_succ]
      refine wpAnyH_ready (rs := [9]) (by kernel_rfl) (by simp) ?_
      refine AllReadyH.cons (o := ?o23_9) ?h23_9 (fun K hK => ?k23_9) AllReadyH.nil
      case h23_9 => simp only [List.getElem?_toArray, List.getElem?_cons_succ, List.getElem?_cons_zero]; rfl
      go_simp
      go_at_call 27
      refine (encodeP (rdOf b0 b1 b2) _ (rdOf_valid b0 b1 b2)).mono ?_
      rintro e w5 ⟨A5, c5, rfl, hs5, hb5⟩
      rw [hE] at hs5
      have hk5 : Below wr.heap.size wr w5 := bc _ _ hw6 (hb5.mono (by simp))
      refine hK.out _ _ ?_ (fun hHeld => ?_)
      · (first | with_reducible assumption | (with_reducible refine Below.drew ?_; with_reducible assumption) | (with_reducible refine ba _ _ ?_; with_reducible assumption) | (with_reducible refine Below.drew ?_; with_reducible refine ba _ _ ?_; with_reducible assumption) | exact Below.refl _ _ | exact (Below.refl _ _).drew | exact (Below.refl _ _).alloc (Nat.le_refl _) _ | (refine bc _ _ (by assumption) (by assumption)))
      clear hK K
      try simp only [Act.put, List.setIfInBounds_toArray, List.set_cons_zero, List.set_cons_succ]
      refine wpAnyH_base hHeld fun hH5 => ?_
      have cE : ∀ W, Below w5.heap.size w5 W → (convert 25 9 (.slice A5 3 c5)).run Try.prog W = .ok (.string ⟨#[b0, b1, b2]⟩) W := fun W hW => convB12 hs5 W (Below.agree hW)
      refine wpAnyH_take (i := 10) (oi := ?oz24_10) (v := ?vz24_10) ?hz24_10 ?pz24_10 ?qz24_10 ?rz24_10 (fun _ _ _ h => h) (Or.inl ⟨?sz24_10, ?yz24_10⟩) (by assumption) ?nz24_10
      case hz24_10 => simp only [List.getElem?_toArray, List.getElem?_cons_succ, List.getElem?_cons_zero]; rfl
      case pz24_10 => kernel_rfl
      case qz24_10 => kernel_rfl
      case rz24_10 => kernel_rfl
      case sz24_10 => rfl
      case yz24_10 => (intro w hSw; (try dsimp only at hSw); go_simp <;> with_reducible rfl)
      try simp only [Act.put, List.setIfInBounds_toArray, List.set_cons_zero, List.set_cons_succ]
      refine wpAnyH_take (i := 19) (oi := ?oz25_19) (v := ?vz25_19) ?hz25_19 ?pz25_19 ?qz25_19 ?rz25_19 (fun _ _ _ h => h) (Or.inl ⟨?sz25_19, ?yz25_19⟩) (by assumption) ?nz25_19
      case hz25_19 => simp only [List.getElem?_toArray, List.getElem?_cons_succ, List.getElem?_cons_zero]; rfl
      case pz25_19 => kernel_rfl
      case qz25_19 => kernel_rfl
      case rz25_19 => kernel_rfl
      case sz25_19 => rfl
      case yz25_19 => (intro w hSw; (try dsimp only at hSw); go_simp <;> with_reducible rfl)
      try simp only [Act.put, List.setIfInBounds_toArray, List.set_cons_zero, List.set_cons_succ]
      refine wpAnyH_take (i := 20) (oi := ?oz26_20) (v := ?vz26_20) ?hz26_20 ?pz26_20 ?qz26_20 ?rz26_20 (fun _ _ _ h => h) (Or.inl ⟨?sz26_20, ?yz26_20⟩) (by assumption) ?nz26_20
      case hz26_20 => simp only [List.getElem?_toArray, List.getElem?_cons_succ, List.getElem?_cons_zero]; rfl
      case pz26_20 => kernel_rfl
      case qz26_20 => kernel_rfl
      case rz26_20 => kernel_rfl
      case sz26_20 => rfl
      case yz26_20 => (intro w hSw; (try dsimp only at hSw); go_simp <;> with_reducible rfl)
      try simp only [Act.put, List.setIfInBounds_toArray, List.set_cons_zero, List.set_cons_succ]
      refine wpAnyH_done (by kernel_rfl) ?_ _
      refine NoPanic.normal ?_
      go_wp2_with fail
      go_meet
      case rel => exact ⟨rfl, hk5⟩
  case rest =>
    obtain ⟨rfl, bc⟩ := hcut
    replace gR := mv gR bc
    have bw2 := Lib.hid (bw.out.trans (bc.mono bw.out.size))
    have bs := Lib.hid bc
    clear gB gX bw bc lX
    go_upto_region 5 with fail
    go_cut [54] (fun v wx => v = .bool (shortB more.length) ∧ wx = wc)
    case first => as_aux_lemma =>
      by_cases h3 : more.length = 3
      · have q : ((more.length : Int) != 3) = false := by simp [h3]
        have q2 := Lib.hid h3
        clear h3
        go_wp2_with fail
        go_meet
        case rel => exact ⟨by unfold shortB; rw [q2.out]; rfl, rfl⟩
      · have q : ((more.length : Int) != 3) = true := by simp; omega
        have q2 := Lib.hid h3
        clear h3
        go_wp2_with fail
        go_meet
        case rel => exact ⟨by unfold shortB; have := q2.out; refine congrArg Value.bool ?_; rw [Bool.eq_iff_iff]; simp only [decide_eq_true_eq]; omega, rfl⟩
    case rest =>
      obtain ⟨rfl, rfl⟩ := hcut
      obtain ⟨wd, hwd⟩ : ∃ X, X = wc := ⟨wc, rfl⟩
      subst hwd
      go_upto_if 54 with fail
      go_cut [] (fun wx => Below wd.heap.size wd wx)
      case first => as_aux_lemma =>
        cases hb : shortB more.length with
        | false =>
          go_wp2_with fail
          go_meet
          case rel => exact Below.refl _ _
        | true =>
          have hn3 : more.length ≠ 3 := by unfold shortB at hb; simp at hb; omega
          have hn3' := Lib.hid hn3
          clear hn3
          clear hb
          go_wp2_with (go_at_call 23; refine (decodeP_bad _ hn3'.out).mono ?_; rintro e w2 ⟨rfl, hb2⟩)
          go_meet
          case rel =>
            exact ((Below.refl _ _).trans hb2).alloc hb2.size _
      case rest =>
        replace gR := mv gR hcut
        replace bw2 := Lib.hid (bw2.out.trans (hcut.mono bw2.out.size))
        obtain ⟨x0, x1, x2, x3⟩ := rd4 gR
        have lR := heap_lt gR.out
        clear bs hcut
        cases hv : validB r with
        | false =>
          go_wp2_with (go_at_call 17; refine (validP_eq hv _).mono ?_; rintro e w4 ⟨rfl, hb4⟩)
          go_ret
          exact ⟨rfl, bw2.out.trans (Below.mono (by assumption : Below wc.heap.size wc _) bw2.out.size)⟩
        | true =>
          go_wp2_with (go_at_call 17; refine (validP_eq hv _).mono ?_; rintro e w4 ⟨rfl, hb4⟩; have bz_hb4 := hb4.size; (try simp [World.setCell] at bz_hb4); have bl0_hb4 : w.heap.size+1 < w4.heap.size := (by omega); have bk0_hb4 : w.heap.size+1 < wc.heap.size := (by omega); obtain ⟨hc_hb4, hf_hb4⟩ := bcellk (k := wc.heap.size) hb4 (by first | exact Nat.le_refl _ | (simp [World.setCell]; done) | omega | (simp [World.setCell]; omega)))
          have hV : ValidR r := by simpa [validB] using hv
          have hV' := Lib.hid hV
          have hrd := Lib.hid (rdOf_encode hV)
          have hok : okB r.val = true := by unfold okB; obtain ⟨_, _, _, h1, h2⟩ := hV; simp; omega
          have hwr : IntKind.u64.wrap r.val = r.val := by obtain ⟨_, _, _, h1, h2⟩ := hV; exact IntWalk.u64_in _ ⟨h1, by omega⟩
          clear hV
          have hv' := Lib.hid hv
          clear hv
          go_wp2_with (first
            | (go_at_call 17; refine (validP_eq hv'.out _).mono ?_; rintro e w4 ⟨rfl, hb4⟩; have bz_hb4 := hb4.size; (try simp [World.setCell] at bz_hb4); have bl0_hb4 : w.heap.size+1 < w4.heap.size := (by omega); have bk0_hb4 : w.heap.size+1 < wc.heap.size := (by omega); obtain ⟨hc_hb4, hf_hb4⟩ := bcellk (k := wc.heap.size) hb4 (by first | exact Nat.le_refl _ | (simp [World.setCell]; done) | omega | (simp [World.setCell]; omega)))
            | (go_at_call 41; refine (refValid _ _).mono ?_; rw [hok]; rintro e w7 ⟨rfl, rfl⟩)
            | (go_at_call 27; refine (encodeP r _ hV'.out).mono ?_; rintro e w5 ⟨A5, c5, rfl, hs5, hb5⟩; have bz_hb5 := hb5.size; (try simp [World.setCell] at bz_hb5); have bl0_hb5 : w.heap.size+1 < w5.heap.size := (by omega); have bk0_hb5 : w.heap.size+1 < wc.heap.size := (by omega); obtain ⟨hc_hb5, hf_hb5⟩ := bcellk (k := wc.heap.size) hb5 (by first | exact Nat.le_refl _ | (simp [World.setCell]; done) | omega | (simp [World.setCell]; omega)); replace hs5 := Lib.hid hs5)
            | (go_at_call 23; refine (decodeP _ _ _ _ hs5.out).mono ?_; rw [hrd.out]; rintro e w6 ⟨rfl, hb6⟩; have bz_hb6 := hb6.size; (try simp [World.setCell] at bz_hb6); have bl0_hb6 : w.heap.size+1 < w6.heap.size := (by omega); have bk0_hb6 : w.heap.size+1 < wc.heap.size := (by omega); obtain ⟨hc_hb6, hf_hb6⟩ := bcellk (k := wc.heap.size) hb6 (by first | exact Nat.le_refl _ | (simp [World.setCell]; done) | omega | (simp [World.setCell]; omega))))
          all_goals go_ret
          all_goals exact ⟨rfl, bw2.out.trans (Below.mono ((hb4.trans (hb5.mono hb4.size)).trans (hb6.mono (Nat.le_trans hb4.size hb5.size)) |>.alloc (Nat.le_trans hb4.size (Nat.le_trans hb5.size hb6.size)) _) bw2.out.size)⟩
end Go.Proofs.Ytlolppjnpmdpgaa
