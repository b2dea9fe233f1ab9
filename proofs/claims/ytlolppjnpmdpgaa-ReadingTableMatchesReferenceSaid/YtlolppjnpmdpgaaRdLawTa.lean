/-
  The law 'ReadingTableMatchesReference', walked: it returns true for every input, and nothing that existed changes. No condition.
-/
import Derived.Test.YtlolppjnpmdpgaaRdS
import Derived.Test.YtlolppjnpmdpgaaRdRow
namespace Go.Proofs.Ytlolppjnpmdpgaa
open Go.RowKit

/-- Columns collected in a slice of the call's own; they lie anywhere but in its block. -/
structure Colls (w0 : World) (B : Nat) (xs : List (List Int)) (v : Value) (wr : World) : Prop where
  own : Own Enc.u64.slice (fun b => ∀ k, v.ownBlock = some k → b ≠ k) wr B 48 v xs
  bel : Below w0.heap.size w0 wr
  base : w0.heap.size ≤ B
  size : B ≤ wr.heap.size
section
variable {w0 wr w2 w6 : World} {B : Nat} {xs : List (List Int)} {v v' : Value} {x : List Int} {A : Option Addr} {c : Nat}
theorem Colls.pre (h : Colls w0 B xs v wr) (hb : Below wr.heap.size wr w2) (o : Obj) : Own Enc.u64.slice (fun b => (∀ k, v.ownBlock = some k → b ≠ k) ∧ b ≤ w2.heap.size) (w2.alloc o) B 48 v xs :=
  ((h.own.call hb).sub (fun b hb' hl => ⟨hb', by omega⟩)).alloc o
theorem Colls.lit {T : Nat → Prop} (h : Colls w0 B xs v wr) (hs : Sl .u64 T w2 A c x) (hT : ∀ b, T b → b < w2.heap.size → b < B ∨ wr.heap.size ≤ b) (hz : wr.heap.size ≤ w2.heap.size) :
    Sl Enc.u64.slice (fun b => (∀ k, v.ownBlock = some k → b ≠ k) ∧ b ≤ w2.heap.size) (w2.alloc (.cells #[.slice A x.length c] 48)) (some ⟨w2.heap.size, 0, none⟩) 1 [x] :=
  Sl.litAt (S := fun b => (∀ k, v.ownBlock = some k → b ≠ k) ∧ b ≤ w2.heap.size) rfl (.single ⟨A, c, rfl, hs.sub fun b h1 h2 => ⟨fun k hk => by have := h.own.lt k hk; have := hT b h1 h2; omega, by omega⟩⟩) (by unfold maxLen; simp) (fun _ h _ => h) ⟨fun k hk => by have := h.own.lt k hk; omega, Nat.le_refl _⟩
theorem Colls.app {o : Obj} (h : Colls w0 B xs v wr) (hb : Below wr.heap.size wr w2) (ho : Own Enc.u64.slice (fun b => (∀ k, v.ownBlock = some k → b ≠ k) ∧ b ≤ w2.heap.size) w6 B 48 v' (xs ++ [x])) (hg : (w2.alloc o).grownBy w6 v.ownBlock)
    (hor : ∀ g, v'.ownBlock = some g → v.ownBlock = some g ∨ (w2.alloc o).heap.size = g) : Colls w0 B (xs ++ [x]) v' w6 := by
  have hz := hg.size
  have h2 := hb.size
  have h3 := h.base
  have h4 := h.size
  have h5 := h.bel.size
  simp at hz
  refine ⟨ho.sub fun b h1 h2 k hk => ?_, ((h.bel.trans (hb.mono h5)).alloc (by omega) _).grown hg (by simp; omega) (fun k hk => by have := (h.own.lt k hk).1; omega), h3, by omega⟩
  rcases hor k hk with h6 | h6
  · exact h1.1 k h6
  · have := h1.2; simp at h6; omega
theorem Colls.move (h : Colls w0 B xs v wr) (hb : Below wr.heap.size wr w2) : Colls w0 B xs v w2 :=
  ⟨h.own.call hb, h.bel.trans (hb.mono h.bel.size), h.base, Nat.le_trans h.size hb.size⟩
end
theorem tableR_eq {l : List (List Int)} {A : Option Addr} {c : Nat} {S : Nat → Prop} {p : List Int × Int} (w : World) (h : Sl Enc.u64.slice S w A c l) (h8 : headLen l ≤ 8) (hp : tableF l = p) :
    Calls Try.prog 30 #[.slice A l.length c] w (TabRes w p) := by
  rw [← hp]; exact tableR w h h8
theorem one15at {w : World} {g : Nat} {A : Option Addr} {c : Nat} {l : List Int} (hg : w.heap.size = g) (h : Sl .u64 (fun _ => True) w A c l) : Sl Enc.u64.slice (fun _ => True) (w.alloc (.cells #[.slice A l.length c] 48)) (some ⟨g, 0, none⟩) 1 [l] := by
  subst hg; exact one15 h
theorem pow_small (n : UInt8) : ∃ N : Nat, wrap64 (2 ^ (n.toNat / 2 % 4)) = (N : Int) ∧ 1 ≤ N ∧ N ≤ 8 := by
  have h : ∀ k : Fin 4, wrap64 (2 ^ k.1) = ((2 ^ k.1 : Nat) : Int) ∧ 1 ≤ 2 ^ k.1 ∧ 2 ^ k.1 ≤ 8 := by decide +kernel
  exact ⟨_, h ⟨n.toNat / 2 % 4, by omega⟩⟩
def LawTaRel (w : World) (xs : List (List Int)) (i v : Value) (wr : World) : Prop :=
  ∃ (j : Nat) (L : List (List Int)) (A : Option Addr) (c : Nat), j ≤ xs.length ∧ j ≤ 66 ∧ i = .int .i64 j ∧ v = .slice A L.length c ∧ (∀ x ∈ L, x.length ≤ 8) ∧ L.length ≤ j ∧ Colls w w.heap.size L v wr
set_option maxRecDepth 100000 in
set_option maxHeartbeats 8000000 in
theorem walk_ReadingTableMatchesReference {xs : List (List Int)} {n : UInt8} {A : Option Addr} {c : Nat} (w : World) (h : Sl Enc.u64.slice (fun _ => True) w A c xs) :
    Calls Try.prog 4 #[.slice A xs.length c, .int .u8 (n.toNat : Int)] w fun e w' => e = .returned (.bool true) ∧ Below w.heap.size w w' := by
  have hm := h.max
  have H := Lib.hid h.old
  clear h
  go_enter Try.func4, Try.ntmps4
  go_wp2_with fail
  refine (sanityR _).mono ?_
  rintro e w1 ⟨rfl, hb⟩
  have b1 := Lib.hid hb
  have z1 := hb.size
  clear hb
  go_wp2_with fail
  go_loopw [7, 6] (fun i v wr => LawTaRel w xs i v wr) (fun i _ _ => xs.length - (intOf i).toNat)
  case atStart =>
    refine ⟨0, [], some ⟨w1.heap.size, 0, none⟩, 0, by omega, by omega, rfl, rfl, by simp, by simp, Own.litAt Enc.u64.slice _ _ _ rfl z1, b1.out.alloc z1 _, Nat.le_refl _, by simp; omega⟩
  case round =>
    obtain ⟨j, L, A1, c1, hj, hj66, rfl, rfl, hL, hLj, hC⟩ := hrel
    have hj0 : (0 : Int) ≤ (j : Int) := by omega
    have HC := Lib.hid hC
    have hz := hC.bel.size
    clear hC
    by_cases hin : j < xs.length ∧ j < 66
    · obtain ⟨hlt, h66⟩ := hin
      · have hx : xs[j]? = some xs[j] := List.getElem?_eq_getElem hlt
        generalize xs[j] = x at hx
        obtain ⟨b2, o2, B2, d2, rfl, hS2, hb2, x0, hs2⟩ := col_at (H.out.keep (Below.agree HC.out.bel)) hx
        have hi1 : (j : Int) < (xs.length : Int) := by omega
        have hi2 : (j : Int) < 66 := by omega
        have hm2 := hs2.max
        have Hs2 := Lib.hid hs2
        have hx' := Lib.hid hx
        clear hx hs2
        go_upto_if 33 with fail
        have hx0 := Lib.hid (hold x0)
        obtain ⟨wo, hwo⟩ : ∃ X, X = wr := ⟨wr, rfl⟩
        subst hwo
        go_cut [8] (fun v wx => ∃ A c x, v = .slice A x.length c ∧ Sl .u64 (fun b => b < w.heap.size ∨ wo.heap.size ≤ b) wx A c x ∧ Below wo.heap.size wo wx)
        case first => as_aux_lemma =>
          cases hev : bits BinOp.and IntKind.u8 (↑n.toNat) 1 == 0 with
          | false =>
            go_wp2_with fail
            go_meet
            case rel => exact ⟨B2, d2, x, rfl, Hs2.out.sub fun b hb _ => .inl hb.2, Below.refl _ _⟩
          | true =>
            obtain ⟨N, hN, hN1, hN8⟩ := pow_small n
            have HN := Lib.hid hN
            clear hN
            go_wp2_with (at_make; go_must ((refine wpList_make_u64 _ rfl (.tmp 37) (.tmp 37) rfl (n := N) (by show Value.int IntKind.i64 (wrap64 (2 ^ (n.toNat / 2 % 4))) = _; rw [HN.out]) (by show Value.int IntKind.i64 (wrap64 (2 ^ (n.toNat / 2 % 4))) = _; rw [HN.out]) (by omega) ?_; intro w3 hown3 hg3; have hb3 : Below wo.heap.size wo w3 := Below.grown (Below.refl _ _) hg3 (Nat.le_refl _) (by rintro k ⟨⟩))))
            clear x0 hev
            go_loopw [10] (fun i wr => ∃ (i0 : Nat) (ys : List Int), i0 ≤ N ∧ i = .int .i64 i0 ∧ ys.length = N ∧ Own .u64 (fun _ => False) wr wo.heap.size 50 (.slice (some ⟨wo.heap.size, 0, none⟩) N N) ys ∧ Below wo.heap.size wo wr) (fun i _ => N - (intOf i).toNat)
            case atStart => exact ⟨0, _, Nat.zero_le _, rfl, List.length_replicate, hown3, hb3⟩
            case round =>
              obtain ⟨i0, ys, hi0, rfl, hys, ho, hb⟩ := hrel
              have hi00 : (0 : Int) ≤ (i0 : Int) := by omega
              have hzr := hb.size
              have x0 := hx0.out wr hb
              have hsx := Hs2.out.keep (Below.agree hb)
              have hy0 := u64_cell ho (k := i0)
              have hf0 := ho.frozen i0
              have HO := Lib.hid ho
              have HB := Lib.hid hb
              have HY := Lib.hid hys
              have hlb : b2 < wr.heap.size := by omega
              clear ho hb
              by_cases h1 : i0 < N
              · by_cases h2 : i0 < x.length
                · obtain ⟨b3, o3, rfl, -, hb3', y0⟩ := u64_at hsx (List.getElem?_eq_getElem h2)
                  have hy1 := hy0 (by omega)
                  have hi3 : (i0 : Int) < (N : Int) := by omega
                  have hi4 : (i0 : Int) < (x.length : Int) := by omega
                  clear hy0 hys hsx
                  generalize x[i0] = u at *
                  go_wp2_with fail
                  go_roundw
                  case rel => exact ⟨i0 + 1, ys.set i0 u, by omega, by go_num, by rw [List.length_set]; exact HY.out, u64_store HO.out u, HB.out.setCell (Nat.le_refl _) _⟩
                  case measure => simp [intOf]; omega
                · have hi3 : (i0 : Int) < (N : Int) := by omega
                  have hi4 : ¬ (i0 : Int) < (x.length : Int) := by omega
                  clear hy0 hsx hys
                  go_wp2_with fail
                  go_meet
                  case rel => exact ⟨_, N, ys, by rw [HY.out], (HO.out.flatSl u64_flat (T := fun b => b < w.heap.size ∨ wo.heap.size ≤ b) (fun b hb => .inr hb)), HB.out⟩
              · have hi3 : ¬ (i0 : Int) < (N : Int) := by omega
                clear hy0 hsx hys
                go_wp2_with fail
                go_meet
                case rel => exact ⟨_, N, ys, by rw [HY.out], (HO.out.flatSl u64_flat (T := fun b => b < w.heap.size ∨ wo.heap.size ≤ b) (fun b hb => .inr hb)), HB.out⟩
        case rest =>
          obtain ⟨A3, c3, y, rfl, hsy, hb⟩ := hcut
          have hym := hsy.max
          have HY := Lib.hid hsy
          have HB := Lib.hid hb
          have hzc := hb.size
          have hsz := HC.out.size
          clear x0 hsy hb hx'
          by_cases hy8 : y.length ≤ 8
          · have hy9 : (y.length : Int) ≤ 8 := by omega
            go_wp2_with (at_builtin; go_must ((refine wpList_append_E (S := fun b => (∀ k, (Value.slice A1 L.length c1).ownBlock = some k → b ≠ k) ∧ b ≤ wc.heap.size) rfl (.tmp 68) (.tmp 70) rfl colsT (base := w.heap.size) (v := .slice A1 L.length c1) (xs := L) (ys := [y]) (by rfl) (by rfl) rfl (nz := L.length + 1) (by simp) (HC.out.pre HB.out _) (HC.out.lit HY.out (fun b h _ => h) hzc) (by unfold maxLen; simp; omega) (by simp; omega) (by simp; omega) (fun g hg h => h.1 g hg rfl) ?_); intro A5 c5 w5 hown5 hg5 hor5))
            go_roundw
            case rel => exact ⟨j + 1, L ++ [y], A5, c5, by omega, by omega, by go_num, by simp, (by intro x hx; rcases List.mem_append.1 hx with hx | hx; exact hL x hx; simp at hx; subst hx; exact hy8), by simp; omega, HC.out.app HB.out hown5 hg5 hor5⟩
            case measure => simp [intOf]; omega
          · have hy9 : ¬ (y.length : Int) ≤ 8 := by omega
            go_wp2_with fail
            go_roundw
            case rel => exact ⟨j + 1, L, A1, c1, by omega, by omega, by go_num, rfl, hL, by omega, HC.out.move HB.out⟩
            case measure => simp [intOf]; omega
    · have hL8 : headLen L ≤ 8 := by
        unfold headLen
        cases L with
        | nil => simp
        | cons x l => exact hL x (by simp)
      obtain ⟨⟨tb, kt⟩, hpt⟩ : ∃ p, tableF L = p := ⟨_, rfl⟩
      replace hpt := Lib.hid hpt
      have s6 : Hid (Sl Enc.u64.slice (fun _ => True) wr A1 c1 L) := Lib.hid (HC.out.own.toSl (fun _ _ _ => trivial) (fun _ _ _ _ => trivial))
      have b0 := Lib.hid HC.out.bel
      clear HC
      rcases (by omega : ¬ j < xs.length ∨ (j < xs.length ∧ ¬ j < 66)) with hq | hq
      · have hi1 : ¬ (j : Int) < (xs.length : Int) := by omega
        have hi2 : True := by first | trivial | omega
        clear hin hq
        go_wp2_with fail
        refine (tableP_eq (l := L) _ s6.out hL8 hpt.out).mono ?_
        rintro e w2 ⟨A2, c2, rfl, hs, bb⟩
        replace b0 := Lib.hid (b0.out.trans (bb.mono b0.out.size))
        replace s6 := mvS s6 bb
        have s11 := hs.any
        clear bb hs
        go_wp2_with fail
        refine (tableR_eq (l := L) _ s6.out hL8 hpt.out).mono ?_
        rintro e w3 ⟨A3, c3, rfl, hs, bb⟩
        replace b0 := Lib.hid (b0.out.trans (bb.mono b0.out.size))
        replace s11 := mvS s11 bb
        have s13 := hs.any
        clear bb hs s6
        go_wp2_with (go_at_call 26; refine (sameColsN (l := [tb]) rfl _ ((one15at rfl s11.out).keep ((Agree.refl _ _).alloc _)) (one15at (by simp) (s13.out.keep ((Agree.refl _ _).alloc _)))).mono ?_; rintro e w4 ⟨rfl, hb4⟩)
        go_ret
        exact ⟨rfl, b0.out.trans ((((Below.refl _ _).alloc (Nat.le_refl _) _).alloc (by simp) _).trans (hb4.mono (by simp; omega)) |>.mono b0.out.size)⟩
      · have hi1 : (j : Int) < (xs.length : Int) := by omega
        have hi2 : ¬ (j : Int) < 66 := by first | trivial | omega
        clear hin hq
        go_wp2_with fail
        refine (tableP_eq (l := L) _ s6.out hL8 hpt.out).mono ?_
        rintro e w2 ⟨A2, c2, rfl, hs, bb⟩
        replace b0 := Lib.hid (b0.out.trans (bb.mono b0.out.size))
        replace s6 := mvS s6 bb
        have s11 := hs.any
        clear bb hs
        go_wp2_with fail
        refine (tableR_eq (l := L) _ s6.out hL8 hpt.out).mono ?_
        rintro e w3 ⟨A3, c3, rfl, hs, bb⟩
        replace b0 := Lib.hid (b0.out.trans (bb.mono b0.out.size))
        replace s11 := mvS s11 bb
        have s13 := hs.any
        clear bb hs s6
        go_wp2_with (go_at_call 26; refine (sameColsN (l := [tb]) rfl _ ((one15at rfl s11.out).keep ((Agree.refl _ _).alloc _)) (one15at (by simp) (s13.out.keep ((Agree.refl _ _).alloc _)))).mono ?_; rintro e w4 ⟨rfl, hb4⟩)
        go_ret
        exact ⟨rfl, b0.out.trans ((((Below.refl _ _).alloc (Nat.le_refl _) _).alloc (by simp) _).trans (hb4.mono (by simp; omega)) |>.mono b0.out.size)⟩
end Go.Proofs.Ytlolppjnpmdpgaa
