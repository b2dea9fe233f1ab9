/-
  The law 'ReadingBitsComposeColumns', walked: it returns true for every input, and nothing that existed changes. No condition.
-/
import Derived.Test.YtlolppjnpmdpgaaRdS
import Derived.Test.YtlolppjnpmdpgaaRdRow
namespace Go.Proofs.Ytlolppjnpmdpgaa
open Go.RowKit

def fromK (k : Nat) : Nat := if k = 0 then 0 else if k = 1 then 4 else if k = 2 then 12 else if k = 3 then 16 else 24
theorem fromK_succ {k : Nat} (h : k < 4) : fromK k + widthF k = fromK (k + 1) := by
  rcases (by omega : k = 0 ∨ k = 1 ∨ k = 2 ∨ k = 3) with rfl | rfl | rfl | rfl <;> rfl
theorem width_le (k : Nat) : widthF k ≤ 8 := by unfold widthF; split <;> omega
theorem fromK_lt {k n : Nat} (h : k < 4) (hn : n < widthF k) : fromK k + n < 24 := by
  rcases (by omega : k = 0 ∨ k = 1 ∨ k = 2 ∨ k = 3) with rfl | rfl | rfl | rfl <;> simp [fromK, widthF] at * <;> omega
theorem col_bound {s : Str} (ok : OkStr s) {k : Nat} (hk : k < 4) : ∀ x ∈ colF s 4 k, 0 ≤ x ∧ x < 2 ^ widthF k := by
  intro x hx
  unfold colF padF at hx
  rcases List.mem_append.1 hx with hx | hx
  · obtain ⟨r, hr, rfl⟩ := List.mem_map.1 hx
    obtain ⟨⟨h1, h2⟩, ⟨h3, h4⟩, ⟨h5, h6⟩, h7, h8⟩ := ok.valid r hr
    rcases (by omega : k = 0 ∨ k = 1 ∨ k = 2 ∨ k = 3) with rfl | rfl | rfl | rfl <;> simp [fieldF, widthF] <;> omega
  · rw [(List.mem_replicate.1 hx).2]
    exact ⟨Int.le_refl _, Int.pow_pos (by omega)⟩
theorem bits_idx (s : Str) {k n : Nat} (hk : k < 4) (hn : n < widthF k) : (bitsF s 4)[fromK k + n]? = some (bitColF s 4 k n) := by
  rcases (by omega : k = 0 ∨ k = 1 ∨ k = 2 ∨ k = 3) with rfl | rfl | rfl | rfl
  · have hn' : n < 4 := hn
    match n, hn' with
    | 0, _ => rfl
    | 1, _ => rfl
    | 2, _ => rfl
    | 3, _ => rfl
  · have hn' : n < 8 := hn
    match n, hn' with
    | 0, _ => rfl
    | 1, _ => rfl
    | 2, _ => rfl
    | 3, _ => rfl
    | 4, _ => rfl
    | 5, _ => rfl
    | 6, _ => rfl
    | 7, _ => rfl
  · have hn' : n < 4 := hn
    match n, hn' with
    | 0, _ => rfl
    | 1, _ => rfl
    | 2, _ => rfl
    | 3, _ => rfl
  · have hn' : n < 8 := hn
    match n, hn' with
    | 0, _ => rfl
    | 1, _ => rfl
    | 2, _ => rfl
    | 3, _ => rfl
    | 4, _ => rfl
    | 5, _ => rfl
    | 6, _ => rfl
    | 7, _ => rfl
theorem cols_idx (s : Str) {k : Nat} (hk : k < 4) : (columnsF s 4)[k]? = some (colF s 4 k) := by
  rcases (by omega : k = 0 ∨ k = 1 ∨ k = 2 ∨ k = 3) with rfl | rfl | rfl | rfl <;> rfl
theorem col_len16 {s : Str} (hl : s.l.length ≤ 16) (k : Nat) : (colF s 4 k).length = 16 := colF_len (log := 4) k (by simpa using hl)
theorem bit_at {s : Str} {k n i : Nat} {x : Int} (hx : (colF s 4 k)[i]? = some x) : (bitColF s 4 k n)[i]? = some (bitF x n) := by
  rw [← colF_bit, List.getElem?_map, hx]; rfl
/-- What the bits below n add up to. -/
theorem low_succ (x : Int) (n : Nat) : x % 2 ^ n + bitF x n * 2 ^ n = x % 2 ^ (n + 1) := by
  unfold bitF
  have h : (2 : Int) ^ (n + 1) = 2 ^ n * 2 := by rw [Int.pow_succ]
  rw [h]
  generalize hm : (2 : Int) ^ n = m
  have hm0 : 0 < m := by rw [← hm]; exact Int.pow_pos (by omega)
  have hr0 := Int.emod_nonneg x (show m ≠ 0 by omega)
  have hr1 := Int.emod_lt_of_pos x hm0
  have hq : x = (x % m + x / m % 2 * m) + (m * 2) * (x / m / 2) := by
    have h1 := Int.emod_add_mul_ediv x m
    have h2 := Int.emod_add_mul_ediv (x / m) 2
    have h3 : m * (x / m) = m * (x / m % 2) + (m * 2) * (x / m / 2) := by
      conv => lhs; rw [← h2, Int.mul_add, ← Int.mul_assoc]
    rw [Int.mul_comm (x / m % 2) m]
    omega
  have hb0 : 0 ≤ x % m + x / m % 2 * m := by
    have := Int.mul_nonneg (show 0 ≤ x / m % 2 by omega) (show 0 ≤ m by omega)
    omega
  have hb1 : x % m + x / m % 2 * m < m * 2 := by
    rcases (by omega : x / m % 2 = 0 ∨ x / m % 2 = 1) with h | h <;> rw [h] <;> omega
  have h5 : x % (m * 2) = (x % m + x / m % 2 * m + (m * 2) * (x / m / 2)) % (m * 2) := congrArg (fun t => t % (m * 2)) hq
  rw [h5, Int.add_mul_emod_self_left, Int.emod_eq_of_lt hb0 hb1]
theorem pow8 {q : Nat} (h : q ≤ 8) : (2 : Int) ^ q ≤ 256 ∧ 0 < (2 : Int) ^ q := by
  have h : ∀ k : Fin 9, (2 : Int) ^ k.1 ≤ 256 ∧ 0 < (2 : Int) ^ k.1 := by decide
  exact h ⟨q, by omega⟩
theorem bit_sum {x : Int} {q : Nat} (hq : q < 8) : IntKind.u64.wrap (x % 2 ^ q + IntKind.u64.wrap (bitF x q * 2 ^ q)) = x % 2 ^ (q + 1) := by
  obtain ⟨h1, h2⟩ := pow8 (q := q) (by omega)
  have hl := low_succ x q
  have hb : bitF x q = 0 ∨ bitF x q = 1 := by unfold bitF; omega
  have hr0 := Int.emod_nonneg x (show (2 : Int) ^ q ≠ 0 by omega)
  have hr1 := Int.emod_lt_of_pos x h2
  generalize (2 : Int) ^ q = m at *
  rcases hb with hb | hb <;> rw [hb] at hl ⊢
  · rw [IntWalk.u64_in (0 * m) (by omega), IntWalk.u64_in _ (by omega)]; exact hl
  · rw [IntWalk.u64_in (1 * m) (by omega), IntWalk.u64_in _ (by omega)]; exact hl
theorem col_at2 {S : Nat → Prop} {w : World} {b o c i : Nat} {l : List (List Int)} {r : List Int} (h : Sl Enc.u64.slice S w (some ⟨b, o, none⟩) c l) (hi : l[i]? = some r) :
    ∃ B d, w.cell? ⟨b, o + i, none⟩ = some (.slice B r.length d) ∧ Sl .u64 S w B d r := by
  obtain ⟨b', o', B, d, e, -, -, hc, hs⟩ := col_at h hi
  injection e with e
  injection e with e1 e2
  subst e1; subst e2
  exact ⟨B, d, hc, hs⟩
set_option maxRecDepth 100000 in
set_option maxHeartbeats 8000000 in
theorem walk_ReadingBitsComposeColumns {l : List ROp} {A : Option Addr} {c : Nat} (w : World) (h : Sl ropE (fun _ => True) w A c l) :
    Calls Try.prog 7 #[.slice A l.length c] w fun e w' => e = .returned (.bool true) ∧ Below w.heap.size w w' := by
  have s0 := Lib.hid h
  clear h
  go_enter Try.func7, Try.ntmps7
  go_wp2_with fail
  refine (sanityR _).mono ?_
  rintro e w1 ⟨rfl, bb⟩
  have b0 := Lib.hid bb
  replace s0 := mvS s0 bb
  clear bb
  go_wp2_with fail
  refine (madeR _ s0.out (by decide)).mono ?_
  obtain ⟨ok, hl⟩ := madeF_ok 16 l
  generalize madeF 16 l = s at *
  rintro e w2 ⟨A2, c2, B2, d2, rfl, hs, hg, bb⟩
  replace b0 := Lib.hid (b0.out.trans (bb.mono b0.out.size))
  have s2 := hs.any
  have k2 := hg.any
  clear bb hs hg s0
  have hlen := Lib.hid hl
  have hck : checkF s.l.length 4 = 0 := by unfold checkF; rw [if_neg (by omega), if_neg (by show ¬ 2 ^ 4 < s.l.length; omega)]
  replace hck := Lib.hid hck
  clear hl
  go_wp2_with fail
  refine (columnsP_eq (s := s) (log := 4) _ hck.out (s2.out.keep ((Agree.refl _ _).alloc _)) (k2.out.keep ((Agree.refl _ _).alloc _)) ok rfl).mono ?_
  rintro e w3 ⟨A3, c3, rfl, hs, hb⟩
  have bb : Below w2.heap.size w2 w3 := ((Below.refl _ _).alloc (Nat.le_refl _) _).trans (hb.mono (by simp))
  replace b0 := Lib.hid (b0.out.trans (bb.mono b0.out.size))
  have gs : Hid (w3.heap[w2.heap.size]? = some (.cells #[.slice A2 s.l.length c2, .slice B2 s.g.length d2] 30 (0, 0))) := Lib.hid ((hb.block _ (by first | omega | (simp <;> omega) | (simp [World.setCell] <;> omega))).trans (heap_alloc_at rfl))
  replace s2 := mvS s2 bb; replace k2 := mvS k2 bb
  have s3 := hs.any
  clear bb hb hs
  obtain ⟨y0, y1, -, -, ls⟩ := two gs
  go_wp2_with fail
  refine (bitsP_eq (s := s) (log := 4) _ hck.out s2.out ok rfl).mono ?_
  rintro e w4 ⟨A4, c4, rfl, hs, bb⟩
  replace b0 := Lib.hid (b0.out.trans (bb.mono b0.out.size))
  replace s3 := mvS s3 bb
  have s4 := hs.any
  clear bb hs y0 y1 ls gs s2 k2 hck
  have hlc : (columnsF s 4).length = 5 := rfl
  have hlb : (bitsF s 4).length = 24 := rfl
  obtain ⟨b3, o3, _, _, rfl, -, l3, -, -⟩ := col_at s3.out (cols_idx s (k := 0) (by omega))
  obtain ⟨b4, o4, _, _, rfl, -, l4, -, -⟩ := col_at s4.out (bits_idx s (k := 0) (n := 0) (by omega) (by decide))
  have hm3 := s3.out.capMax
  have hm4 := s4.out.capMax
  have hle3 := s3.out.le
  have hle4 := s4.out.le
  rw [hlc] at hle3
  rw [hlb] at hle4
  go_wp2_with fail
  have hlc' := Lib.hid hlc
  have hlb' := Lib.hid hlb
  clear hlc hlb
  go_loop [9, 10] (fun f k => ∃ j : Nat, j ≤ 4 ∧ k = .int .i64 j ∧ f = .int .i64 (fromK j : Nat)) (fun _ k => 4 - (intOf k).toNat)
  case atStart => exact ⟨0, by omega, rfl, rfl⟩
  case round =>
    obtain ⟨j, hj, rfl, rfl⟩ := hrel
    have hj0 : (0 : Int) ≤ (j : Int) := by omega
    by_cases hj4 : j < 4
    · have hj5 : (j : Int) < 4 := by omega
      have hcol := Lib.hid (cols_idx s hj4)
      have hcl := Lib.hid (col_len16 hlen.out j)
      have hfw := Lib.hid (fromK_succ hj4)
      have hw8 := width_le j
      go_wp2_with fail
      go_loop [11] (fun i => ∃ m : Nat, m ≤ 16 ∧ i = .int .i64 m) (fun i => 16 - (intOf i).toNat)
      case atStart => exact ⟨0, by omega, rfl⟩
      case round =>
        obtain ⟨m, hm, rfl⟩ := hrel
        have hm0 : (0 : Int) ≤ (m : Int) := by omega
        by_cases hm16 : m < 16
        · have hm17 : (m : Int) < 16 := by omega
          obtain ⟨x, hx⟩ : ∃ x, (colF s 4 j)[m]? = some x := ⟨_, List.getElem?_eq_getElem (by rw [hcl.out]; exact hm16)⟩
          have hxb := col_bound ok hj4 x (List.mem_of_getElem? hx)
          replace hx := Lib.hid hx
          obtain ⟨hx0, hx1⟩ := hxb
          have hx256 : x < 256 := Int.lt_of_lt_of_le hx1 (pow8 hw8).1
          replace hx1 := Lib.hid hx1
          go_wp2_with fail
          go_loop [12, 13] (fun sm n => ∃ q : Nat, q ≤ widthF j ∧ n = .int .i64 q ∧ sm = .int .u64 (x % 2 ^ q)) (fun _ n => widthF j - (intOf n).toNat)
          case atStart => exact ⟨0, by omega, rfl, by simp⟩
          case round =>
            obtain ⟨q, hq, rfl, rfl⟩ := hrel
            have hq0 : (0 : Int) ≤ (q : Int) := by omega
            by_cases hqw : q < widthF j
            · have hqw' : (q : Int) < ((widthF j : Nat) : Int) := by omega
              have hf24 := fromK_lt hj4 hqw
              have hbl : (bitColF s 4 j q).length = 16 := by rw [← colF_bit, List.length_map]; exact hcl.out
              obtain ⟨B5, d5, y5, hs5⟩ := col_at2 s4.out (bits_idx s hj4 hqw)
              rw [hbl] at y5
              obtain ⟨b5, o5, rfl, -, l5, y6⟩ := u64_at hs5 (bit_at hx.out)
              have hb01 : 0 ≤ bitF x q ∧ bitF x q ≤ 1 := by unfold bitF; omega
              obtain ⟨hb0', hb1'⟩ := hb01
              have hbl' := Lib.hid hbl
              clear hbl hs5
              have hbs := Lib.hid (bit_sum (x := x) (q := q) (by omega))
              generalize hbq : bitF x q = bt at *
              have hbq' := Lib.hid hbq
              clear hbq
              go_wp2_with (go_at_call 34; refine (widthRef j _).mono ?_; rintro e w5 ⟨rfl, rfl⟩)
              go_round
              case rel => exact ⟨q + 1, by omega, by go_num, by rw [hbs.out]⟩
              case measure => simp [intOf]; omega
            · have hqe : q = widthF j := by omega
              have hqw' : ¬ (q : Int) < ((widthF j : Nat) : Int) := by omega
              obtain ⟨B5, d5, y5, hs5⟩ := col_at2 s3.out hcol.out
              rw [hcl.out] at y5
              obtain ⟨b5, o5, rfl, -, l5, y6⟩ := u64_at hs5 hx.out
              have hxe : x % 2 ^ q = x := by rw [hqe]; exact Int.emod_eq_of_lt hx0 hx1.out
              rw [hxe]
              have hqe' := Lib.hid hqe
              clear hqe hs5 hxe
              go_wp2_with (go_at_call 34; refine (widthRef j _).mono ?_; rintro e w5 ⟨rfl, rfl⟩)
              go_round
              case rel => exact ⟨m + 1, by omega, by go_num⟩
              case measure => simp [intOf]; omega
        · have hm17 : ¬ (m : Int) < 16 := by omega
          have hf24 : fromK j + widthF j ≤ 24 := by rw [hfw.out]; unfold fromK; (repeat' split) <;> omega
          go_wp2_with (go_at_call 34; refine (widthRef j _).mono ?_; rintro e w5 ⟨rfl, rfl⟩)
          go_round
          case rel => exact ⟨j + 1, by omega, by go_num, by rw [← hfw.out]; go_num⟩
          case measure => simp [intOf]; omega
    · have hj5 : ¬ (j : Int) < 4 := by omega
      go_wp2_with fail
      go_ret
      exact ⟨rfl, b0.out⟩
end Go.Proofs.Ytlolppjnpmdpgaa
