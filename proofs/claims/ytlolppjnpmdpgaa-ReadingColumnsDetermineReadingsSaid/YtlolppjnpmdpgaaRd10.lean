/-
  Contracts of the readings (XRd10): column, for each function that is handed to it.
-/
import Derived.Test.YtlolppjnpmdpgaaRd9
namespace Go.Proofs.Ytlolppjnpmdpgaa
open Go.RowKit

theorem u64_cells {S : Nat → Prop} {w : World} : ∀ {l : List Int} {cs : List Value}, Elems .u64 S w cs l → cs = l.map (Value.int .u64)
  | [], _, h => h
  | b :: l, _, ⟨c, d, e, h1, h2⟩ => by
    have h1' : c = [.int .u64 b] := h1
    rw [e, h1', u64_cells h2]; rfl
theorem u64_elems {S : Nat → Prop} {w : World} : ∀ (l : List Int), Elems .u64 S w (l.map (Value.int .u64)) l
  | [] => rfl
  | _ :: l => ⟨[_], _, rfl, rfl, u64_elems l⟩
theorem u64_store {S : Nat → Prop} {w : World} {base n c g k : Nat} {e : TypeId} {l : List Int} (h : Own .u64 S w base e (.slice (some ⟨g, 0, none⟩) n c) l) (u : Int) :
    Own .u64 S (w.setCell ⟨g, k, none⟩ (.int .u64 u)) base e (.slice (some ⟨g, 0, none⟩) n c) (l.set k u) := by
  refine ((h.flat u64_flat (T := fun _ => False)).stored (ys := l.set k u) (fun h => h) (by simp) (fun cs hel => ?_) rfl).flat u64_flat
  rw [u64_cells hel, ← List.map_set]
  exact u64_elems _
theorem u64_cell {S : Nat → Prop} {w : World} {base n c g k : Nat} {e : TypeId} {l : List Int} (h : Own .u64 S w base e (.slice (some ⟨g, 0, none⟩) n c) l) (hk : k < l.length) :
    w.cell? ⟨g, k, none⟩ = some (.int .u64 (l.getD k 0)) := by
  obtain ⟨cs, hr, hc⟩ := h.at_ (k := k) (List.getElem?_eq_getElem hk)
  cases hr
  have h1 := hc 0 _ rfl
  simp only [List.getD_eq_getElem?_getD, List.getElem?_eq_getElem hk, Option.getD_some]
  simpa [Enc.u64] using h1

theorem u64_info : (Try.prog.info? 50).map (fun i => (i.zero, i.size, i.bytes)) = some (some (.int .u64 0), 1, 8) := by kernel_rfl
theorem wpList_make_u64 (w : World) {ops : Array Oper} {rest : List Oper} {o : Oper} {a : Act} {Q : Exit → Act → World → Prop} (hg : o.guard = none) (l c : Operand) (hop : o.op = Op.makeSlice 48 l c)
    {kl kc : IntKind} {n : Nat} (hl : a.eval l = .int kl n) (hc : a.eval c = .int kc n) (hn : n ≤ 1099511627776)
    (H : ∀ w', Own .u64 (fun _ => False) w' w.heap.size 50 (.slice (some ⟨w.heap.size, 0, none⟩) n n) (List.replicate n 0) → w.grownBy w' none → wpList Try.prog ops Q rest (a.put o.dst (.slice (some ⟨w.heap.size, 0, none⟩) n n)) w') :
    wpList Try.prog ops Q (o :: rest) a w := by
  obtain ⟨i, hi, hz, hs, hb⟩ := info_parts u64_info
  have e : (madeCells (Value.int IntKind.u64 0).cells (n * 1)).toList = (List.replicate n (0 : Int)).map (Value.int .u64) := by
    rw [Nat.mul_one, show (Value.int IntKind.u64 0).cells = #[Value.int IntKind.u64 0] from rfl, toList_madeCells_one, List.map_replicate]
  refine wpList_make_full w hg l c _ hop w.heap.size 50 i (.int .u64 0) 1 Try.underlying48 hi hz hs kl kc n n n hl hc rfl rfl (by rw [hb]; omega) (by unfold maxLen; omega) (Nat.le_refl _) ?_
  intro w' h1 h2
  rw [e] at h1
  refine H w' ⟨(List.replicate n (0 : Int)).map (Value.int .u64), ?_, u64_elems _⟩ h2
  rw [List.length_replicate]
  exact h1

/-- The first j places are filled. -/
def fillF (N : Nat) (f : Nat → Int) (j : Nat) : List Int := (List.range j).map f ++ List.replicate (N - j) 0
theorem fillF_len {N : Nat} {f : Nat → Int} {j : Nat} (h : j ≤ N) : (fillF N f j).length = N := by simp [fillF]; omega
theorem fillF_set {N : Nat} {f : Nat → Int} {j : Nat} (h : j < N) : (fillF N f j).set j (f j) = fillF N f (j + 1) := by
  unfold fillF
  rw [List.set_append_right _ _ (by simp), List.range_succ, List.map_append, List.append_assoc]
  congr 1
  simp only [List.length_map, List.length_range, Nat.sub_self, List.map_cons, List.map_nil, List.singleton_append]
  obtain ⟨m, hm⟩ : ∃ m, N - j = m + 1 := ⟨N - j - 1, by omega⟩
  rw [hm, List.replicate_succ, List.set_cons_zero, show N - (j + 1) = m from by omega]

/-- A slice of numbers that the call made. -/
def U64Own (w : World) (l : List Int) (e : Ending) (w' : World) : Prop :=
  ∃ A c, e = .returned (.slice A l.length c) ∧ Own .u64 (fun _ => False) w' w.heap.size 50 (.slice A l.length c) l ∧ Below w.heap.size w w'

set_option maxHeartbeats 1000000 in
theorem column_1 {n N : Nat} {A B : Option Addr} {c m d : Nat} {log : Int} {p0 p1 p2 : Option Addr} {f : Nat → Int} (w : World) (hw : wrap64 (2 ^ log.toNat) = (N : Int)) (h0 : 0 ≤ log) (h1 : log ≤ 16) (hN : N ≤ 65536) (hn : n ≤ N)
    (hf : ∀ (j : Nat) (W : World), j < n → Below w.heap.size w W → Calls Try.prog 48 #[.int .i64 j, .pointer p0, .pointer p1] W fun e W' => e = .returned (.int .u64 (f j)) ∧ Below W.heap.size W W') :
    Calls Try.prog 47 #[.agg #[.slice A n c, .slice B m d], .int .i64 log, .func (.func 48) #[] #[.pointer p0, .pointer p1]] w (U64Own w (fillF N f n)) := by
  have Hf := Lib.hid hf
  clear hf
  go_enter Try.func47, Try.ntmps47
  go_wp2_with (at_make; go_must ((refine wpList_make_u64 _ rfl (.tmp 10) (.tmp 10) rfl (n := N) (by show Value.int IntKind.i64 (wrap64 (2 ^ log.toNat)) = _; rw [hw]) (by show Value.int IntKind.i64 (wrap64 (2 ^ log.toNat)) = _; rw [hw]) (by omega) ?_; intro w1 hown1 hg1; have hb1 : Below w.heap.size (w.alloc (.cells #[.slice A n c, .slice B m d] 30)) w1 := Below.grown (Below.refl _ _) hg1 (by simp) (by rintro k ⟨⟩); have bz1 := hg1.size; simp at bz1; have hc1 := fun o => World.cell?_of_block (a := ⟨w.heap.size, o, none⟩) (hg1.block w.heap.size (by simp) (by rintro ⟨⟩)))))
  go_loopw [15] (fun i wr => ∃ j : Nat, j ≤ n ∧ i = .int .i64 j ∧ Own .u64 (fun _ => False) wr (w.heap.size + 1) 50 (.slice (some ⟨w.heap.size + 1, 0, none⟩) N N) (fillF N f j) ∧ Below w.heap.size w wr ∧ w.heap.size + 1 < wr.heap.size) (fun i _ => n - (intOf i).toNat)
  case atStart =>
    have h : Own .u64 (fun _ => False) w1 (w.alloc (.cells #[.slice A n c, .slice B m d] 30)).heap.size 50 (.slice (some ⟨(w.alloc (.cells #[.slice A n c, .slice B m d] 30)).heap.size, 0, none⟩) N N) (fillF N f 0) := hown1
    have h2 : Own .u64 (fun _ => False) w1 (w.heap.size + 1) 50 (.slice (some ⟨w.heap.size + 1, 0, none⟩) N N) (fillF N f 0) := by simpa using h
    exact ⟨0, Nat.zero_le _, rfl, h2, (((Below.refl _ _).alloc (Nat.le_refl _) _).trans (hb1.mono (by simp))), (h2.lt _ rfl).2⟩
  case round =>
    obtain ⟨j, hj, rfl, ho, hb, hz⟩ := hrel
    have Hb := Lib.hid hb
    have Ho := Lib.hid ho
    clear hb ho
    by_cases hlt : j < n
    · have hj0 : (0 : Int) ≤ (j : Int) := by omega
      have hj1 : (j : Int) < (n : Int) := by omega
      have hj2 : (j : Int) < (N : Int) := by omega
      go_wp2_with (go_at_call 48; refine (Hf.out j _ hlt Hb.out).mono ?_; rintro e w2 ⟨rfl, hb2⟩; have ho2 := Own.call Ho.out hb2; have hx2 := u64_cell ho2 (k := j) (by rw [fillF_len (by omega)]; omega); have hf2 := ho2.frozen j; have Ho2 := Lib.hid ho2; clear ho2)
      go_roundw
      case rel =>
        have hb := Hb.out
        exact ⟨j + 1, by omega, by go_num, by rw [← fillF_set (by omega)]; exact u64_store Ho2.out (f j), (hb.trans (hb2.mono hb.size)).setCell (by simp) _, by have := hb2.size; simp [World.setCell]; omega⟩
      case measure => simp [intOf]; omega
    · have hj1 : ¬ (j : Int) < (n : Int) := by omega
      go_wp2_with fail
      go_ret
      have hjn : j = n := by omega
      subst hjn
      have hl : (fillF N f j).length = N := fillF_len hn
      refine ⟨some ⟨w.heap.size + 1, 0, none⟩, N, (show Ending.returned (.slice (some ⟨w.heap.size + 1, 0, none⟩) N N) = _ by rw [hl]), ?_, Hb.out⟩
      rw [hl]
      exact Ho.out.lower (by omega)
set_option maxHeartbeats 1000000 in
theorem column_2 {n N : Nat} {A B : Option Addr} {c m d : Nat} {log : Int} {p0 p1 p2 : Option Addr} {f : Nat → Int} (w : World) (hw : wrap64 (2 ^ log.toNat) = (N : Int)) (h0 : 0 ≤ log) (h1 : log ≤ 16) (hN : N ≤ 65536) (hn : n ≤ N)
    (hf : ∀ (j : Nat) (W : World), j < n → Below w.heap.size w W → Calls Try.prog 49 #[.int .i64 j, .pointer p0] W fun e W' => e = .returned (.int .u64 (f j)) ∧ Below W.heap.size W W') :
    Calls Try.prog 47 #[.agg #[.slice A n c, .slice B m d], .int .i64 log, .func (.func 49) #[] #[.pointer p0]] w (U64Own w (fillF N f n)) := by
  have Hf := Lib.hid hf
  clear hf
  go_enter Try.func47, Try.ntmps47
  go_wp2_with (at_make; go_must ((refine wpList_make_u64 _ rfl (.tmp 10) (.tmp 10) rfl (n := N) (by show Value.int IntKind.i64 (wrap64 (2 ^ log.toNat)) = _; rw [hw]) (by show Value.int IntKind.i64 (wrap64 (2 ^ log.toNat)) = _; rw [hw]) (by omega) ?_; intro w1 hown1 hg1; have hb1 : Below w.heap.size (w.alloc (.cells #[.slice A n c, .slice B m d] 30)) w1 := Below.grown (Below.refl _ _) hg1 (by simp) (by rintro k ⟨⟩); have bz1 := hg1.size; simp at bz1; have hc1 := fun o => World.cell?_of_block (a := ⟨w.heap.size, o, none⟩) (hg1.block w.heap.size (by simp) (by rintro ⟨⟩)))))
  go_loopw [15] (fun i wr => ∃ j : Nat, j ≤ n ∧ i = .int .i64 j ∧ Own .u64 (fun _ => False) wr (w.heap.size + 1) 50 (.slice (some ⟨w.heap.size + 1, 0, none⟩) N N) (fillF N f j) ∧ Below w.heap.size w wr ∧ w.heap.size + 1 < wr.heap.size) (fun i _ => n - (intOf i).toNat)
  case atStart =>
    have h : Own .u64 (fun _ => False) w1 (w.alloc (.cells #[.slice A n c, .slice B m d] 30)).heap.size 50 (.slice (some ⟨(w.alloc (.cells #[.slice A n c, .slice B m d] 30)).heap.size, 0, none⟩) N N) (fillF N f 0) := hown1
    have h2 : Own .u64 (fun _ => False) w1 (w.heap.size + 1) 50 (.slice (some ⟨w.heap.size + 1, 0, none⟩) N N) (fillF N f 0) := by simpa using h
    exact ⟨0, Nat.zero_le _, rfl, h2, (((Below.refl _ _).alloc (Nat.le_refl _) _).trans (hb1.mono (by simp))), (h2.lt _ rfl).2⟩
  case round =>
    obtain ⟨j, hj, rfl, ho, hb, hz⟩ := hrel
    have Hb := Lib.hid hb
    have Ho := Lib.hid ho
    clear hb ho
    by_cases hlt : j < n
    · have hj0 : (0 : Int) ≤ (j : Int) := by omega
      have hj1 : (j : Int) < (n : Int) := by omega
      have hj2 : (j : Int) < (N : Int) := by omega
      go_wp2_with (go_at_call 49; refine (Hf.out j _ hlt Hb.out).mono ?_; rintro e w2 ⟨rfl, hb2⟩; have ho2 := Own.call Ho.out hb2; have hx2 := u64_cell ho2 (k := j) (by rw [fillF_len (by omega)]; omega); have hf2 := ho2.frozen j; have Ho2 := Lib.hid ho2; clear ho2)
      go_roundw
      case rel =>
        have hb := Hb.out
        exact ⟨j + 1, by omega, by go_num, by rw [← fillF_set (by omega)]; exact u64_store Ho2.out (f j), (hb.trans (hb2.mono hb.size)).setCell (by simp) _, by have := hb2.size; simp [World.setCell]; omega⟩
      case measure => simp [intOf]; omega
    · have hj1 : ¬ (j : Int) < (n : Int) := by omega
      go_wp2_with fail
      go_ret
      have hjn : j = n := by omega
      subst hjn
      have hl : (fillF N f j).length = N := fillF_len hn
      refine ⟨some ⟨w.heap.size + 1, 0, none⟩, N, (show Ending.returned (.slice (some ⟨w.heap.size + 1, 0, none⟩) N N) = _ by rw [hl]), ?_, Hb.out⟩
      rw [hl]
      exact Ho.out.lower (by omega)
set_option maxHeartbeats 1000000 in
theorem column_3 {n N : Nat} {A B : Option Addr} {c m d : Nat} {log : Int} {p0 p1 p2 : Option Addr} {f : Nat → Int} (w : World) (hw : wrap64 (2 ^ log.toNat) = (N : Int)) (h0 : 0 ≤ log) (h1 : log ≤ 16) (hN : N ≤ 65536) (hn : n ≤ N)
    (hf : ∀ (j : Nat) (W : World), j < n → Below w.heap.size w W → Calls Try.prog 51 #[.int .i64 j, .pointer p0, .pointer p1, .pointer p2] W fun e W' => e = .returned (.int .u64 (f j)) ∧ Below W.heap.size W W') :
    Calls Try.prog 47 #[.agg #[.slice A n c, .slice B m d], .int .i64 log, .func (.func 51) #[] #[.pointer p0, .pointer p1, .pointer p2]] w (U64Own w (fillF N f n)) := by
  have Hf := Lib.hid hf
  clear hf
  go_enter Try.func47, Try.ntmps47
  go_wp2_with (at_make; go_must ((refine wpList_make_u64 _ rfl (.tmp 10) (.tmp 10) rfl (n := N) (by show Value.int IntKind.i64 (wrap64 (2 ^ log.toNat)) = _; rw [hw]) (by show Value.int IntKind.i64 (wrap64 (2 ^ log.toNat)) = _; rw [hw]) (by omega) ?_; intro w1 hown1 hg1; have hb1 : Below w.heap.size (w.alloc (.cells #[.slice A n c, .slice B m d] 30)) w1 := Below.grown (Below.refl _ _) hg1 (by simp) (by rintro k ⟨⟩); have bz1 := hg1.size; simp at bz1; have hc1 := fun o => World.cell?_of_block (a := ⟨w.heap.size, o, none⟩) (hg1.block w.heap.size (by simp) (by rintro ⟨⟩)))))
  go_loopw [15] (fun i wr => ∃ j : Nat, j ≤ n ∧ i = .int .i64 j ∧ Own .u64 (fun _ => False) wr (w.heap.size + 1) 50 (.slice (some ⟨w.heap.size + 1, 0, none⟩) N N) (fillF N f j) ∧ Below w.heap.size w wr ∧ w.heap.size + 1 < wr.heap.size) (fun i _ => n - (intOf i).toNat)
  case atStart =>
    have h : Own .u64 (fun _ => False) w1 (w.alloc (.cells #[.slice A n c, .slice B m d] 30)).heap.size 50 (.slice (some ⟨(w.alloc (.cells #[.slice A n c, .slice B m d] 30)).heap.size, 0, none⟩) N N) (fillF N f 0) := hown1
    have h2 : Own .u64 (fun _ => False) w1 (w.heap.size + 1) 50 (.slice (some ⟨w.heap.size + 1, 0, none⟩) N N) (fillF N f 0) := by simpa using h
    exact ⟨0, Nat.zero_le _, rfl, h2, (((Below.refl _ _).alloc (Nat.le_refl _) _).trans (hb1.mono (by simp))), (h2.lt _ rfl).2⟩
  case round =>
    obtain ⟨j, hj, rfl, ho, hb, hz⟩ := hrel
    have Hb := Lib.hid hb
    have Ho := Lib.hid ho
    clear hb ho
    by_cases hlt : j < n
    · have hj0 : (0 : Int) ≤ (j : Int) := by omega
      have hj1 : (j : Int) < (n : Int) := by omega
      have hj2 : (j : Int) < (N : Int) := by omega
      go_wp2_with (go_at_call 51; refine (Hf.out j _ hlt Hb.out).mono ?_; rintro e w2 ⟨rfl, hb2⟩; have ho2 := Own.call Ho.out hb2; have hx2 := u64_cell ho2 (k := j) (by rw [fillF_len (by omega)]; omega); have hf2 := ho2.frozen j; have Ho2 := Lib.hid ho2; clear ho2)
      go_roundw
      case rel =>
        have hb := Hb.out
        exact ⟨j + 1, by omega, by go_num, by rw [← fillF_set (by omega)]; exact u64_store Ho2.out (f j), (hb.trans (hb2.mono hb.size)).setCell (by simp) _, by have := hb2.size; simp [World.setCell]; omega⟩
      case measure => simp [intOf]; omega
    · have hj1 : ¬ (j : Int) < (n : Int) := by omega
      go_wp2_with fail
      go_ret
      have hjn : j = n := by omega
      subst hjn
      have hl : (fillF N f j).length = N := fillF_len hn
      refine ⟨some ⟨w.heap.size + 1, 0, none⟩, N, (show Ending.returned (.slice (some ⟨w.heap.size + 1, 0, none⟩) N N) = _ by rw [hl]), ?_, Hb.out⟩
      rw [hl]
      exact Ho.out.lower (by omega)
end Go.Proofs.Ytlolppjnpmdpgaa
