/-
  Texts of this claim, merged: Ez. Conditions: as each theorem says.
-/
import Derived.Deep.Upon
import Derived.Test.YtpdblgchfkcgpaaV1
import Derived.Test.YtpdblgchfkcgpaaV2
import Derived.Test.YtpdblgchfkcgpaaV7
import Derived.Test.YtpdblgchfkcgpaaV10
import Derived.Test.YtpdblgchfkcgpaaV11
import Derived.Test.YtpdblgchfkcgpaaV12
set_option linter.unusedSimpArgs false
set_option linter.unusedVariables false
namespace Go.Proofs.Ytpdblgchfkcgpaa
open Go.RowKit

theorem ext_shut {S : Nat → Prop} {w : World} {x : ZQ} {a b : Int} (ha : x.u % pF = a) (hb : x.v % pF = b) : extE.rep S w [.int .u64 a, .int .u64 b] x := by subst ha; subst hb; rfl
theorem and1X {m : Nat} (hm : m < 9223372036854775808) : bits BinOp.and IntKind.i64 (m : Int) 1 = ((m % 2 : Nat) : Int) := by
  have h2 : (BitVec.ofInt 64 (m : Int)).toNat = m := by
    rw [BitVec.ofInt_natCast, BitVec.toNat_ofNat]; exact Nat.mod_eq_of_lt (by omega)
  show IntKind.i64.wrap ((BitVec.ofInt 64 (m : Int) &&& BitVec.ofInt 64 1).toNat : Int) = _
  rw [BitVec.toNat_and, h2, show (BitVec.ofInt 64 1).toNat = 1 from rfl, Nat.and_one_is_mod]
  exact IntWalk.i64_in _ (by omega)
theorem bit_at {i j : Nat} (hi : i < 1048576) : bits BinOp.and IntKind.i64 ((i : Int) / 2 ^ j) 1 = ((i / 2 ^ j % 2 : Nat) : Int) := by
  have e : ((i : Int) / 2 ^ j) = ((i / 2 ^ j : Nat) : Int) := by simp
  rw [e]
  exact and1X (Nat.lt_of_le_of_lt (Nat.div_le_self _ _) (by omega))
theorem bit_mod (m : Nat) : ((m % 2 : Nat) : Int) % pF = ((m % 2 : Nat) : Int) := by
  have := Nat.mod_lt m (show 0 < 2 by omega)
  unfold pF; omega
def vertF (i n : Nat) : List ZQ := (List.range n).map fun k => ⟨((i / 2 ^ k % 2 : Nat) : Int), 0⟩
theorem vertF_len (i n : Nat) : (vertF i n).length = n := by simp [vertF]
theorem vertF_snoc (i n : Nat) : vertF i (n + 1) = vertF i n ++ [⟨((i / 2 ^ n % 2 : Nat) : Int), 0⟩] := by simp [vertF, List.range_succ]
set_option maxRecDepth 100000 in
set_option maxHeartbeats 4000000 in
theorem vertP {i n : Nat} (w : World) (hi : i < 1048576) (hn : n ≤ 20) :
    Calls Try.prog 39 #[.int .i64 (i : Int), .int .i64 (n : Int)] w fun e w' => ∃ A c, e = .returned (.slice A n c) ∧ Sl extE (fun b => w.heap.size ≤ b) w' A c (vertF i n) ∧ Below w.heap.size w w' := by
  go_enter Try.func39, Try.ntmps39
  go_wp2_with fail
  go_loopw [5, 6] (fun v m wr => ∃ (j : Nat) (A : Option Addr) (c : Nat), j ≤ n ∧ m = .int .i64 j ∧ v = .slice A j c ∧ Hid (Own extE (fun _ => False) wr w.heap.size 40 (.slice A j c) (vertF i j)) ∧ Hid (Below w.heap.size w wr)) (fun _ m _ => n - (intOf m).toNat)
  case atStart => exact ⟨0, _, 0, Nat.zero_le _, rfl, rfl, Lib.hid (Own.lit0 _ _ _ _ (Nat.le_refl _)), Lib.hid (by repeat' (first | with_reducible exact Below.refl _ _ | with_reducible assumption | with_reducible refine Below.setCell ?_ ?_ _ | with_reducible refine Below.drew ?_ | with_reducible refine below_drewN ?_ _ | with_reducible refine Below.alloc ?_ ?_ _ | (rintro _ ⟨⟩; simp <;> omega) | omega | (simp <;> omega)))⟩
  case round =>
    obtain ⟨j, A, c, hj, rfl, rfl, HO, HB⟩ := hrel
    have hj0 : (0 : Int) ≤ (j : Int) := by omega
    by_cases hlt : j < n
    · have hj1 : (j : Int) < (n : Int) := by omega
      have hbit := bit_at (j := j) hi
      have hm := bit_mod (i / 2 ^ j)
      obtain ⟨b, hb⟩ : ∃ b : Nat, i / 2 ^ j % 2 = b := ⟨_, rfl⟩
      have hb2 : b < 2 := by rw [← hb]; exact Nat.mod_lt _ (by omega)
      have hsn := vertF_snoc i j
      rw [hb] at hbit hm hsn
      have HM := Lib.hid hm
      have HSN := Lib.hid hsn
      have hbi : (0 : Int) ≤ (b : Int) := by omega
      have lo := HO.out.lt
      have hz := HB.out.size
      clear hb hm hsn
      go_wp2_with (first
        | (go_at_call 59; refine (fromIntX (n := (b : Int)) hbi (by omega) _).mono ?_; rintro e wA ⟨rfl, hbA⟩; have hA := Lib.hid hbA; have hzA := hbA.size; clear hbA)
        | (at_builtin; go_must ((refine wpList_append_E (E := extE) (S := fun b => b = wA.heap.size) rfl (.tmp 13) (.tmp 19) rfl extT (base := w.heap.size) (v := .slice A j c) (xs := vertF i j) (ys := [⟨(b : Int), 0⟩]) (by rfl) (by rfl) rfl (nz := j + 1) (by rw [List.length_append, vertF_len]; rfl) (((HO.out.call hA.out).flat extE_flat).alloc _) (Sl.litAt (S := fun b => b = wA.heap.size) rfl (.single (ext_shut HM.out rfl)) (by unfold maxLen; simp) (fun _ h _ => h) rfl) (by unfold maxLen; rw [vertF_len]; simp; omega) (by rw [vertF_len]; simp; omega) (by simp; omega) (fun g' hg' (hs : g' = wA.heap.size) => by have := (lo g' hg').2; omega) ?_; intro A6 c6 w6 hown6 hg6 hor6))))
      go_roundw
      case rel => exact ⟨j + 1, A6, c6, by omega, by go_num, rfl, Lib.hid (by rw [HSN.out]; exact hown6.flat extE_flat), Lib.hid (((HB.out.trans (hA.out.mono HB.out.size)).alloc (by omega) _).grown hg6 (by simp; omega) (fun k hk => (lo k hk).1))⟩
      case measure => simp [intOf]; omega
    · have hj1 : ¬ (j : Int) < (n : Int) := by omega
      obtain rfl : j = n := by omega
      go_wp2_with fail
      go_ret
      exact ⟨A, c, rfl, HO.out.flatSl extE_flat (fun _ h => h), HB.out⟩
def eqI (i : Nat) (ps : List ZQ) : ZQ := eqTo (vertF i ps.length) ps ps.length
theorem eqIP {i : Nat} {ps : List ZQ} {B : Option Addr} {d n : Nat} {U : Nat → Prop} (w : World) (hi : i < 1048576) (hn : ps.length = n) (h20 : n ≤ 20) (k : Sl extE U w B d ps) {r s : Int} (hr : (eqI i ps).u % pF = r) (hs : (eqI i ps).v % pF = s) :
    Calls Try.prog 11 #[.int .i64 (i : Int), .slice B n d] w fun e w' => e = .returned (.agg #[.int .u64 r, .int .u64 s]) ∧ Below w.heap.size w w' := by
  have K := Lib.hid k
  have HR := Lib.hid hr
  have HS := Lib.hid hs
  have HN := Lib.hid hn
  clear k hr hs hn
  go_enter Try.func11, Try.ntmps11
  go_upto_region 1 with fail
  refine wp_world (F := fun wx => Hid (Below w.heap.size w wx) ∧ Hid (wx.heap[w.heap.size]? = some (.cells #[.int .u64 0, .int .u64 0] 40 (0, 0)))) ⟨Lib.hid (by repeat' (first | with_reducible exact Below.refl _ _ | with_reducible assumption | with_reducible refine Below.setCell ?_ ?_ _ | with_reducible refine Below.drew ?_ | with_reducible refine below_drewN ?_ _ | with_reducible refine Below.alloc ?_ ?_ _ | (rintro _ ⟨⟩; simp <;> omega) | omega | (simp <;> omega))), Lib.hid (heap_alloc_at rfl)⟩ ?_
  rintro w1 ⟨B1, R1⟩
  have eqP' : ∀ {A : Option Addr} {c : Nat} (wa : World), Sl extE (fun _ => True) wa A c (vertF i n) → Sl extE U wa B d ps → Calls Try.prog 38 #[.slice A n c, .slice B n d] wa fun e w' => e = .returned (.agg #[.int .u64 r, .int .u64 s]) ∧ Below wa.heap.size wa w' := fun {A c} wa h1 h2 => by
    have h := eqP (vs := vertF i n) (ps := ps) wa (by rw [vertF_len]; exact HN.out) h1 h2
    rw [vertF_len, HN.out] at h
    have hr := HR.out
    have hs := HS.out
    unfold eqI at hr hs
    rw [HN.out] at hr hs
    rw [hr, hs] at h
    exact h
  go_wp2_with (first
    | (go_at_call 39; refine (vertP _ hi h20).mono ?_; rintro e wA ⟨A, c, rfl, hsA, hbA⟩; have HSA := Lib.hid (hsA.sub (T := fun _ => True) (fun _ _ _ => trivial)); have hA := Lib.hid (B1.out.trans (hbA.mono B1.out.size)); have RA := mvQ R1 hbA; clear hsA hbA)
    | (go_at_call 38; refine (eqP' _ HSA.out (K.out.keep (Below.agree hA.out))).mono ?_; rintro e wB ⟨rfl, hbB⟩; have hB := Lib.hid (hA.out.trans (hbB.mono hA.out.size)); have RB := mvQ RA hbB; obtain ⟨b0, b1, lb⟩ := pair2 RB; have fb := frzX RB; clear hbB))
  obtain ⟨t0, t1, -⟩ := pair2 (Lib.hid (setpair (u := .int .u64 r) (v := .int .u64 s) RB.out))
  have hb := hB.out
  exact bodyPost_ret (v := .agg #[.int .u64 r, .int .u64 s]) (by simp [results, Try.results11, go_sem, *]) rfl ⟨rfl, (by repeat' (first | with_reducible exact Below.refl _ _ | with_reducible assumption | with_reducible refine Below.setCell ?_ ?_ _ | with_reducible refine Below.drew ?_ | with_reducible refine below_drewN ?_ _ | with_reducible refine Below.alloc ?_ ?_ _ | (rintro _ ⟨⟩; simp <;> omega) | omega | (simp <;> omega)))⟩
def liftF (l : List Int) : List ZQ := l.map fun a => ⟨a, 0⟩
theorem liftF_len (l : List Int) : (liftF l).length = l.length := by simp [liftF]
set_option maxRecDepth 100000 in
set_option maxHeartbeats 4000000 in
theorem liftP {l : List Int} {A : Option Addr} {c n : Nat} {S : Nat → Prop} (w : World) (hn : l.length = n) (hn1 : n ≤ 1000) (h : Sl Enc.u64 S w A c l) (hv : ∀ a ∈ l, 0 ≤ a ∧ a < pF) :
    Calls Try.prog 13 #[.slice A n c] w fun e w' => ∃ A c, e = .returned (.slice A n c) ∧ Sl extE (fun b => w.heap.size ≤ b) w' A c (liftF l) ∧ Below w.heap.size w w' := by
  have H := Lib.hid h.old
  have HV := Lib.hid hv
  have HN := Lib.hid hn
  clear h hv hn
  go_enter Try.func13, Try.ntmps13
  go_wp2_with fail
  go_loopw [3, 4] (fun v m wr => ∃ (j : Nat) (A : Option Addr) (c : Nat), j ≤ n ∧ m = .int .i64 j ∧ v = .slice A j c ∧ Hid (Own extE (fun _ => False) wr w.heap.size 40 (.slice A j c) (liftF (l.take j))) ∧ Hid (Below w.heap.size w wr)) (fun _ m _ => n - (intOf m).toNat)
  case atStart => exact ⟨0, _, 0, Nat.zero_le _, rfl, rfl, Lib.hid (Own.lit0 _ _ _ _ (Nat.le_refl _)), Lib.hid (by repeat' (first | with_reducible exact Below.refl _ _ | with_reducible assumption | with_reducible refine Below.setCell ?_ ?_ _ | with_reducible refine Below.drew ?_ | with_reducible refine below_drewN ?_ _ | with_reducible refine Below.alloc ?_ ?_ _ | (rintro _ ⟨⟩; simp <;> omega) | omega | (simp <;> omega)))⟩
  case round =>
    obtain ⟨j, A1, c1, hj, rfl, rfl, HO, HB⟩ := hrel
    have hj0 : (0 : Int) ≤ (j : Int) := by omega
    by_cases hlt : j < n
    · have hj1 : (j : Int) < (n : Int) := by omega
      obtain ⟨x, hx⟩ : ∃ x, l[j]? = some x := ⟨_, List.getElem?_eq_getElem (by rw [HN.out]; exact hlt)⟩
      have hxv := HV.out x (List.mem_of_getElem? hx)
      have HM := Lib.hid (show (⟨x, 0⟩ : ZQ).u % pF = x from Int.emod_eq_of_lt hxv.1 hxv.2)
      have HSN := Lib.hid (show liftF (l.take (j + 1)) = liftF (l.take j) ++ [⟨x, 0⟩] by unfold liftF; rw [take_snocR hx, List.map_append]; rfl)
      obtain ⟨b1, o1, rfl, -, l1, y0⟩ := u64_at (H.out.keep (Below.agree HB.out)) hx
      have lo := HO.out.lt
      have hz := HB.out.size
      have hjl : (liftF (l.take j)).length = j := by rw [liftF_len, List.length_take, HN.out]; omega
      clear hx hxv
      go_wp2_with (first
        | (go_at_call 40; refine (fromBaseX x _).mono ?_; rintro e wA ⟨rfl, hbA⟩; have hA := Lib.hid hbA; have hzA := hbA.size; clear hbA)
        | (at_builtin; go_must ((refine wpList_append_E (E := extE) (S := fun b => b = wA.heap.size) rfl (.tmp 12) (.tmp 18) rfl extT (base := w.heap.size) (v := .slice A1 j c1) (xs := liftF (l.take j)) (ys := [⟨x, 0⟩]) (by rfl) (by rfl) rfl (nz := j + 1) (by rw [List.length_append, hjl]; rfl) (((HO.out.call hA.out).flat extE_flat).alloc _) (Sl.litAt (S := fun b => b = wA.heap.size) rfl (.single (ext_shut HM.out rfl)) (by unfold maxLen; simp) (fun _ h _ => h) rfl) (by unfold maxLen; rw [hjl]; simp; omega) (by rw [hjl]; simp; omega) (by simp; omega) (fun g' hg' (hs : g' = wA.heap.size) => by have := (lo g' hg').2; omega) ?_; intro A6 c6 w6 hown6 hg6 hor6))))
      go_roundw
      case rel => exact ⟨j + 1, A6, c6, by omega, by go_num, rfl, Lib.hid (by rw [HSN.out]; exact hown6.flat extE_flat), Lib.hid (((HB.out.trans (hA.out.mono HB.out.size)).alloc (by omega) _).grown hg6 (by simp; omega) (fun k hk => (lo k hk).1))⟩
      case measure => simp [intOf]; omega
    · have hj1 : ¬ (j : Int) < (n : Int) := by omega
      obtain rfl : j = n := by omega
      have htk : l.take j = l := by rw [← HN.out]; exact List.take_length
      rw [htk] at HO
      clear htk
      go_wp2_with fail
      go_ret
      exact ⟨A1, c1, rfl, HO.out.flatSl extE_flat (fun _ h => h), HB.out⟩
end Go.Proofs.Ytpdblgchfkcgpaa
