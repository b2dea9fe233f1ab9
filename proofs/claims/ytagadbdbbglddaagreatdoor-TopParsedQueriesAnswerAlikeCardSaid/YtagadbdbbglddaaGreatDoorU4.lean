/-
  Texts of this claim, merged: PaF, Gk, CopA, Pa1, Q15, Q7, Q2, Q8. Conditions: as each theorem says.
-/
import Derived.Deep.Upon
import Derived.Lib.Mul64
import Derived.Laws.Bits64b
import Derived.Shelf.Bits.Mul64
import Derived.Test.YtagadbdbbglddaaGreatDoorU1
import Derived.Test.YtagadbdbbglddaaGreatDoorU2
import Derived.Test.YtagadbdbbglddaaGreatDoorU3
set_option linter.unusedSimpArgs false
set_option linter.unusedVariables false
namespace Go.Proofs.YtagadbdbbglddaaGreatDoor
open Go.RowKit

def isWs (c : UInt8) : Bool := c == 32 || c == 9 || c == 13 || c == 10
def inR (lo hi c : UInt8) : Bool := decide (lo ≤ c) && decide (c ≤ hi)
def skipW (l : List UInt8) : List UInt8 := l.dropWhile isWs
def spanF (lo hi : UInt8) (l : List UInt8) : List UInt8 := l.takeWhile (inR lo hi)
/-- The token at the head: its kind and its text. -/
def tokF (l : List UInt8) : Int × List UInt8 :=
  match l with
  | [] => (0, [])
  | c :: t => if inR 97 122 c then (1, spanF 97 122 (c :: t)) else if inR 48 57 c then (2, spanF 48 57 (c :: t)) else if c = 61 then (3, [61]) else if [46, 46].isPrefixOf (c :: t) then (3, [46, 46]) else (4, [])
theorem drop_cons {bs : List UInt8} {j : Nat} {c : UInt8} (h : bs[j]? = some c) : bs.drop j = c :: bs.drop (j + 1) := by
  obtain ⟨h1, h2⟩ := List.getElem?_eq_some_iff.1 h
  rw [List.drop_eq_getElem_cons h1, h2]
theorem span_yes {lo hi c : UInt8} {l : List UInt8} (h : inR lo hi c = true) : spanF lo hi (c :: l) = c :: spanF lo hi l := by unfold spanF; rw [List.takeWhile_cons_of_pos h]
theorem span_no {lo hi c : UInt8} {l : List UInt8} (h : inR lo hi c = false) : spanF lo hi (c :: l) = [] := by unfold spanF; rw [List.takeWhile_cons_of_neg (by rw [h]; simp)]
theorem span_le (lo hi : UInt8) (l : List UInt8) : (spanF lo hi l).length ≤ l.length := by
  unfold spanF
  exact (List.takeWhile_sublist _).length_le
theorem span_take (lo hi : UInt8) (l : List UInt8) : l.take (spanF lo hi l).length = spanF lo hi l := by
  unfold spanF
  exact (List.prefix_iff_eq_take.1 (List.takeWhile_prefix _)).symm
theorem tok_le {l t : List UInt8} {k : Int} (h : tokF l = (k, t)) : t.length ≤ l.length := by
  unfold tokF at h
  split at h
  · injection h with _ h; subst h; exact Nat.le_refl _
  · rename_i c r
    split at h
    · injection h with _ h; subst h; exact span_le _ _ _
    · split at h
      · injection h with _ h; subst h; exact span_le _ _ _
      · split at h
        · injection h with _ h; subst h; simp
        · split at h
          · rename_i h2
            injection h with _ h; subst h
            exact (List.isPrefixOf_iff_prefix.1 h2).length_le
          · injection h with _ h; subst h; simp
end Go.Proofs.YtagadbdbbglddaaGreatDoor
namespace Go.Proofs.YtagadbdbbglddaaGreatDoor
open Go.RowKit

/-- All blocks but k stand as they stood; memory may be made. -/
structure Gk (k : Nat) (w w' : World) : Prop where
  g : w.grownBy w' (some k)
section
variable {k : Nat} {w X Y : World}
theorem Gk.refl (k : Nat) (w : World) : Gk k w w := ⟨World.grownBy.refl _ _⟩
theorem Gk.drew (h : Gk k w X) : Gk k w X.drew := ⟨⟨h.g.os, h.g.tape, h.g.output, h.g.size, h.g.block⟩⟩
theorem Gk.drewN (h : Gk k w X) (n : Nat) : Gk k w (X.drewN n) := ⟨⟨h.g.os, h.g.tape, h.g.output, h.g.size, h.g.block⟩⟩
theorem Gk.set (h : Gk k w X) (i : Nat) (u : Value) : Gk k w (X.setCell ⟨k, i, none⟩ u) := ⟨grown_set h.g i u⟩
theorem Gk.call (h : Gk k w X) (hb : Below X.heap.size X Y) : Gk k w Y :=
  ⟨⟨hb.os.trans h.g.os, hb.tape.trans h.g.tape, hb.output.trans h.g.output, Nat.le_trans h.g.size hb.size, fun b hl hn => (hb.block b (Nat.lt_of_lt_of_le hl h.g.size)).trans (h.g.block b hl hn)⟩⟩
theorem Gk.alloc (h : Gk k w X) (o : Obj) : Gk k w (X.alloc o) := h.call ((Below.refl _ _).alloc (Nat.le_refl _) _)
theorem Gk.ofBelow (h : Below w.heap.size w X) : Gk k w X := (Gk.refl k w).call h
theorem Gk.trans {Z : World} (h : Gk k w X) (h' : Gk k X Z) : Gk k w Z :=
  ⟨⟨h'.g.os.trans h.g.os, h'.g.tape.trans h.g.tape, h'.g.output.trans h.g.output, Nat.le_trans h.g.size h'.g.size, fun b hl hn => (h'.g.block b (Nat.lt_of_lt_of_le hl h.g.size) hn).trans (h.g.block b hl hn)⟩⟩
theorem Gk.row {b : Nat} {o : Obj} (h : Gk k w X) (hb : w.heap[b]? = some o) (hne : b ≠ k) : X.heap[b]? = some o := (h.g.block b (heap_lt hb) (by intro e; injection e with e; exact hne e)).trans hb
theorem Gk.below {N : Nat} {w0 : World} (h : Gk k w X) (hb : Below N w0 w) (hk : N ≤ k) (hN : N ≤ w.heap.size) : Below N w0 X := hb.grown h.g hN (fun j hj => by injection hj with hj; omega)
theorem Gk.slKeep {α : Type} {E : Enc α} {S : Nat → Prop} {A : Option Addr} {c : Nat} {xs : List α} (h : Gk k w X) (hs : Sl E S w A c xs) (hS : ¬ S k) : Sl E S X A c xs :=
  hs.keep ((Agree.refl _ _).grown h.g (by rintro _ ⟨⟩; exact hS))
end
end Go.Proofs.YtagadbdbbglddaaGreatDoor
namespace Go.Proofs.YtagadbdbbglddaaGreatDoor
open Go.RowKit

section
variable {P : Program} {α : Type} {E : Enc α} {S : Nat → Prop} {w : World} {t ty e : TypeId} {bytes : Nat}
theorem run_append_copy (T : SlT P t e E bytes) (hE : E.Flat) {ys : List α} {A B : Option Addr} {c : Nat} (k : Sl E S w B c ys) (h63 : ys.length ≤ maxLen) (hbytes : ys.length * bytes ≤ 140737488355328) :
    ∃ A' c' w', (Builtin.append_ #[t, t] ty #[.slice A 0 0, .slice B ys.length c]).run P w = .ok (.slice A' ys.length c') w' ∧ Sl E (fun b => w.heap.size ≤ b) w' A' c' ys ∧ Below w.heap.size w w' := by
  cases hys : ys with
  | nil =>
    obtain ⟨i, z, hi, hz, hsz, hby, hzs⟩ := T.parts
    refine ⟨A, 0, w, ?_, Sl.nil_ _ _ _ _ (Nat.zero_le _), Below.refl _ _⟩
    refine run_append_nothing w t t ty e i T.und hi A 0 0 (Nat.le_refl _) (.slice B 0 c) ?_
    cases B with
    | none => exact Src.ofNil w T.und c
    | some a => exact Src.ofSlice w T.und a 0 c [] (by simp) (by simp) (by simp)
  | cons y l =>
    rw [← hys]
    have hne : ys ≠ [] := by rw [hys]; simp
    obtain ⟨v', w', hrun, ho, hb⟩ := run_append_full (ty := ty) T (xs := []) (A := A) (Sl.nil_ E S w A (Nat.zero_le _)) k hne (by simpa using h63) (by simpa using hbytes) (fun _ => trivial)
    rw [List.nil_append] at ho
    obtain ⟨A', c', rfl, _⟩ := ho.form
    exact ⟨A', c', w', hrun, ho.flatSl hE fun b hb => hb, hb⟩
theorem wpList_append_copy {ops : Array Oper} {rest : List Oper} {o : Oper} {a : Act} {Q : Exit → Act → World → Prop} (hgd : o.guard = none) (s x : Operand)
    (ho : o.op = .call { callee := .builtin .append, args := #[s, x], argTypes := #[t, t] }) (T : SlT P t e E bytes) (hE : E.Flat) {ys : List α} {A B : Option Addr} {c m : Nat}
    (hs : a.eval s = .slice A 0 0) (hx : a.eval x = .slice B m c) (hm : ys.length = m) (k : Sl E S w B c ys) (h63 : ys.length ≤ maxLen) (hbytes : ys.length * bytes ≤ 140737488355328)
    (H : ∀ A' c' w', Sl E (fun b => w.heap.size ≤ b) w' A' c' ys → Below w.heap.size w w' → wpList P ops Q rest (a.put o.dst (.slice A' m c')) w') : wpList P ops Q (o :: rest) a w := by
  subst hm
  obtain ⟨A', c', w', hrun, h1, h2⟩ := run_append_copy (ty := o.type) (A := A) T hE k h63 hbytes
  exact wpList_plain hgd fun _ hK => wp_append_run ho hs hx hrun (hK _ _ (H A' c' w' h1 h2))
end
end Go.Proofs.YtagadbdbbglddaaGreatDoor
namespace Go.Proofs.YtagadbdbbglddaaGreatDoor
open Go.RowKit

theorem str_at {bs : List UInt8} {j : Nat} {c : UInt8} (h : bs[j]? = some c) : ∀ hj, (ByteArray.mk bs.toArray)[j]'hj = c := by
  intro hj
  obtain ⟨h1, h2⟩ := List.getElem?_eq_some_iff.1 h
  show bs.toArray[j]'_ = c
  rw [List.getElem_toArray]
  exact h2
theorem str_cut {bs : List UInt8} {i j : Nat} : (ByteArray.mk bs.toArray).extract i j = ByteArray.mk ((bs.drop i).take (j - i)).toArray := by
  apply ByteArray.ext
  rw [ByteArray.data_extract]
  simp [List.extract_eq_take_drop]
theorem inR_iff (lo hi c : UInt8) : inR lo hi c = true ↔ lo.toNat ≤ c.toNat ∧ c.toNat ≤ hi.toNat := by
  unfold inR
  simp [UInt8.le_iff_toNat_le]
set_option maxRecDepth 100000 in
set_option maxHeartbeats 2000000 in
theorem spanP {bs : List UInt8} {lo hi : UInt8} {g i n : Nat} {off er : Int} (hn : i + (spanF lo hi (bs.drop i)).length = n) (w : World) (hg : w.heap[g]? = some (.cells #[.string ⟨bs.toArray⟩, .int .i64 (i : Nat), .int .i64 off, .int .i64 er] 77 (0, 0))) (hi' : i ≤ bs.length) (hl : bs.length ≤ 1000) :
    Calls Tryz.prog 73 #[.pointer (some ⟨g, 0, none⟩), .int .u8 (lo.toNat : Int), .int .u8 (hi.toNat : Int)] w fun e w' => e = .returned (.int .i64 ((n : Nat) : Int)) ∧ w = w' := by
  have HNN := Lib.hid hn
  clear hn
  have p0 := cell_of_row _ _ 0 _ _ _ hg
  have p1 := cell_of_row _ _ 1 _ _ _ hg
  simp only [List.getElem?_toArray, List.getElem?_cons_zero, List.getElem?_cons_succ] at p0 p1
  clear hg
  go_enter Tryz.func73, Tryz.ntmps73
  go_wp2_with fail
  go_loop [7] (fun v => ∃ j : Nat, i ≤ j ∧ j ≤ bs.length ∧ v = .int .i64 (j : Nat) ∧ Hid (i + (spanF lo hi (bs.drop i)).length = j + (spanF lo hi (bs.drop j)).length)) (fun v => bs.length - (intOf v).toNat)
  case atStart => exact ⟨i, Nat.le_refl _, hi', rfl, Lib.hid rfl⟩
  case round =>
    obtain ⟨j, hij, hj, rfl, HE⟩ := hrel
    have hj0 : (0 : Int) ≤ (j : Int) := by omega
    by_cases hlt : j < bs.length
    · have hj1 : (j : Int) < (bs.length : Int) := by omega
      obtain ⟨c, hc⟩ : ∃ c, bs[j]? = some c := ⟨_, List.getElem?_eq_getElem hlt⟩
      have hx := str_at hc
      have hdr := drop_cons hc
      have Z : (∀ x, inR lo hi c = x → x = true → Hid (i + (spanF lo hi (bs.drop i)).length = j + 1 + (spanF lo hi (bs.drop (j + 1))).length)) := fun x h1 h2 => Lib.hid (by
        rw [HE.out, hdr, span_yes (by rw [h1, h2]), List.length_cons]; omega)
      have Z2 : inR lo hi c = false → Hid (i + (spanF lo hi (bs.drop i)).length = j) := fun h => Lib.hid (by rw [HE.out, hdr, span_no h]; simp)
      by_cases h1 : lo.toNat ≤ c.toNat
      · by_cases h2 : c.toNat ≤ hi.toNat
        · have HZ := Z true ((inR_iff lo hi c).2 ⟨h1, h2⟩) rfl
          clear hc hdr Z Z2
          go_wp2_with fail
          go_round
          case rel => exact ⟨j + 1, by omega, by omega, by go_num, HZ⟩
          case measure => simp [intOf]; omega
        · have HZ := Z2 (Bool.eq_false_iff.2 fun h => h2 ((inR_iff lo hi c).1 h).2)
          clear hc hdr Z Z2
          go_wp2_with fail
          go_ret
          exact ⟨by rw [← HNN.out, HZ.out]; rfl, rfl⟩
      · have HZ := Z2 (Bool.eq_false_iff.2 fun h => h1 ((inR_iff lo hi c).1 h).1)
        clear hc hdr Z Z2
        go_wp2_with fail
        go_ret
        exact ⟨by rw [← HNN.out, HZ.out]; rfl, rfl⟩
    · have hj1 : ¬ (j : Int) < (bs.length : Int) := by omega
      obtain rfl : j = bs.length := by omega
      have HZ := Lib.hid (show i + (spanF lo hi (bs.drop i)).length = bs.length by rw [HE.out, List.drop_of_length_le (Nat.le_refl _)]; simp [spanF])
      go_wp2_with fail
      go_ret
      exact ⟨by rw [← HNN.out, HZ.out]; rfl, rfl⟩
end Go.Proofs.YtagadbdbbglddaaGreatDoor
namespace Go.Proofs.YtagadbdbbglddaaGreatDoor
open Go.RowKit

theorem ret_i {k : IntKind} {a b : Int} (h : a = b) : Ending.returned (.int k a) = .returned (.int k b) := by rw [h]
def possT (col v : Int) (c : Cd) : Bool := !decide (c.col = col ∧ (v < c.lo ∨ c.hi < v))
set_option maxRecDepth 100000 in
set_option maxHeartbeats 2000000 in
theorem possRef {l : List Cd} {A : Option Addr} {c : Nat} {S : Nat → Prop} (col v : Int) (w : World) (h : Sl cdE S w A c l) :
    Calls Tryz.prog 82 #[.slice A l.length c, .int .i64 col, .int .i64 v] w fun e w' => e = .returned (.bool (possB l col v)) ∧ w = w' := by
  have hm := h.max
  have H := Lib.hid h
  clear h
  have hp : possB l col v = (l.all (possT col v) && decide (0 ≤ v ∧ v ≤ maxC col)) := rfl
  have HP := Lib.hid hp
  clear hp
  go_enter Tryz.func82, Tryz.ntmps82
  go_wp2_with fail
  go_loop [7] (fun i => ∃ j : Nat, j ≤ l.length ∧ i = .int .i64 j ∧ (l.take j).all (possT col v) = true) (fun i => l.length - (intOf i).toNat)
  case atStart => exact ⟨0, Nat.zero_le _, rfl, rfl⟩
  case round =>
    obtain ⟨j, hj, rfl, ha⟩ := hrel
    have Ha := Lib.hid ha
    clear ha
    have hj0 : (0 : Int) ≤ (j : Int) := by omega
    by_cases hlt : j < l.length
    · obtain ⟨x, hx⟩ : ∃ x, l[j]? = some x := ⟨_, List.getElem?_eq_getElem hlt⟩
      obtain ⟨b1, o1, rfl, -, l1, x0, x1, x2⟩ := cd_at H.out hx
      have hj1 : (j : Int) < (l.length : Int) := by omega
      have hn : (l.take (j + 1)).all (possT col v) = ((l.take j).all (possT col v) && possT col v x) := by rw [take_snocR hx]; simp
      have Hn := Lib.hid hn
      have Hx := Lib.hid hx
      clear hx hn
      by_cases c1 : x.col = col
      · have f1 : (x.col == col) = true := by simp [c1]
        by_cases c2 : v < x.lo
        · have ht := Lib.hid (show possT col v x = false by unfold possT; rw [decide_eq_true ⟨c1, .inl c2⟩]; rfl)
          have hf := Lib.hid (show possB l col v = false by rw [HP.out, List.all_eq_false.2 ⟨x, List.mem_of_getElem? Hx.out, by rw [ht.out]; simp⟩]; rfl)
          clear c1
          go_wp2_with fail
          go_ret
          exact ⟨ret_b hf.out.symm, rfl⟩
        · have f2 : decide (v < x.lo) = false := decide_eq_false c2
          by_cases c3 : x.hi < v
          · have ht := Lib.hid (show possT col v x = false by unfold possT; rw [decide_eq_true ⟨c1, .inr c3⟩]; rfl)
            have hf := Lib.hid (show possB l col v = false by rw [HP.out, List.all_eq_false.2 ⟨x, List.mem_of_getElem? Hx.out, by rw [ht.out]; simp⟩]; rfl)
            clear c1
            go_wp2_with fail
            go_ret
            exact ⟨ret_b hf.out.symm, rfl⟩
          · have f3 : decide (x.hi < v) = false := decide_eq_false c3
            have ht := Lib.hid (show possT col v x = true by unfold possT; rw [decide_eq_false (fun h => by omega)]; rfl)
            clear c1
            go_wp2_with fail
            go_round
            case rel => exact ⟨j + 1, by omega, by go_num, by rw [Hn.out, Ha.out, ht.out]; rfl⟩
            case measure => simp [intOf]; omega
      · have f1 : (x.col == col) = false := by simpa using c1
        have ht := Lib.hid (show possT col v x = true by unfold possT; rw [decide_eq_false (fun h => c1 h.1)]; rfl)
        clear c1
        go_wp2_with fail
        go_round
        case rel => exact ⟨j + 1, by omega, by go_num, by rw [Hn.out, Ha.out, ht.out]; rfl⟩
        case measure => simp [intOf]; omega
    · have hj1 : ¬ (j : Int) < (l.length : Int) := by omega
      have hall : l.all (possT col v) = true := by have := Ha.out; rwa [List.take_of_length_le (by omega)] at this
      have HA := Lib.hid hall
      clear hall
      by_cases c4 : 0 ≤ v
      · have hf := Lib.hid (show possB l col v = decide (v ≤ maxC col) by rw [HP.out, HA.out, Bool.true_and]; exact decide_eq_decide.2 (by omega))
        go_wp2_with (go_at_call 80; refine (maxRef _ _).mono ?_; rintro e w2 ⟨rfl, rfl⟩)
        go_ret
        exact ⟨ret_b hf.out.symm, rfl⟩
      · have f4 : decide (0 ≤ v) = false := decide_eq_false c4
        have hf := Lib.hid (show possB l col v = false by rw [HP.out, decide_eq_false (fun h => c4 h.1), Bool.and_false])
        go_wp2_with fail
        go_ret
        exact ⟨ret_b hf.out.symm, rfl⟩
set_option maxHeartbeats 2000000 in
theorem largeRef {l : List Cd} {A : Option Addr} {c : Nat} {S : Nat → Prop} {col : Int} (w : World) (h : Sl cdE S w A c l) (h0 : 0 ≤ col) (h3 : col ≤ 3) :
    Calls Tryz.prog 45 #[.slice A l.length c, .int .i64 col] w fun e w' => e = .returned (.int .i64 (largeF l col)) ∧ w = w' := by
  have H := Lib.hid h
  have hmx := maxC_pos col
  clear h
  obtain ⟨M, hM⟩ : ∃ M, maxC col = M := ⟨_, rfl⟩
  rw [hM] at hmx
  have HM := Lib.hid hM
  clear hM
  go_enter Tryz.func45, Tryz.ntmps45
  go_wp2_with (go_at_call 80; refine (maxRef _ _).mono ?_; rw [HM.out]; rintro e w2 ⟨rfl, rfl⟩)
  go_loop [5] (fun i => ∃ u : Int, -1 ≤ u ∧ u ≤ M ∧ i = .int .i64 u ∧ Hid (∀ x, u < x → x ≤ M → possB l col x = false)) (fun i => (intOf i + 1).toNat)
  case atStart => exact ⟨M, by omega, by omega, rfl, Lib.hid fun x h1 h2 => by omega⟩
  case round =>
    obtain ⟨u, hu0, hu1, rfl, Hu⟩ := hrel
    by_cases hge : 0 ≤ u
    · cases hpu : possB l col u with
      | true =>
        have hf := Lib.hid (large_found h0 h3 hpu fun x h1 h2 => Hu.out x h1 (by rw [← HM.out]; exact h2))
        have Hpu := Lib.hid hpu
        clear hpu
        go_wp2_with (go_at_call 82; refine (possRef _ _ _ H.out).mono ?_; rw [Hpu.out]; rintro e w3 ⟨rfl, rfl⟩)
        go_ret
        exact ⟨ret_i hf.out.symm, rfl⟩
      | false =>
        have Hpu := Lib.hid hpu
        clear hpu
        go_wp2_with (go_at_call 82; refine (possRef _ _ _ H.out).mono ?_; rw [Hpu.out]; rintro e w3 ⟨rfl, rfl⟩)
        go_round
        case rel => exact ⟨u - 1, by omega, by omega, by go_num, Lib.hid fun x h1 h2 => by
          rcases (by omega : x = u ∨ u < x) with rfl | h
          · exact Hpu.out
          · exact Hu.out x h h2⟩
        case measure => simp [intOf]; omega
    · have hf := Lib.hid (large_none (l := l) h0 h3 fun x h1 h2 => Hu.out x (by omega) (by rw [← HM.out]; exact h2))
      have hge' : ¬ (0 : Int) ≤ u := hge
      go_wp2_with fail
      go_ret
      exact ⟨ret_i hf.out.symm, rfl⟩
/-- The first j columns can be met. -/
def satT (l : List Cd) (j : Nat) : Bool := ([0, 1, 2, 3].take j).all fun col => decide (0 ≤ largeF l col)
theorem satT_all {l : List Cd} (hv : ∀ x ∈ l, ValidCd x) : satT l 4 = satB l := by
  rw [satB_large hv]
  unfold satT
  simp only [List.take, List.all_cons, List.all_nil, Bool.and_true]
  rw [Bool.eq_iff_iff]
  simp only [Bool.and_eq_true, decide_eq_true_eq]
theorem satT_succ (l : List Cd) {j : Nat} (h : j < 4) : satT l (j + 1) = (satT l j && decide (0 ≤ largeF l (j : Int))) := by
  match j, h with
  | 0, _ => simp [satT]
  | 1, _ => simp [satT]
  | 2, _ => simp [satT, Bool.and_assoc]
  | 3, _ => simp [satT, Bool.and_assoc]
theorem satT_false {l : List Cd} {j : Nat} (h : j < 4) (hf : satT l (j + 1) = false) : satT l 4 = false := by
  have h1 := satT_succ l (j := 1) (by omega)
  have h2 := satT_succ l (j := 2) (by omega)
  have h3 := satT_succ l (j := 3) (by omega)
  match j, h with
  | 0, _ => rw [h3, h2, h1, hf]; rfl
  | 1, _ => rw [h3, h2, hf]; rfl
  | 2, _ => rw [h3, hf]; rfl
  | 3, _ => exact hf
set_option maxHeartbeats 2000000 in
theorem satRef {l : List Cd} {A : Option Addr} {c : Nat} {S : Nat → Prop} (w : World) (h : Sl cdE S w A c l) (hv : ∀ x ∈ l, ValidCd x) :
    Calls Tryz.prog 43 #[.slice A l.length c] w fun e w' => e = .returned (.bool (satB l)) ∧ w = w' := by
  have H := Lib.hid h
  have HS := Lib.hid (satT_all hv)
  clear h hv
  go_enter Tryz.func43, Tryz.ntmps43
  go_wp2_with fail
  go_loop [3] (fun i => ∃ j : Nat, j ≤ 4 ∧ i = .int .i64 j ∧ satT l j = true) (fun i => 4 - (intOf i).toNat)
  case atStart => exact ⟨0, by omega, rfl, rfl⟩
  case round =>
    obtain ⟨j, hj, rfl, ha⟩ := hrel
    have Ha := Lib.hid ha
    clear ha
    have hj0 : (0 : Int) ≤ (j : Int) := by omega
    by_cases hlt : j < 4
    · have hj1 : (j : Int) < 4 := by omega
      have hs := Lib.hid (satT_succ l hlt)
      obtain ⟨z, hz⟩ : ∃ z, largeF l (j : Int) = z := ⟨_, rfl⟩
      have HZ := Lib.hid hz
      clear hz
      by_cases hz0 : z < 0
      · have hf := Lib.hid (satT_false hlt (by rw [hs.out, HZ.out, decide_eq_false (by omega), Bool.and_false]))
        go_wp2_with (go_at_call 45; refine (largeRef _ H.out hj0 (by omega)).mono ?_; rw [HZ.out]; rintro e w3 ⟨rfl, rfl⟩)
        go_ret
        exact ⟨ret_b (by rw [← HS.out, hf.out]), rfl⟩
      · have hz1 : ¬ z < 0 := hz0
        go_wp2_with (go_at_call 45; refine (largeRef _ H.out hj0 (by omega)).mono ?_; rw [HZ.out]; rintro e w3 ⟨rfl, rfl⟩)
        go_round
        case rel => exact ⟨j + 1, by omega, by go_num, by rw [hs.out, Ha.out, HZ.out, decide_eq_true (by omega)]; rfl⟩
        case measure => simp [intOf]; omega
    · have hj1 : ¬ (j : Int) < 4 := by omega
      obtain rfl : j = 4 := by omega
      go_wp2_with fail
      go_ret
      exact ⟨ret_b (by rw [← HS.out, Ha.out]), rfl⟩
end Go.Proofs.YtagadbdbbglddaaGreatDoor
namespace Go.Proofs.YtagadbdbbglddaaGreatDoor
open Go.RowKit

/-- The package's map of widths lies as its text lays it. -/
def WidOk (w : World) : Prop := ∃ b es clock, w.cell? ⟨0, 0, none⟩ = some (.map (some b)) ∧ w.heap[b]? = some (.map es clock) ∧
  ∀ W : World, W.heap[b]? = some (.map es clock) → ∀ k : Int, -9223372036854775808 ≤ k → k ≤ 9223372036854775807 → (Instr.lookup 106 (.map (some b)) (.int .i64 k) false).run Tryz.prog W = .ok (.int .i64 (bitsC k)) W
theorem WidOk.keep {w w' : World} (h : WidOk w) (hb : Below w.heap.size w w') : WidOk w' := by
  obtain ⟨b, es, clock, h1, h2, h3⟩ := h
  exact ⟨b, es, clock, (hb.cell (p := ⟨0, 0, none⟩) (World.block_lt_of_cell? w _ h1)).trans h1, (hb.block b (heap_lt h2)).trans h2, h3⟩
theorem WidOk.alloc {w : World} (h : WidOk w) (o : Obj) : WidOk (w.alloc o) := h.keep ((Below.refl _ _).alloc (Nat.le_refl _) _)
theorem mvW {w w' : World} (h : Hid (WidOk w)) (hb : Below w.heap.size w w') : Hid (WidOk w') := Lib.hid (h.out.keep hb)
theorem bitsP {c : Int} (w : World) (hw : WidOk w) (h0 : -9223372036854775808 ≤ c) (h1 : c ≤ 9223372036854775807) : Calls Tryz.prog 24 #[.int .i64 c] w fun e w' => e = .returned (.int .i64 (bitsC c)) ∧ w = w' := by
  obtain ⟨b, es, clock, hc, hb, hl⟩ := hw
  have hrun := hl w hb c h0 h1
  clear hl
  go_enter Tryz.func24, Tryz.ntmps24
  go_wp2_with fail
  go_ret
  exact ⟨rfl, rfl⟩

theorem bits_n (c : Int) : ∃ n : Int, bitsC c = n ∧ 0 ≤ n ∧ n ≤ 8 ∧ wrap64 (2 ^ n.toNat) = 2 ^ n.toNat ∧ span0 c = (0, 2 ^ n.toNat - 1) ∧ (1 : Int) ≤ 2 ^ n.toNat ∧ (2 : Int) ^ n.toNat ≤ 256 := by
  refine ⟨bitsC c, rfl, ?_⟩
  have : bitsC c = 4 ∨ bitsC c = 8 ∨ bitsC c = 1 ∨ bitsC c = 0 := by unfold bitsC; (repeat' split) <;> simp
  unfold span0
  rcases this with h | h | h | h <;> rw [h] <;> exact ⟨by decide, by decide, IntWalk.wrap64_in _ (by decide), rfl, by decide, by decide⟩
/-- What a loop over conditions has gathered in box g. -/
def SpanAt (w : World) (g : Nat) (s : Int × Int) (wx : World) : Prop :=
  Below w.heap.size w wx ∧ wx.heap[g]? = some (.cells #[.int .i64 s.1, .int .i64 s.2] 135 (0, 0))
set_option maxRecDepth 100000 in
set_option maxHeartbeats 2000000 in
theorem underP {l : List Cd} {A : Option Addr} {c : Nat} {S : Nat → Prop} (col : Int) (w : World) (hw : WidOk w) (h : Sl cdE S w A c l) (h0 : -9223372036854775808 ≤ col) (h1 : col ≤ 9223372036854775807) :
    Calls Tryz.prog 89 #[.slice A l.length c, .int .i64 col] w fun e w' => e = .returned (.agg #[.int .i64 (underF l col).1, .int .i64 (underF l col).2]) ∧ Below w.heap.size w w' := by
  have hm := h.max
  have H := Lib.hid h
  have HW := Lib.hid hw
  obtain ⟨n, hn, hn0, hn8, hsh, hsp, hN1, hN2⟩ := bits_n col
  clear h hw
  have Hsp := Lib.hid hsp
  obtain ⟨N, hN⟩ : ∃ N : Int, 2 ^ n.toNat = N := ⟨_, rfl⟩
  rw [hN] at hN1 hN2
  replace hsh : wrap64 (2 ^ n.toNat) = N := hsh.trans hN
  have HN := Lib.hid hN
  have Hn := Lib.hid hn
  clear hsp hN hn
  go_enter Tryz.func89, Tryz.ntmps89
  go_wp2_with (go_at_call 24; refine (bitsP _ (HW.out.alloc _) h0 h1).mono ?_; rw [Hn.out]; rintro e w1 ⟨rfl, rfl⟩)
  go_loopw [15] (fun i wx => ∃ j : Nat, j ≤ l.length ∧ i = .int .i64 j ∧ SpanAt w (w.heap.size + 1) ((l.take j).foldl (spanStep col) (span0 col)) wx ∧ wx.heap[w.heap.size]? = some (.cells #[.int .i64 0, .int .i64 0] 135 (0, 0))) (fun i _ => l.length - (intOf i).toNat)
  case atStart =>
    refine ⟨0, Nat.zero_le _, rfl, ⟨(by repeat' (first | with_reducible exact Below.refl _ _ | with_reducible assumption | with_reducible refine Below.setCell ?_ ?_ _ | with_reducible refine Below.drew ?_ | with_reducible refine below_drewN ?_ _ | with_reducible refine Below.alloc ?_ ?_ _ | (rintro _ ⟨⟩; simp <;> omega) | omega | (simp <;> omega))), ?_⟩, ?_⟩
    · rw [List.take_zero, List.foldl_nil, Hsp.out, HN.out]; exact heap_alloc_at (by simp)
    · exact (Below.heap_alloc _ _ _ (by simp)).trans (heap_alloc_at rfl)
  case round =>
    obtain ⟨j, hj, rfl, ⟨hb, hg⟩, hg0⟩ := hrel
    have Hb := Lib.hid hb
    have Hg0 := Lib.hid hg0
    obtain ⟨s, hs⟩ : ∃ s, (l.take j).foldl (spanStep col) (span0 col) = s := ⟨_, rfl⟩
    rw [hs] at hg
    have Hg := Lib.hid hg
    have Hs := Lib.hid hs
    have y0 := cell_of_row wr (w.heap.size + 1) 0 _ _ _ hg
    have y1 := cell_of_row wr (w.heap.size + 1) 1 _ _ _ hg
    have f0 : wr.frozen? ⟨w.heap.size + 1, 0, none⟩ = false := by simp [World.frozen?, hg]
    have f1 : wr.frozen? ⟨w.heap.size + 1, 1, none⟩ = false := by simp [World.frozen?, hg]
    have lg := heap_lt hg
    have lg0 := heap_lt hg0
    have hj0 : (0 : Int) ≤ (j : Int) := by omega
    simp only [List.getElem?_toArray, List.getElem?_cons_zero, List.getElem?_cons_succ] at y0 y1
    by_cases hlt : j < l.length
    · obtain ⟨x, hx⟩ : ∃ x, l[j]? = some x := ⟨_, List.getElem?_eq_getElem hlt⟩
      obtain ⟨b1, o1, e1, -, l1, x0, x1, x2⟩ := cd_at (H.out.keep (Below.agree hb)) hx
      subst e1
      have hj1 : (j : Int) < (l.length : Int) := by omega
      have hn : (l.take (j + 1)).foldl (spanStep col) (span0 col) = spanStep col s x := by rw [take_snocR hx, List.foldl_append, hs]; rfl
      have Hn' := Lib.hid hn
      clear hb hg hg0 hs hx hn
      by_cases hc : x.col = col
      · have hc' : (x.col == col) = true := by simp [hc]
        have hst := Lib.hid (show spanStep col s x = (if s.1 < x.lo then x.lo else s.1, if x.hi < s.2 then x.hi else s.2) from (if_pos hc).trans (by rw [Prod.mk.injEq]; constructor <;> split <;> omega))
        clear hc
        go_wp2_with fail
        go_roundw
        case rel =>
          refine ⟨j + 1, by omega, by go_num, ⟨?_, ?_⟩, ?_⟩
          · have hb0 := Hb.out
            have hz0 := hb0.size
            exact (by repeat' (first | with_reducible exact Below.refl _ _ | with_reducible assumption | with_reducible refine Below.setCell ?_ ?_ _ | with_reducible refine Below.drew ?_ | with_reducible refine below_drewN ?_ _ | with_reducible refine Below.alloc ?_ ?_ _ | (rintro _ ⟨⟩; simp <;> omega) | omega | (simp <;> omega)))
          · rw [Hn'.out, hst.out]
            exact (Below.heap_alloc _ _ _ (by simp [World.setCell]; exact lg)).trans (heap_set (i := 1) (heap_set (i := 0) (u := .int .i64 (if s.1 < x.lo then x.lo else s.1)) Hg.out))
          · exact (Below.heap_alloc _ _ _ (by simp [World.setCell]; exact lg0)).trans ((Below.heap_setCell _ _ _ _ (by simp)).trans ((Below.heap_setCell _ _ _ _ (by simp)).trans Hg0.out))
        case measure => simp [intOf]; omega
      · have hc' : (x.col == col) = false := by simpa using hc
        have hst := Lib.hid (show spanStep col s x = s from if_neg hc)
        clear hc
        go_wp2_with fail
        go_roundw
        case rel => exact ⟨j + 1, by omega, by go_num, ⟨Hb.out.alloc Hb.out.size _, by rw [Hn'.out, hst.out]; exact (Below.heap_alloc _ _ _ lg).trans Hg.out⟩, (Below.heap_alloc _ _ _ lg0).trans Hg0.out⟩
        case measure => simp [intOf]; omega
    · have hj1 : ¬ (j : Int) < (l.length : Int) := by omega
      have hfin : s = underF l col := by rw [← hs, List.take_of_length_le (by omega)]; rfl
      have z0 := cell_of_row wr w.heap.size 0 _ _ _ hg0
      have z1 := cell_of_row wr w.heap.size 1 _ _ _ hg0
      have k0 : wr.frozen? ⟨w.heap.size, 0, none⟩ = false := by simp [World.frozen?, hg0]
      have k1 : wr.frozen? ⟨w.heap.size, 1, none⟩ = false := by simp [World.frozen?, hg0]
      simp only [List.getElem?_toArray, List.getElem?_cons_zero, List.getElem?_cons_succ] at z0 z1
      subst hfin
      clear hb hg hg0 hs
      go_wp2_with fail
      refine bodyPost_ret (v := .agg #[.int .i64 (underF l col).1, .int .i64 (underF l col).2]) (by simp [results, Tryz.results89, go_sem, *]) rfl ⟨rfl, ?_⟩
      exact (Hb.out.setCell (Nat.le_refl _) _).setCell (Nat.le_refl _) _
end Go.Proofs.YtagadbdbbglddaaGreatDoor
namespace Go.Proofs.YtagadbdbbglddaaGreatDoor
open Go.RowKit

theorem valid1P (c : Cd) (w : World) : Calls Tryz.prog 50 #[(.agg #[.int .i64 c.col, .int .i64 c.lo, .int .i64 c.hi])] w fun e w' => e = .returned (.bool (!validCdB c)) ∧ Below w.heap.size w w' := by
  go_enter Tryz.func50, Tryz.ntmps50
  go_wp2_with (go_at_call 51; refine (validCondP c _).mono ?_; rintro e w1 ⟨rfl, hb1⟩)
  go_ret
  exact ⟨rfl, ((Below.refl _ _).alloc (Nat.le_refl _) _).trans (hb1.mono (by simp))⟩
/-- A number that is not below 0 just where b holds; memory may be made. -/
def SignB (b : Bool) (w : World) (e : Ending) (w' : World) : Prop := ∃ z : Int, e = .returned (.int .i64 z) ∧ decide (0 ≤ z) = b ∧ Below w.heap.size w w'
def badFlt (l : List Cd) : Bool := l.any fun c => !validCdB c
theorem indexC {l : List Cd} {A : Option Addr} {c : Nat} {S : Nat → Prop} (w : World) (h : Sl cdE S w A c l) :
    Calls Tryz.prog 84 #[.slice A l.length c, .func (.func 50) #[] #[]] w (SignB (badFlt l) w) := by
  have hm := h.max
  have H := Lib.hid h
  clear h
  go_enter Tryz.func84, Tryz.ntmps84
  go_wp2_with fail
  go_loopw [8] (fun i wr => ∃ j : Nat, j ≤ l.length ∧ i = .int .i64 j ∧ badFlt (l.take j) = false ∧ Below w.heap.size w wr) (fun i _ => l.length - (intOf i).toNat)
  case atStart => exact ⟨0, Nat.zero_le _, rfl, rfl, Below.refl _ _⟩
  case round =>
    obtain ⟨j, hj, rfl, hb, bb⟩ := hrel
    have Hb := Lib.hid hb
    have B0 := Lib.hid bb
    clear hb
    by_cases hlt : j < l.length
    · obtain ⟨x, hx⟩ : ∃ x, l[j]? = some x := ⟨_, List.getElem?_eq_getElem hlt⟩
      obtain ⟨b1, o1, rfl, -, hb1, x0, x1, x2⟩ := cd_at (H.out.keep (Below.agree bb)) hx
      have hj0 : (0 : Int) ≤ (j : Int) := by omega
      have hj1 : (j : Int) < (l.length : Int) := by omega
      have hs : badFlt (l.take (j + 1)) = (badFlt (l.take j) || !validCdB x) := by rw [take_snocR hx]; simp [badFlt]
      have Hs := Lib.hid hs
      have Hx := Lib.hid hx
      clear hs hx bb
      cases hok : validCdB x with
      | true =>
        have Hok := Lib.hid hok
        clear hok
        go_wp2_with (go_at_call 50; refine (valid1P x _).mono ?_; rw [Hok.out]; rintro e w2 ⟨rfl, hb2⟩)
        go_roundw
        case rel => exact ⟨j + 1, by omega, by go_num, by rw [Hs.out, Hb.out, Hok.out]; rfl, B0.out.trans (hb2.mono B0.out.size)⟩
        case measure => simp [intOf]; omega
      | false =>
        have Hok := Lib.hid hok
        clear hok
        go_wp2_with (go_at_call 50; refine (valid1P x _).mono ?_; rw [Hok.out]; rintro e w2 ⟨rfl, hb2⟩)
        go_ret
        refine ⟨j, rfl, ?_, B0.out.trans (hb2.mono B0.out.size)⟩
        have : badFlt l = true := List.any_eq_true.2 ⟨x, List.mem_of_getElem? Hx.out, by simp [Hok.out]⟩
        rw [this]; simp
    · have hj1 : ¬ (j : Int) < (l.length : Int) := by omega
      clear bb
      go_wp2_with fail
      go_ret
      refine ⟨-1, rfl, ?_, B0.out⟩
      have := Hb.out
      rw [List.take_of_length_le (by omega)] at this
      rw [this]; rfl
theorem containsC {l : List Cd} {A : Option Addr} {c : Nat} {S : Nat → Prop} (w : World) (h : Sl cdE S w A c l) :
    Calls Tryz.prog 49 #[.slice A l.length c, .func (.func 50) #[] #[]] w fun e w' => e = .returned (.bool (badFlt l)) ∧ Below w.heap.size w w' := by
  have H := Lib.hid h
  clear h
  go_enter Tryz.func49, Tryz.ntmps49
  go_wp2_with (go_at_call 84; refine (indexC _ H.out).mono ?_; rintro e w2 ⟨z, rfl, hz, hb2⟩)
  go_ret
  exact ⟨rfl, hb2⟩
theorem badFlt_valid (l : List Cd) : badFlt l = !(l.all validCdB) := by
  unfold badFlt
  induction l with
  | nil => rfl
  | cons c l ih => simp only [List.any_cons, List.all_cons, ih, Bool.not_and]

end Go.Proofs.YtagadbdbbglddaaGreatDoor
namespace Go.Proofs.YtagadbdbbglddaaGreatDoor
open Go.RowKit

def emptyB (l : List Cd) (col : Int) : Bool := decide ((underF l col).2 < (underF l col).1)
theorem satB_any (l : List Cd) : satB l = !([0, 1, 2, 3].any (emptyB l)) := by
  unfold satB emptyB
  simp only [List.any_cons, List.any_nil, Bool.or_false]
  rw [Bool.eq_iff_iff]
  simp only [Bool.not_eq_true', Bool.or_eq_false_iff, decide_eq_true_eq, decide_eq_false_iff_not]
  omega
theorem sat1P {l : List Cd} {A : Option Addr} {c p : Nat} {S : Nat → Prop} (col : Int) (w : World) (hw : WidOk w) (h : Sl cdE S w A c l) (hp : w.cell? ⟨p, 0, none⟩ = some (.slice A l.length c)) (h0 : -9223372036854775808 ≤ col) (h1 : col ≤ 9223372036854775807) :
    Calls Tryz.prog 104 #[.int .i64 col, .pointer (some ⟨p, 0, none⟩)] w fun e w' => e = .returned (.bool (emptyB l col)) ∧ Below w.heap.size w w' := by
  have H := Lib.hid h
  have HW := Lib.hid hw
  clear h hw
  go_enter Tryz.func104, Tryz.ntmps104
  go_wp2_with (go_at_call 89; refine (underP _ _ HW.out H.out h0 h1).mono ?_; rintro e w1 ⟨rfl, hb1⟩)
  go_ret
  exact ⟨rfl, hb1.alloc hb1.size _⟩
theorem indexI {l : List Cd} {xs : List Int} {A B : Option Addr} {c d p : Nat} {S T : Nat → Prop} (w : World) (hw : WidOk w) (h : Sl cdE S w A c l) (hp : w.cell? ⟨p, 0, none⟩ = some (.slice A l.length c)) (k : Sl .i64 T w B d xs) (hx : ∀ x ∈ xs, 0 ≤ x ∧ x ≤ 3) :
    Calls Tryz.prog 116 #[.slice B xs.length d, .func (.func 104) #[] #[.pointer (some ⟨p, 0, none⟩)]] w (SignB (xs.any (emptyB l)) w) := by
  have hm := k.max
  have H := Lib.hid h
  have HW := Lib.hid hw
  have K := Lib.hid k
  have HX := Lib.hid hx
  have HP := Lib.hid hp
  clear h hw k hx hp
  go_enter Tryz.func116, Tryz.ntmps116
  go_wp2_with fail
  go_loopw [8] (fun i wr => ∃ j : Nat, j ≤ xs.length ∧ i = .int .i64 j ∧ (xs.take j).any (emptyB l) = false ∧ Below w.heap.size w wr) (fun i _ => xs.length - (intOf i).toNat)
  case atStart => exact ⟨0, Nat.zero_le _, rfl, rfl, Below.refl _ _⟩
  case round =>
    obtain ⟨j, hj, rfl, hb, bb⟩ := hrel
    have Hb := Lib.hid hb
    have B0 := Lib.hid bb
    clear hb
    by_cases hlt : j < xs.length
    · obtain ⟨x, hx⟩ : ∃ x, xs[j]? = some x := ⟨_, List.getElem?_eq_getElem hlt⟩
      obtain ⟨b1, o1, rfl, -, hb1, x0⟩ := i64_at (K.out.keep (Below.agree bb)) hx
      obtain ⟨hx0, hx3⟩ := HX.out x (List.mem_of_getElem? hx)
      have hj0 : (0 : Int) ≤ (j : Int) := by omega
      have hj1 : (j : Int) < (xs.length : Int) := by omega
      have hs : (xs.take (j + 1)).any (emptyB l) = ((xs.take j).any (emptyB l) || emptyB l x) := by rw [take_snocR hx]; simp
      have Hs := Lib.hid hs
      have Hx := Lib.hid hx
      have pp := (bb.cell (p := ⟨p, 0, none⟩) (World.block_lt_of_cell? w _ HP.out)).trans HP.out
      have Hl := Lib.hid (H.out.keep (Below.agree bb))
      have HW' := mvW HW bb
      clear hs hx bb
      cases hok : emptyB l x with
      | false =>
        have Hok := Lib.hid hok
        clear hok
        go_wp2_with (go_at_call 104; refine (sat1P x _ HW'.out Hl.out pp (by omega) (by omega)).mono ?_; rw [Hok.out]; rintro e w2 ⟨rfl, hb2⟩)
        go_roundw
        case rel => exact ⟨j + 1, by omega, by go_num, by rw [Hs.out, Hb.out, Hok.out]; rfl, B0.out.trans (hb2.mono B0.out.size)⟩
        case measure => simp [intOf]; omega
      | true =>
        have Hok := Lib.hid hok
        clear hok
        go_wp2_with (go_at_call 104; refine (sat1P x _ HW'.out Hl.out pp (by omega) (by omega)).mono ?_; rw [Hok.out]; rintro e w2 ⟨rfl, hb2⟩)
        go_ret
        refine ⟨j, rfl, ?_, B0.out.trans (hb2.mono B0.out.size)⟩
        have : xs.any (emptyB l) = true := List.any_eq_true.2 ⟨x, List.mem_of_getElem? Hx.out, Hok.out⟩
        rw [this]; simp
    · have hj1 : ¬ (j : Int) < (xs.length : Int) := by omega
      clear bb
      go_wp2_with fail
      go_ret
      refine ⟨-1, rfl, ?_, B0.out⟩
      have := Hb.out
      rw [List.take_of_length_le (by omega)] at this
      rw [this]; rfl
theorem containsI {l : List Cd} {xs : List Int} {A B : Option Addr} {c d p n : Nat} {S T : Nat → Prop} (w : World) (hw : WidOk w) (h : Sl cdE S w A c l) (hp : w.cell? ⟨p, 0, none⟩ = some (.slice A l.length c)) (k : Sl .i64 T w B d xs) (hx : ∀ x ∈ xs, 0 ≤ x ∧ x ≤ 3) (hn : xs.length = n) :
    Calls Tryz.prog 103 #[.slice B n d, .func (.func 104) #[] #[.pointer (some ⟨p, 0, none⟩)]] w fun e w' => e = .returned (.bool (xs.any (emptyB l))) ∧ Below w.heap.size w w' := by
  subst hn
  have H := Lib.hid h
  have HW := Lib.hid hw
  have K := Lib.hid k
  have HX := Lib.hid hx
  have HP := Lib.hid hp
  clear h hw k hx hp
  go_enter Tryz.func103, Tryz.ntmps103
  go_wp2_with (go_at_call 116; refine (indexI _ HW.out H.out HP.out K.out HX.out).mono ?_; rintro e w2 ⟨z, rfl, hz, hb2⟩)
  go_ret
  exact ⟨rfl, hb2⟩
theorem satP {l : List Cd} {A : Option Addr} {c : Nat} {S : Nat → Prop} (w : World) (hw : WidOk w) (h : Sl cdE S w A c l) :
    Calls Tryz.prog 87 #[.slice A l.length c] w fun e w' => e = .returned (.bool (satB l)) ∧ Below w.heap.size w w' := by
  have H := Lib.hid h
  have HW := Lib.hid hw
  clear h hw
  have hB : Below w.heap.size w ((w.alloc (.cells #[.slice A l.length c] 55)).alloc (.cells #[.int .i64 0, .int .i64 1, .int .i64 2, .int .i64 3] 3)) := (by repeat' (first | with_reducible exact Below.refl _ _ | with_reducible assumption | with_reducible refine Below.setCell ?_ ?_ _ | with_reducible refine Below.drew ?_ | with_reducible refine below_drewN ?_ _ | with_reducible refine Below.alloc ?_ ?_ _ | (rintro _ ⟨⟩; simp <;> omega) | omega | (simp <;> omega)))
  have hp : (((w.alloc (.cells #[.slice A l.length c] 55)).alloc (.cells #[.int .i64 0, .int .i64 1, .int .i64 2, .int .i64 3] 3))).cell? ⟨w.heap.size, 0, none⟩ = some (.slice A l.length c) := cell_of_row _ _ 0 _ _ _ ((Below.heap_alloc _ _ _ (by simp)).trans (heap_alloc_at rfl))
  have HP := Lib.hid hp
  have HB := Lib.hid hB
  have hk : Sl .i64 (fun _ => True) ((w.alloc (.cells #[.slice A l.length c] 55)).alloc (.cells #[.int .i64 0, .int .i64 1, .int .i64 2, .int .i64 3] 3)) (some ⟨w.heap.size + 1, 0, none⟩) 4 [0, 1, 2, 3] :=
    Sl.litAt (S := fun _ => True) (cs := [.int .i64 0, .int .i64 1, .int .i64 2, .int .i64 3]) (xs := [0, 1, 2, 3]) (by simp) ⟨[_], _, rfl, rfl, [_], _, rfl, rfl, [_], _, rfl, rfl, [_], _, rfl, rfl, rfl⟩ (by unfold maxLen; simp) (fun _ _ _ => trivial) trivial
  have HK := Lib.hid hk
  clear hp hB hk
  go_enter Tryz.func87, Tryz.ntmps87
  go_wp2_with (go_at_call 103; refine (containsI (l := l) (xs := [0, 1, 2, 3]) _ (HW.out.keep HB.out) (H.out.keep (Below.agree HB.out)) HP.out HK.out (by simp) rfl).mono ?_; rintro e w2 ⟨rfl, hb2⟩)
  go_ret
  exact ⟨ret_b (by rw [satB_any]; simp), HB.out.trans (hb2.mono HB.out.size)⟩
end Go.Proofs.YtagadbdbbglddaaGreatDoor
