/-
  Texts of this claim, merged: RdF, Rd1, Rd2, Rd3. Conditions: as each theorem says.
-/
import Derived.WalkKit
import Derived.WalkLawsBesides
import Derived.Test.YtpdblgchfkcgpaaRows
import Derived.WalkSpells
import Derived.Deep.RegionHeld3
import Derived.Deep.RegionLaw
import Derived.BigQuiet
import Derived.Deep.QuietTactic
import Derived.StillTailTactics
import Derived.Outline
import Derived.Laws.EntriesVeiled
import Derived.Deep.LoopGhost
import Derived.Test.YtpdblgchfkcgpaaV1
set_option linter.unusedSimpArgs false
set_option linter.unusedVariables false
namespace Go.Proofs.Ytpdblgchfkcgpaa
open Go.RowKit

theorem Own.grownNew {α : Type} {E : Enc α} {S : Nat → Prop} {w w' : World} {base g : Nat} {e : TypeId} {v : Value} {xs : List α} {o : Obj} (h : Own E S w base e v xs) (hg : (w.alloc o).grownBy w' (some g)) (hgw : w.heap.size ≤ g) (hS : ¬ S g) : Own E S w' base e v xs :=
  (h.alloc o).grown hg (.inr (fun e => by have := (h.lt g e).2; omega)) (by rintro _ ⟨⟩; exact hS)
theorem Sl.alloc_ {α : Type} {E : Enc α} {S : Nat → Prop} {w : World} {A : Option Addr} {c : Nat} {xs : List α} (h : Sl E S w A c xs) (o : Obj) : Sl E S (w.alloc o) A c xs := h.keep ((Agree.refl _ _).alloc _)
theorem Sl.call_ {α : Type} {E : Enc α} {S : Nat → Prop} {w w' : World} {A : Option Addr} {c : Nat} {xs : List α} (h : Sl E S w A c xs) (hb : Below w.heap.size w w') : Sl E S w' A c xs := h.keep (Below.agree hb)
/-- Readings that hold no addresses. -/
def Enc.Flat {α : Type} (E : Enc α) : Prop := ∀ {S T : Nat → Prop} {w w' : World} {cs : List Value} {x : α}, E.rep S w cs x → E.rep T w' cs x
theorem Elems.flat {α : Type} {E : Enc α} (hE : E.Flat) {S T : Nat → Prop} {w w' : World} : ∀ {l : List α} {cs : List Value}, Elems E S w cs l → Elems E T w' cs l
  | [], _, h => h
  | _ :: _, _, ⟨c, d, e, h1, h2⟩ => ⟨c, d, e, hE h1, h2.flat hE⟩
theorem Own.flat {α : Type} {E : Enc α} (hE : E.Flat) {S T : Nat → Prop} {w : World} {base : Nat} {e : TypeId} {v : Value} {xs : List α} (h : Own E S w base e v xs) : Own E T w base e v xs := by
  obtain ⟨cs, hown, hel⟩ := h
  exact ⟨cs, hown, hel.flat hE⟩
theorem Own.flatSl {α : Type} {E : Enc α} (hE : E.Flat) {S T : Nat → Prop} {w : World} {base n c : Nat} {e : TypeId} {A : Option Addr} {xs : List α} (h : Own E S w base e (.slice A n c) xs) (hT : ∀ b, base ≤ b → T b) : Sl E T w A c xs :=
  (h.flat hE (T := fun _ => False)).toSl (fun _ h _ => h.elim) (fun b hb _ _ => hT b hb)

structure Rd where
  who : Int
  whn : Int
  knd : Int
  val : Int
structure Str where
  l : List Rd
  g : List Bool
structure ROp where
  b0 : UInt8
  b1 : UInt8
  b2 : UInt8
  back : Bool

theorem Rd.ext_ {a b : Rd} (h1 : a.who = b.who) (h2 : a.whn = b.whn) (h3 : a.knd = b.knd) (h4 : a.val = b.val) : a = b := by
  cases a; cases b; simp_all

def rdE : Enc Rd := (Enc.i64.pair (Enc.i64.pair (Enc.i64.pair Enc.i64))).via fun r => (r.who, r.whn, r.knd, r.val)
theorem rdE_open {S : Nat → Prop} {w : World} {cs : List Value} {r : Rd} (h : rdE.rep S w cs r) : cs = [.int .i64 r.who, .int .i64 r.whn, .int .i64 r.knd, .int .i64 r.val] := by
  obtain ⟨c1, d1, rfl, h1, c2, d2, rfl, h2, c3, d3, rfl, h3, h4⟩ := h
  cases h1; cases h2; cases h3; cases h4
  rfl
theorem rdE_shut {S : Nat → Prop} {w : World} {r : Rd} : rdE.rep S w [.int .i64 r.who, .int .i64 r.whn, .int .i64 r.knd, .int .i64 r.val] r :=
  ⟨[_], _, rfl, rfl, [_], _, rfl, rfl, [_], _, rfl, rfl, rfl⟩
theorem rd_at {S : Nat → Prop} {w : World} {A : Option Addr} {c i : Nat} {l : List Rd} {r : Rd} (h : Sl rdE S w A c l) (hi : l[i]? = some r) :
    ∃ b o, A = some ⟨b, o, none⟩ ∧ S b ∧ b < w.heap.size ∧ w.cell? ⟨b, o + i * 4, none⟩ = some (.int .i64 r.who) ∧ w.cell? ⟨b, o + i * 4 + 1, none⟩ = some (.int .i64 r.whn) ∧
      w.cell? ⟨b, o + i * 4 + 2, none⟩ = some (.int .i64 r.knd) ∧ w.cell? ⟨b, o + i * 4 + 3, none⟩ = some (.int .i64 r.val) := by
  obtain ⟨b, o, cs, hA, hS, hb, hr, hc⟩ := h.at' hi (by decide)
  obtain rfl := rdE_open hr
  exact ⟨b, o, hA, hS, hb, hc 0 _ rfl, hc 1 _ rfl, hc 2 _ rfl, hc 3 _ rfl⟩
theorem bool_at {S : Nat → Prop} {w : World} {A : Option Addr} {c i : Nat} {l : List Bool} {r : Bool} (h : Sl .bool S w A c l) (hi : l[i]? = some r) :
    ∃ b o, A = some ⟨b, o, none⟩ ∧ S b ∧ b < w.heap.size ∧ w.cell? ⟨b, o + i, none⟩ = some (.bool r) := by
  obtain ⟨b, o, cs, hA, hS, hb, hr, hc⟩ := h.at' hi (by decide)
  cases hr
  refine ⟨b, o, hA, hS, hb, ?_⟩
  have := hc 0 _ rfl
  simpa [Enc.bool] using this
theorem u8_at {S : Nat → Prop} {w : World} {A : Option Addr} {c i : Nat} {l : List UInt8} {r : UInt8} (h : Sl .u8 S w A c l) (hi : l[i]? = some r) :
    ∃ b o, A = some ⟨b, o, none⟩ ∧ S b ∧ b < w.heap.size ∧ w.cell? ⟨b, o + i, none⟩ = some (.int .u8 (r.toNat : Int)) := by
  obtain ⟨b, o, cs, hA, hS, hb, hr, hc⟩ := h.at' hi (by decide)
  cases hr
  refine ⟨b, o, hA, hS, hb, ?_⟩
  have := hc 0 _ rfl
  simpa [Enc.u8] using this

def Enc.u64 : Enc Int := ⟨1, fun _ _ cs x => cs = [.int .u64 x], by rintro _ _ _ _ rfl; rfl, fun h _ => h, fun h _ => h, by rintro _ _ _ _ rfl u hu; simp at hu; subst hu; rfl⟩
theorem u64_at {S : Nat → Prop} {w : World} {A : Option Addr} {c i : Nat} {l : List Int} {r : Int} (h : Sl .u64 S w A c l) (hi : l[i]? = some r) :
    ∃ b o, A = some ⟨b, o, none⟩ ∧ S b ∧ b < w.heap.size ∧ w.cell? ⟨b, o + i, none⟩ = some (.int .u64 r) := by
  obtain ⟨b, o, cs, hA, hS, hb, hr, hc⟩ := h.at' hi (by decide)
  cases hr
  refine ⟨b, o, hA, hS, hb, ?_⟩
  have := hc 0 _ rfl
  simpa [Enc.u64] using this
theorem rdE_flat : rdE.Flat := by
  intro S T w w' cs x h
  obtain rfl := rdE_open h
  exact rdE_shut
theorem bool_flat : Enc.bool.Flat := fun h => h
theorem u64_flat : Enc.u64.Flat := fun h => h
/-- Columns: slices of slices of numbers. -/
theorem col_at {S : Nat → Prop} {w : World} {A : Option Addr} {c i : Nat} {l : List (List Int)} {r : List Int} (h : Sl Enc.u64.slice S w A c l) (hi : l[i]? = some r) :
    ∃ b o B d, A = some ⟨b, o, none⟩ ∧ S b ∧ b < w.heap.size ∧ w.cell? ⟨b, o + i, none⟩ = some (.slice B r.length d) ∧ Sl .u64 S w B d r := by
  obtain ⟨b, o, cs, hA, hS, hb, hr, hc⟩ := h.at' hi (by decide)
  obtain ⟨B, d, rfl, hs⟩ := hr
  refine ⟨b, o, B, d, hA, hS, hb, ?_, hs⟩
  have := hc 0 _ rfl
  simpa [Enc.slice] using this

/-- What was there, or is new. -/
def Fresh (S : Nat → Prop) (w : World) : Nat → Prop := fun b => S b ∨ w.heap.size ≤ b

def ValidR (r : Rd) : Prop := (0 ≤ r.who ∧ r.who < 16) ∧ (0 ≤ r.knd ∧ r.knd < 16) ∧ (0 ≤ r.whn ∧ r.whn < 256) ∧ (0 ≤ r.val ∧ r.val < 256)
instance (r : Rd) : Decidable (ValidR r) := by unfold ValidR; infer_instance
def validB (r : Rd) : Bool := decide (ValidR r)
def emptyStr : Str := ⟨[], []⟩
def zeroRd : Rd := ⟨0, 0, 0, 0⟩
def takeF (s : Str) (r : Rd) : Str × Int := if validB r then (if 65536 ≤ s.l.length then (emptyStr, 2) else (⟨s.l ++ [r], s.g ++ [false]⟩, 0)) else (emptyStr, 1)
def retractF (s : Str) (i : Int) : Str × Int :=
  if i < 0 ∨ (s.l.length : Int) ≤ i then (emptyStr, 4) else if s.g.getD i.toNat false then (emptyStr, 120) else (⟨s.l, s.g.set i.toNat true⟩, 0)
def liveF (s : Str) : List Rd := ((s.l.zip s.g).filter fun p => !p.2).map (·.1)
/-- The number of an error of a stream with a capacity. -/
def checkF (n : Nat) (log : Int) : Int := if log < 0 ∨ 16 < log then 1 else if 2 ^ log.toNat < n then 2 else 0
def fieldF (r : Rd) (c : Nat) : Int := if c = 0 then r.who else if c = 1 then r.whn else if c = 2 then r.knd else r.val
def widthF (c : Nat) : Nat := if c = 0 ∨ c = 2 then 4 else 8
def padF (n : Nat) (l : List Int) : List Int := l ++ List.replicate (n - l.length) 0
def colF (s : Str) (log : Int) (c : Nat) : List Int := padF (2 ^ log.toNat) (s.l.map fun r => fieldF r c)
def liveColF (s : Str) (log : Int) : List Int := padF (2 ^ log.toNat) (s.g.map fun g => if g then 0 else 1)
def columnsF (s : Str) (log : Int) : List (List Int) := [colF s log 0, colF s log 1, colF s log 2, colF s log 3, liveColF s log]
def bitF (x : Int) (k : Nat) : Int := x / 2 ^ k % 2
def bitColF (s : Str) (log : Int) (c k : Nat) : List Int := padF (2 ^ log.toNat) (s.l.map fun r => bitF (fieldF r c) k)
def bitsOfF (s : Str) (log : Int) (c : Nat) : List (List Int) := (List.range (widthF c)).map fun k => bitColF s log c k
def bitsF (s : Str) (log : Int) : List (List Int) := bitsOfF s log 0 ++ bitsOfF s log 1 ++ bitsOfF s log 2 ++ bitsOfF s log 3
def rdOf (b0 b1 b2 : UInt8) : Rd := ⟨(b0.toNat % 16 : Nat), (b1.toNat : Nat), (b0.toNat / 16 : Nat), (b2.toNat : Nat)⟩
def byteF (x : Int) : UInt8 := UInt8.ofNat (x % 256).toNat
def encodeF (r : Rd) : List UInt8 := [byteF (r.who + 16 * r.knd), byteF r.whn, byteF r.val]
def stepM (most : Nat) (s : Str) (o : ROp) : Str :=
  if o.back ∧ 0 < s.l.length then (if (retractF s ((o.b0.toNat % s.l.length : Nat) : Int)).2 = 0 then (retractF s ((o.b0.toNat % s.l.length : Nat) : Int)).1 else s)
  else if ¬ o.back ∧ s.l.length < most then (takeF s (rdOf o.b0 o.b1 o.b2)).1 else s
def madeF (most : Nat) (l : List ROp) : Str := l.foldl (stepM most) emptyStr

theorem rdOf_valid (a b c : UInt8) : ValidR (rdOf a b c) := by
  have h1 := a.toNat_lt; have h2 := b.toNat_lt; have h3 := c.toNat_lt
  unfold ValidR rdOf
  refine ⟨⟨?_, ?_⟩, ⟨?_, ?_⟩, ⟨?_, ?_⟩, ⟨?_, ?_⟩⟩ <;> simp only <;> omega

/-- A stream as it comes out of operations. -/
structure OkStr (s : Str) : Prop where
  len : s.g.length = s.l.length
  valid : ∀ r ∈ s.l, ValidR r
theorem okEmpty : OkStr emptyStr := ⟨rfl, by simp [emptyStr]⟩
theorem OkStr.take {s : Str} (h : OkStr s) (r : Rd) : OkStr (takeF s r).1 := by
  unfold takeF
  by_cases hv : validB r
  · rw [if_pos hv]
    split
    · exact okEmpty
    · refine ⟨by simp [h.len], fun x hx => ?_⟩
      rcases List.mem_append.1 hx with hx | hx
      · exact h.valid x hx
      · simp at hx; subst hx; simpa [validB] using hv
  · rw [if_neg hv]; exact okEmpty
theorem OkStr.retract {s : Str} (h : OkStr s) (i : Int) : OkStr (retractF s i).1 := by
  unfold retractF
  split
  · exact okEmpty
  · split
    · exact okEmpty
    · exact ⟨by simp [h.len], h.valid⟩
theorem retractF_len {s : Str} {i : Int} (h : (retractF s i).2 = 0) : (retractF s i).1.l = s.l := by
  unfold retractF at h ⊢
  split at h
  · simp at h
  · split at h
    · simp at h
    · rename_i h1 h2
      rw [if_neg h1, if_neg h2]
theorem stepM_ok {most : Nat} {s : Str} (h : OkStr s) (hl : s.l.length ≤ most) (o : ROp) : OkStr (stepM most s o) ∧ (stepM most s o).l.length ≤ most := by
  unfold stepM
  split
  · split
    · rename_i h1 h2
      exact ⟨h.retract _, by rw [retractF_len h2]; exact hl⟩
    · exact ⟨h, hl⟩
  · split
    · rename_i h1 h2
      refine ⟨h.take _, ?_⟩
      unfold takeF
      have hv : validB (rdOf o.b0 o.b1 o.b2) = true := by simpa [validB] using rdOf_valid _ _ _
      rw [if_pos hv]
      split
      · simp [emptyStr]
      · simp; omega
    · exact ⟨h, hl⟩
theorem madeF_ok (most : Nat) (l : List ROp) : OkStr (madeF most l) ∧ (madeF most l).l.length ≤ most := by
  have gen : ∀ (l : List ROp) (s : Str), OkStr s → s.l.length ≤ most → OkStr (l.foldl (stepM most) s) ∧ (l.foldl (stepM most) s).l.length ≤ most := by
    intro l
    induction l with
    | nil => intro s h hl; exact ⟨h, hl⟩
    | cons o l ih => intro s h hl; exact ih _ (stepM_ok h hl o).1 (stepM_ok h hl o).2
  exact gen l _ okEmpty (Nat.zero_le _)
theorem take_snocR {α : Type} {l : List α} {k : Nat} {x : α} (h : l[k]? = some x) : l.take (k + 1) = l.take k ++ [x] := by
  rw [List.take_add_one, h]; rfl
theorem madeF_take {most : Nat} {l : List ROp} {k : Nat} {o : ROp} (h : l[k]? = some o) : madeF most (l.take (k + 1)) = stepM most (madeF most (l.take k)) o := by
  rw [take_snocR h]; simp [madeF]
end Go.Proofs.Ytpdblgchfkcgpaa
namespace Go.Proofs.Ytpdblgchfkcgpaa
open Go.RowKit

theorem rdsT : SlT Try.prog 25 47 rdE 32 := ⟨Try.underlying25, by kernel_rfl, by decide⟩
theorem boolsT : SlT Try.prog 26 4 Enc.bool 1 := ⟨Try.underlying26, by kernel_rfl, by decide⟩
theorem colsT : SlT Try.prog 30 34 Enc.u64.slice 24 := ⟨Try.underlying30, by kernel_rfl, by decide⟩

theorem ret_int {k : IntKind} {a b : Int} (h : a = b) : Ending.returned (.int k a) = .returned (.int k b) := by rw [h]
theorem ret_bool {a b : Bool} (h : a = b) : Ending.returned (.bool a) = .returned (.bool b) := by rw [h]
theorem valid_true {r : Rd} (h : ValidR r) : true = validB r := by simp [validB, h]
theorem valid_false {r : Rd} (h : ¬ ValidR r) : false = validB r := by simp [validB, h]
theorem clipR (n c : Nat) (A : Option Addr) (w : World) (h : n ≤ c) : Calls Try.prog 41 #[.slice A n c] w fun e w' => e = .returned (.slice A n n) ∧ w = w' := by
  go_enter Try.func41, Try.ntmps41
  go_wp2_with fail
  go_ret
  exact ⟨rfl, rfl⟩
theorem clipBool (n c : Nat) (A : Option Addr) (w : World) (h : n ≤ c) : Calls Try.prog 42 #[.slice A n c] w fun e w' => e = .returned (.slice A n n) ∧ w = w' := by
  go_enter Try.func42, Try.ntmps42
  go_wp2_with fail
  go_ret
  exact ⟨rfl, rfl⟩

theorem fieldsP (w : World) : Calls Try.prog 26 #[] w fun e w' =>
    e = .returned (.agg #[.func (.func 48) #[] #[], .int .i64 4, .func (.func 49) #[] #[], .int .i64 8, .func (.func 50) #[] #[], .int .i64 4, .func (.func 51) #[] #[], .int .i64 8]) ∧ Below w.heap.size w w' := by
  go_enter Try.func26, Try.ntmps26
  go_wp2_with fail
  exact bodyPost_ret (v := .agg #[.func (.func 48) #[] #[], .int .i64 4, .func (.func 49) #[] #[], .int .i64 8, .func (.func 50) #[] #[], .int .i64 4, .func (.func 51) #[] #[], .int .i64 8]) (by simp [results, Try.results26, go_sem]) rfl ⟨rfl, (by repeat' (first | with_reducible exact Below.refl _ _ | with_reducible assumption | with_reducible refine Below.setCell ?_ ?_ _ | with_reducible refine Below.drew ?_ | with_reducible refine below_drewN ?_ _ | with_reducible refine Below.alloc ?_ ?_ _ | (rintro _ ⟨⟩; simp <;> omega) | omega | (simp <;> omega)))⟩

theorem field1 (r : Rd) (w : World) : Calls Try.prog 48 #[.agg #[.int .i64 r.who, .int .i64 r.whn, .int .i64 r.knd, .int .i64 r.val]] w fun e w' => e = .returned (.int .i64 r.who) ∧ Below w.heap.size w w' := by
  go_enter Try.func48, Try.ntmps48
  go_wp2_with fail
  go_ret
  exact ⟨rfl, (by repeat' (first | with_reducible exact Below.refl _ _ | with_reducible assumption | with_reducible refine Below.setCell ?_ ?_ _ | with_reducible refine Below.drew ?_ | with_reducible refine below_drewN ?_ _ | with_reducible refine Below.alloc ?_ ?_ _ | (rintro _ ⟨⟩; simp <;> omega) | omega | (simp <;> omega)))⟩
theorem field2 (r : Rd) (w : World) : Calls Try.prog 49 #[.agg #[.int .i64 r.who, .int .i64 r.whn, .int .i64 r.knd, .int .i64 r.val]] w fun e w' => e = .returned (.int .i64 r.whn) ∧ Below w.heap.size w w' := by
  go_enter Try.func49, Try.ntmps49
  go_wp2_with fail
  go_ret
  exact ⟨rfl, (by repeat' (first | with_reducible exact Below.refl _ _ | with_reducible assumption | with_reducible refine Below.setCell ?_ ?_ _ | with_reducible refine Below.drew ?_ | with_reducible refine below_drewN ?_ _ | with_reducible refine Below.alloc ?_ ?_ _ | (rintro _ ⟨⟩; simp <;> omega) | omega | (simp <;> omega)))⟩
theorem field3 (r : Rd) (w : World) : Calls Try.prog 50 #[.agg #[.int .i64 r.who, .int .i64 r.whn, .int .i64 r.knd, .int .i64 r.val]] w fun e w' => e = .returned (.int .i64 r.knd) ∧ Below w.heap.size w w' := by
  go_enter Try.func50, Try.ntmps50
  go_wp2_with fail
  go_ret
  exact ⟨rfl, (by repeat' (first | with_reducible exact Below.refl _ _ | with_reducible assumption | with_reducible refine Below.setCell ?_ ?_ _ | with_reducible refine Below.drew ?_ | with_reducible refine below_drewN ?_ _ | with_reducible refine Below.alloc ?_ ?_ _ | (rintro _ ⟨⟩; simp <;> omega) | omega | (simp <;> omega)))⟩
theorem field4 (r : Rd) (w : World) : Calls Try.prog 51 #[.agg #[.int .i64 r.who, .int .i64 r.whn, .int .i64 r.knd, .int .i64 r.val]] w fun e w' => e = .returned (.int .i64 r.val) ∧ Below w.heap.size w w' := by
  go_enter Try.func51, Try.ntmps51
  go_wp2_with fail
  go_ret
  exact ⟨rfl, (by repeat' (first | with_reducible exact Below.refl _ _ | with_reducible assumption | with_reducible refine Below.setCell ?_ ?_ _ | with_reducible refine Below.drew ?_ | with_reducible refine below_drewN ?_ _ | with_reducible refine Below.alloc ?_ ?_ _ | (rintro _ ⟨⟩; simp <;> omega) | omega | (simp <;> omega)))⟩

theorem validR_any (r : Rd) (w : World) : Calls Try.prog 46 #[.agg #[.int .i64 r.who, .int .i64 r.whn, .int .i64 r.knd, .int .i64 r.val]] w fun e w' => e = .returned (.bool (validB r)) ∧ Below w.heap.size w w' := by
  go_enter Try.func46, Try.ntmps46
  go_wp2_with fail
  all_goals
    go_ret
    exact ⟨by first | exact ret_bool (valid_true (by unfold ValidR; omega)) | exact ret_bool (valid_false (by unfold ValidR; omega)) | exact ret_bool (by unfold validB; exact decide_eq_decide.2 (by unfold ValidR; omega)), (by repeat' (first | with_reducible exact Below.refl _ _ | with_reducible assumption | with_reducible refine Below.setCell ?_ ?_ _ | with_reducible refine Below.drew ?_ | with_reducible refine below_drewN ?_ _ | with_reducible refine Below.alloc ?_ ?_ _ | (rintro _ ⟨⟩; simp <;> omega) | omega | (simp <;> omega)))⟩

theorem or_nib (a b : Int) (h1 : 0 ≤ a) (h2 : a < 16) (h3 : 0 ≤ b) (h4 : b < 16) : bits BinOp.or IntKind.i64 a (b * 16) % 256 = a + 16 * b := by
  have h : ∀ x : Fin 16, ∀ y : Fin 16, bits BinOp.or IntKind.i64 (x.1 : Int) ((y.1 : Int) * 16) % 256 = (x.1 : Int) + 16 * (y.1 : Int) := by decide +kernel
  have := h ⟨a.toNat, by omega⟩ ⟨b.toNat, by omega⟩
  simpa [Int.toNat_of_nonneg h1, Int.toNat_of_nonneg h3] using this
theorem encodeP (r : Rd) (w : World) (h : ValidR r) : Calls Try.prog 14 #[.agg #[.int .i64 r.who, .int .i64 r.whn, .int .i64 r.knd, .int .i64 r.val]] w fun e w' =>
    ∃ A c, e = .returned (.slice A 3 c) ∧ Sl .u8 (Fresh (fun _ => False) w) w' A c (encodeF r) ∧ Below w.heap.size w w' := by
  obtain ⟨⟨h1, h2⟩, ⟨h3, h4⟩, ⟨h5, h6⟩, h7, h8⟩ := h
  go_enter Try.func14, Try.ntmps14
  go_wp2_with fail
  go_ret
  refine ⟨_, _, rfl, ?_, (by repeat' (first | with_reducible exact Below.refl _ _ | with_reducible assumption | with_reducible refine Below.setCell ?_ ?_ _ | with_reducible refine Below.drew ?_ | with_reducible refine below_drewN ?_ _ | with_reducible refine Below.alloc ?_ ?_ _ | (rintro _ ⟨⟩; simp <;> omega) | omega | (simp <;> omega)))⟩
  have e : ∀ x, 0 ≤ x → x < 256 → ((byteF x).toNat : Int) = x := by intro x h h'; unfold byteF; simp; omega
  have h := u8_elems (S := fun _ => False) (w := w.alloc (.cells #[.int .i64 r.who, .int .i64 r.whn, .int .i64 r.knd, .int .i64 r.val] 47)) (encodeF r)
  simp only [encodeF, List.map_cons, List.map_nil, e (r.who + 16 * r.knd) (by omega) (by omega), e r.whn h5 h6, e r.val h7 h8] at h
  have ho : bits BinOp.or IntKind.i64 r.who (r.knd * 16) % 256 = r.who + 16 * r.knd := or_nib r.who r.knd h1 h2 h3 h4
  rw [ho]
  exact Sl.litAt (by simp) h (by unfold maxLen; simp [encodeF]) (fun _ h _ => h.elim) (.inr (by simp))
end Go.Proofs.Ytpdblgchfkcgpaa
namespace Go.Proofs.Ytpdblgchfkcgpaa
open Go.RowKit

/-- The first k fields, in the order of the columns, are in range. -/
def PreV (r : Rd) (k : Nat) : Prop := (0 < k → 0 ≤ r.who ∧ r.who < 16) ∧ (1 < k → 0 ≤ r.whn ∧ r.whn < 256) ∧ (2 < k → 0 ≤ r.knd ∧ r.knd < 16) ∧ (3 < k → 0 ≤ r.val ∧ r.val < 256)

theorem rd_box {r : Rd} {w wr : World} {t : TypeId} (hb : Below (w.heap.size + 1) (w.alloc (.cells #[.int .i64 r.who, .int .i64 r.whn, .int .i64 r.knd, .int .i64 r.val] t)) wr) :
    wr.cell? ⟨w.heap.size, 0, none⟩ = some (.int .i64 r.who) ∧ wr.cell? ⟨w.heap.size, 1, none⟩ = some (.int .i64 r.whn) ∧ wr.cell? ⟨w.heap.size, 2, none⟩ = some (.int .i64 r.knd) ∧ wr.cell? ⟨w.heap.size, 3, none⟩ = some (.int .i64 r.val) := by
  have h := (hb.block w.heap.size (by omega)).trans (heap_alloc_at rfl)
  exact ⟨cell_of_row _ _ 0 _ _ _ h, cell_of_row _ _ 1 _ _ _ h, cell_of_row _ _ 2 _ _ _ h, cell_of_row _ _ 3 _ _ _ h⟩

set_option maxRecDepth 100000 in
set_option maxHeartbeats 1000000 in
theorem validP_any (r : Rd) (w : World) : Calls Try.prog 21 #[.agg #[.int .i64 r.who, .int .i64 r.whn, .int .i64 r.knd, .int .i64 r.val]] w fun e w' => e = .returned (.bool (validB r)) ∧ Below w.heap.size w w' := by
  have ix0 : ∀ w, (Instr.index 65 (.agg #[.func (.func 48) #[] #[], .int .i64 4, .func (.func 49) #[] #[], .int .i64 8, .func (.func 50) #[] #[], .int .i64 4, .func (.func 51) #[] #[], .int .i64 8]) (.int .i64 0)).run Try.prog w = .ok (.agg #[.func (.func 48) #[] #[], .int .i64 4]) w := fun _ => by kernel_rfl
  have ix1 : ∀ w, (Instr.index 65 (.agg #[.func (.func 48) #[] #[], .int .i64 4, .func (.func 49) #[] #[], .int .i64 8, .func (.func 50) #[] #[], .int .i64 4, .func (.func 51) #[] #[], .int .i64 8]) (.int .i64 1)).run Try.prog w = .ok (.agg #[.func (.func 49) #[] #[], .int .i64 8]) w := fun _ => by kernel_rfl
  have ix2 : ∀ w, (Instr.index 65 (.agg #[.func (.func 48) #[] #[], .int .i64 4, .func (.func 49) #[] #[], .int .i64 8, .func (.func 50) #[] #[], .int .i64 4, .func (.func 51) #[] #[], .int .i64 8]) (.int .i64 2)).run Try.prog w = .ok (.agg #[.func (.func 50) #[] #[], .int .i64 4]) w := fun _ => by kernel_rfl
  have ix3 : ∀ w, (Instr.index 65 (.agg #[.func (.func 48) #[] #[], .int .i64 4, .func (.func 49) #[] #[], .int .i64 8, .func (.func 50) #[] #[], .int .i64 4, .func (.func 51) #[] #[], .int .i64 8]) (.int .i64 3)).run Try.prog w = .ok (.agg #[.func (.func 51) #[] #[], .int .i64 8]) w := fun _ => by kernel_rfl
  go_enter Try.func21, Try.ntmps21
  go_wp2_with (go_at_call 26; refine (fieldsP _).mono ?_; rintro e w1 ⟨rfl, hb1⟩)
  have hz1 : w.heap.size + 1 ≤ w1.heap.size := by have := hb1.size; simpa using this
  have hB1 : Hid (Below (w.heap.size + 1) (w.alloc (.cells #[.int .i64 r.who, .int .i64 r.whn, .int .i64 r.knd, .int .i64 r.val] 47)) w1) := Lib.hid (by simpa using hb1)
  clear hb1
  go_loopw [7] (fun i wr => ∃ k : Nat, k ≤ 4 ∧ i = .int .i64 k ∧ PreV r k ∧ Below (w.heap.size + 1) (w.alloc (.cells #[.int .i64 r.who, .int .i64 r.whn, .int .i64 r.knd, .int .i64 r.val] 47)) wr) (fun i _ => 4 - (intOf i).toNat)
  case atStart => exact ⟨0, by omega, rfl, ⟨by omega, by omega, by omega, by omega⟩, hB1.out⟩
  case round =>
    obtain ⟨k, hk, rfl, hp, hb⟩ := hrel
    have hz := hb.size
    simp at hz
    obtain ⟨c0, c1, c2, c3⟩ := rd_box hb
    have hlt : w.heap.size < wr.heap.size := by omega
    have hne : w.heap.size ≠ wr.heap.size := by omega
    rcases (by omega : k = 0 ∨ k = 1 ∨ k = 2 ∨ k = 3 ∨ k = 4) with rfl | rfl | rfl | rfl | rfl
    · have hb' := Lib.hid hb
      have hp' := Lib.hid hp
      clear hb hp
      by_cases h1 : 0 ≤ r.who
      · by_cases h2 : r.who < 16
        · go_wp2_with (go_at_call 48; refine (field1 r _).mono ?_; rintro e w2 ⟨rfl, hb2⟩; obtain ⟨hc2, hf2⟩ := bcellk (k := wr.heap.size + 1) hb2 (by simp))
          go_roundw
          case rel =>
            have hp := hp'.out
            have hb := hb'.out
            refine ⟨1, by omega, rfl, ?_, ((hb.alloc (by omega) _).trans (hb2.mono (by simp; omega)))⟩
            unfold PreV at hp ⊢
            omega
          case measure => simp [intOf]
        · have h3 : 16 ≤ r.who := by omega
          go_wp2_with (go_at_call 48; refine (field1 r _).mono ?_; rintro e w2 ⟨rfl, hb2⟩; obtain ⟨hc2, hf2⟩ := bcellk (k := wr.heap.size + 1) hb2 (by simp))
          go_ret
          have hb := hb'.out
          exact ⟨ret_bool (valid_false (by unfold ValidR; omega)), (((Below.refl _ _).alloc (Nat.le_refl _) _).trans (hb.mono (by omega))).alloc (by omega) _ |>.trans (hb2.mono (by simp; omega))⟩
      · have h3 : r.who < 0 := by omega
        go_wp2_with (go_at_call 48; refine (field1 r _).mono ?_; rintro e w2 ⟨rfl, hb2⟩; obtain ⟨hc2, hf2⟩ := bcellk (k := wr.heap.size + 1) hb2 (by simp))
        go_ret
        have hb := hb'.out
        exact ⟨ret_bool (valid_false (by unfold ValidR; omega)), (((Below.refl _ _).alloc (Nat.le_refl _) _).trans (hb.mono (by omega))).alloc (by omega) _ |>.trans (hb2.mono (by simp; omega))⟩
    · have hb' := Lib.hid hb
      have hp' := Lib.hid hp
      clear hb hp
      by_cases h1 : 0 ≤ r.whn
      · by_cases h2 : r.whn < 256
        · go_wp2_with (go_at_call 49; refine (field2 r _).mono ?_; rintro e w2 ⟨rfl, hb2⟩; obtain ⟨hc2, hf2⟩ := bcellk (k := wr.heap.size + 1) hb2 (by simp))
          go_roundw
          case rel =>
            have hp := hp'.out
            have hb := hb'.out
            refine ⟨2, by omega, rfl, ?_, ((hb.alloc (by omega) _).trans (hb2.mono (by simp; omega)))⟩
            unfold PreV at hp ⊢
            omega
          case measure => simp [intOf]
        · have h3 : 256 ≤ r.whn := by omega
          go_wp2_with (go_at_call 49; refine (field2 r _).mono ?_; rintro e w2 ⟨rfl, hb2⟩; obtain ⟨hc2, hf2⟩ := bcellk (k := wr.heap.size + 1) hb2 (by simp))
          go_ret
          have hb := hb'.out
          exact ⟨ret_bool (valid_false (by unfold ValidR; omega)), (((Below.refl _ _).alloc (Nat.le_refl _) _).trans (hb.mono (by omega))).alloc (by omega) _ |>.trans (hb2.mono (by simp; omega))⟩
      · have h3 : r.whn < 0 := by omega
        go_wp2_with (go_at_call 49; refine (field2 r _).mono ?_; rintro e w2 ⟨rfl, hb2⟩; obtain ⟨hc2, hf2⟩ := bcellk (k := wr.heap.size + 1) hb2 (by simp))
        go_ret
        have hb := hb'.out
        exact ⟨ret_bool (valid_false (by unfold ValidR; omega)), (((Below.refl _ _).alloc (Nat.le_refl _) _).trans (hb.mono (by omega))).alloc (by omega) _ |>.trans (hb2.mono (by simp; omega))⟩
    · have hb' := Lib.hid hb
      have hp' := Lib.hid hp
      clear hb hp
      by_cases h1 : 0 ≤ r.knd
      · by_cases h2 : r.knd < 16
        · go_wp2_with (go_at_call 50; refine (field3 r _).mono ?_; rintro e w2 ⟨rfl, hb2⟩; obtain ⟨hc2, hf2⟩ := bcellk (k := wr.heap.size + 1) hb2 (by simp))
          go_roundw
          case rel =>
            have hp := hp'.out
            have hb := hb'.out
            refine ⟨3, by omega, rfl, ?_, ((hb.alloc (by omega) _).trans (hb2.mono (by simp; omega)))⟩
            unfold PreV at hp ⊢
            omega
          case measure => simp [intOf]
        · have h3 : 16 ≤ r.knd := by omega
          go_wp2_with (go_at_call 50; refine (field3 r _).mono ?_; rintro e w2 ⟨rfl, hb2⟩; obtain ⟨hc2, hf2⟩ := bcellk (k := wr.heap.size + 1) hb2 (by simp))
          go_ret
          have hb := hb'.out
          exact ⟨ret_bool (valid_false (by unfold ValidR; omega)), (((Below.refl _ _).alloc (Nat.le_refl _) _).trans (hb.mono (by omega))).alloc (by omega) _ |>.trans (hb2.mono (by simp; omega))⟩
      · have h3 : r.knd < 0 := by omega
        go_wp2_with (go_at_call 50; refine (field3 r _).mono ?_; rintro e w2 ⟨rfl, hb2⟩; obtain ⟨hc2, hf2⟩ := bcellk (k := wr.heap.size + 1) hb2 (by simp))
        go_ret
        have hb := hb'.out
        exact ⟨ret_bool (valid_false (by unfold ValidR; omega)), (((Below.refl _ _).alloc (Nat.le_refl _) _).trans (hb.mono (by omega))).alloc (by omega) _ |>.trans (hb2.mono (by simp; omega))⟩
    · have hb' := Lib.hid hb
      have hp' := Lib.hid hp
      clear hb hp
      by_cases h1 : 0 ≤ r.val
      · by_cases h2 : r.val < 256
        · go_wp2_with (go_at_call 51; refine (field4 r _).mono ?_; rintro e w2 ⟨rfl, hb2⟩; obtain ⟨hc2, hf2⟩ := bcellk (k := wr.heap.size + 1) hb2 (by simp))
          go_roundw
          case rel =>
            have hp := hp'.out
            have hb := hb'.out
            refine ⟨4, by omega, rfl, ?_, ((hb.alloc (by omega) _).trans (hb2.mono (by simp; omega)))⟩
            unfold PreV at hp ⊢
            omega
          case measure => simp [intOf]
        · have h3 : 256 ≤ r.val := by omega
          go_wp2_with (go_at_call 51; refine (field4 r _).mono ?_; rintro e w2 ⟨rfl, hb2⟩; obtain ⟨hc2, hf2⟩ := bcellk (k := wr.heap.size + 1) hb2 (by simp))
          go_ret
          have hb := hb'.out
          exact ⟨ret_bool (valid_false (by unfold ValidR; omega)), (((Below.refl _ _).alloc (Nat.le_refl _) _).trans (hb.mono (by omega))).alloc (by omega) _ |>.trans (hb2.mono (by simp; omega))⟩
      · have h3 : r.val < 0 := by omega
        go_wp2_with (go_at_call 51; refine (field4 r _).mono ?_; rintro e w2 ⟨rfl, hb2⟩; obtain ⟨hc2, hf2⟩ := bcellk (k := wr.heap.size + 1) hb2 (by simp))
        go_ret
        have hb := hb'.out
        exact ⟨ret_bool (valid_false (by unfold ValidR; omega)), (((Below.refl _ _).alloc (Nat.le_refl _) _).trans (hb.mono (by omega))).alloc (by omega) _ |>.trans (hb2.mono (by simp; omega))⟩
    · have hb' := Lib.hid hb
      have hp' := Lib.hid hp
      clear hb hp
      go_wp2_with fail
      go_ret
      have hb := hb'.out
      have hp := hp'.out
      exact ⟨ret_bool (valid_true (by unfold PreV at hp; unfold ValidR; omega)), ((Below.refl _ _).alloc (Nat.le_refl _) _).trans (hb.mono (by omega))⟩
end Go.Proofs.Ytpdblgchfkcgpaa
namespace Go.Proofs.Ytpdblgchfkcgpaa
open Go.RowKit

theorem byte_words (a b d : UInt8) : (IntKind.i64.wrap (bits BinOp.and IntKind.u8 (a.toNat : Int) 15) = (a.toNat : Int) % 16 ∧ IntKind.i64.wrap (b.toNat : Int) = (b.toNat : Int) ∧ IntKind.i64.wrap ((a.toNat : Int) / 16) = (a.toNat : Int) / 16 ∧ IntKind.i64.wrap (d.toNat : Int) = (d.toNat : Int)) ∧
    (IntKind.i64.wrap ((a.toNat : Int).tmod 16) = (a.toNat : Int) % 16 ∧ IntKind.i64.wrap (b.toNat : Int) = (b.toNat : Int) ∧ IntKind.i64.wrap (IntKind.u8.wrap ((a.toNat : Int) / 16)) = (a.toNat : Int) / 16 ∧ IntKind.i64.wrap (d.toNat : Int) = (d.toNat : Int)) := by
  have h1 : ∀ x : Fin 256, IntKind.i64.wrap (bits BinOp.and IntKind.u8 (x.1 : Int) 15) = (x.1 : Int) % 16 ∧ IntKind.i64.wrap (x.1 : Int) = (x.1 : Int) ∧ IntKind.i64.wrap ((x.1 : Int) / 16) = (x.1 : Int) / 16 ∧ IntKind.i64.wrap ((x.1 : Int).tmod 16) = (x.1 : Int) % 16 ∧ IntKind.i64.wrap (IntKind.u8.wrap ((x.1 : Int) / 16)) = (x.1 : Int) / 16 := by decide +kernel
  have ha := h1 ⟨a.toNat, a.toNat_lt⟩
  have hb := h1 ⟨b.toNat, b.toNat_lt⟩
  have hd := h1 ⟨d.toNat, d.toNat_lt⟩
  exact ⟨⟨ha.1, hb.2.1, ha.2.2.1, hd.2.1⟩, ha.2.2.2.1, hb.2.1, ha.2.2.2.2, hd.2.1⟩

set_option maxHeartbeats 400000 in
theorem decodeP {S : Nat → Prop} {A : Option Addr} {c : Nat} (a b d : UInt8) (w : World) (h : Sl .u8 S w A c [a, b, d]) :
    Calls Try.prog 15 #[.slice A 3 c] w fun e w' => e = .returned (.tuple #[.agg #[.int .i64 (rdOf a b d).who, .int .i64 (rdOf a b d).whn, .int .i64 (rdOf a b d).knd, .int .i64 (rdOf a b d).val], .int .i64 0]) ∧ Below w.heap.size w w' := by
  obtain ⟨b1, o1, rfl, -, hb1, x0⟩ := u8_at h (i := 0) rfl
  obtain ⟨_, _, e1, -, -, x1⟩ := u8_at h (i := 1) rfl
  obtain ⟨_, _, e2, -, -, x2⟩ := u8_at h (i := 2) rfl
  cases e1; cases e2
  have hl := h.le
  have hm := h.capMax
  simp only [Nat.add_zero] at x0
  simp at hl
  go_enter Try.func15, Try.ntmps15
  go_wp2_with fail
  go_region_held3 (fun X => X.cell? ⟨b1, o1, none⟩ = some (.int .u8 (a.toNat : Int)) ∧ X.cell? ⟨b1, o1 + 1, none⟩ = some (.int .u8 (b.toNat : Int)) ∧ X.cell? ⟨b1, o1 + 2, none⟩ = some (.int .u8 (d.toNat : Int))) (go_keep) (fail)
  go_wp2_with fail
  exact bodyPost_ret (v := .tuple #[.agg #[.int .i64 ((a.toNat % 16 : Nat) : Int), .int .i64 (b.toNat : Int), .int .i64 ((a.toNat / 16 : Nat) : Int), .int .i64 (d.toNat : Int)], .int .i64 0]) (by simp [results, Try.results15, go_sem]; exact (byte_words a b d).1) rfl ⟨rfl, (by repeat' (first | with_reducible exact Below.refl _ _ | with_reducible assumption | with_reducible refine Below.setCell ?_ ?_ _ | with_reducible refine Below.drew ?_ | with_reducible refine below_drewN ?_ _ | with_reducible refine Below.alloc ?_ ?_ _ | (rintro _ ⟨⟩; simp <;> omega) | omega | (simp <;> omega)))⟩
set_option maxHeartbeats 400000 in
theorem decodeR {S : Nat → Prop} {A : Option Addr} {c : Nat} (a b d : UInt8) (w : World) (h : Sl .u8 S w A c [a, b, d]) :
    Calls Try.prog 47 #[.slice A 3 c] w fun e w' => e = .returned (.tuple #[.agg #[.int .i64 (rdOf a b d).who, .int .i64 (rdOf a b d).whn, .int .i64 (rdOf a b d).knd, .int .i64 (rdOf a b d).val], .int .i64 0]) ∧ Below w.heap.size w w' := by
  obtain ⟨b1, o1, rfl, -, hb1, x0⟩ := u8_at h (i := 0) rfl
  obtain ⟨_, _, e1, -, -, x1⟩ := u8_at h (i := 1) rfl
  obtain ⟨_, _, e2, -, -, x2⟩ := u8_at h (i := 2) rfl
  cases e1; cases e2
  have hl := h.le
  have hm := h.capMax
  simp only [Nat.add_zero] at x0
  simp at hl
  go_enter Try.func47, Try.ntmps47
  go_wp2_with fail
  go_region_held3 (fun X => X.cell? ⟨b1, o1, none⟩ = some (.int .u8 (a.toNat : Int)) ∧ X.cell? ⟨b1, o1 + 1, none⟩ = some (.int .u8 (b.toNat : Int)) ∧ X.cell? ⟨b1, o1 + 2, none⟩ = some (.int .u8 (d.toNat : Int))) (go_keep) (fail)
  go_wp2_with fail
  exact bodyPost_ret (v := .tuple #[.agg #[.int .i64 ((a.toNat % 16 : Nat) : Int), .int .i64 (b.toNat : Int), .int .i64 ((a.toNat / 16 : Nat) : Int), .int .i64 (d.toNat : Int)], .int .i64 0]) (by simp [results, Try.results47, go_sem]; exact (byte_words a b d).2) rfl ⟨rfl, (by repeat' (first | with_reducible exact Below.refl _ _ | with_reducible assumption | with_reducible refine Below.setCell ?_ ?_ _ | with_reducible refine Below.drew ?_ | with_reducible refine below_drewN ?_ _ | with_reducible refine Below.alloc ?_ ?_ _ | (rintro _ ⟨⟩; simp <;> omega) | omega | (simp <;> omega)))⟩
theorem decodeP_bad {l : List UInt8} {A : Option Addr} {c : Nat} (w : World) (hl : l.length ≠ 3) :
    Calls Try.prog 15 #[.slice A l.length c] w fun e w' => e = .returned (.tuple #[.agg #[.int .i64 0, .int .i64 0, .int .i64 0, .int .i64 0], .int .i64 5]) ∧ Below w.heap.size w w' := by
  have h : ((l.length : Int) != 3) = true := by simp; omega
  go_enter Try.func15, Try.ntmps15
  go_wp2_with fail
  exact bodyPost_ret (v := .tuple #[.agg #[.int .i64 0, .int .i64 0, .int .i64 0, .int .i64 0], .int .i64 5]) (by simp [results, Try.results15, go_sem]) rfl ⟨rfl, (by repeat' (first | with_reducible exact Below.refl _ _ | with_reducible assumption | with_reducible refine Below.setCell ?_ ?_ _ | with_reducible refine Below.drew ?_ | with_reducible refine below_drewN ?_ _ | with_reducible refine Below.alloc ?_ ?_ _ | (rintro _ ⟨⟩; simp <;> omega) | omega | (simp <;> omega)))⟩
theorem pow_log (log : Int) (h0 : 0 ≤ log) (h1 : log ≤ 16) : ∃ N : Nat, 2 ^ log.toNat = N ∧ wrap64 (2 ^ log.toNat) = (N : Int) ∧ 1 ≤ N ∧ N ≤ 65536 := by
  have h : ∀ n : Fin 17, wrap64 (2 ^ n.1) = ((2 ^ n.1 : Nat) : Int) ∧ 1 ≤ 2 ^ n.1 ∧ 2 ^ n.1 ≤ 65536 := by decide +kernel
  exact ⟨_, rfl, h ⟨log.toNat, by omega⟩⟩
theorem rdCheckP (s : Str) (A B : Option Addr) (c d : Nat) (log : Int) (w : World) : Calls Try.prog 25 #[.agg #[.slice A s.l.length c, .slice B s.g.length d], .int .i64 log] w fun e w' => e = .returned (.int .i64 (checkF s.l.length log)) ∧ Below w.heap.size w w' := by
  by_cases h0 : log < 0
  · go_enter Try.func25, Try.ntmps25
    go_wp2_with fail
    go_ret
    exact ⟨ret_int (by unfold checkF; rw [if_pos (.inl h0)]), (by repeat' (first | with_reducible exact Below.refl _ _ | with_reducible assumption | with_reducible refine Below.setCell ?_ ?_ _ | with_reducible refine Below.drew ?_ | with_reducible refine below_drewN ?_ _ | with_reducible refine Below.alloc ?_ ?_ _ | (rintro _ ⟨⟩; simp <;> omega) | omega | (simp <;> omega)))⟩
  · by_cases h1 : 16 < log
    · have h0' : 0 ≤ log := by omega
      go_enter Try.func25, Try.ntmps25
      go_wp2_with fail
      go_ret
      exact ⟨ret_int (by unfold checkF; rw [if_pos (.inr h1)]), (by repeat' (first | with_reducible exact Below.refl _ _ | with_reducible assumption | with_reducible refine Below.setCell ?_ ?_ _ | with_reducible refine Below.drew ?_ | with_reducible refine below_drewN ?_ _ | with_reducible refine Below.alloc ?_ ?_ _ | (rintro _ ⟨⟩; simp <;> omega) | omega | (simp <;> omega)))⟩
    · have h0' : 0 ≤ log := by omega
      have h1' : log ≤ 16 := by omega
      obtain ⟨N, hN, hw, -, -⟩ := pow_log log h0' h1'
      by_cases hl : N < s.l.length
      · have hl' : (N : Int) < (s.l.length : Int) := by omega
        have hN' := Lib.hid hN
        clear hN
        go_enter Try.func25, Try.ntmps25
        go_wp2_with fail
        go_quiet (fail)
        go_wp2_with fail
        go_ret
        exact ⟨ret_int (by unfold checkF; rw [if_neg (by omega), if_pos (by rw [hN'.out]; exact hl)]), (by repeat' (first | with_reducible exact Below.refl _ _ | with_reducible assumption | with_reducible refine Below.setCell ?_ ?_ _ | with_reducible refine Below.drew ?_ | with_reducible refine below_drewN ?_ _ | with_reducible refine Below.alloc ?_ ?_ _ | (rintro _ ⟨⟩; simp <;> omega) | omega | (simp <;> omega)))⟩
      · have hl' : (s.l.length : Int) ≤ (N : Int) := by omega
        have hN' := Lib.hid hN
        clear hN
        go_enter Try.func25, Try.ntmps25
        go_wp2_with fail
        go_quiet (fail)
        go_wp2_with fail
        go_ret
        exact ⟨ret_int (by unfold checkF; rw [if_neg (by omega), if_neg (by rw [hN'.out]; exact hl)]), (by repeat' (first | with_reducible exact Below.refl _ _ | with_reducible assumption | with_reducible refine Below.setCell ?_ ?_ _ | with_reducible refine Below.drew ?_ | with_reducible refine below_drewN ?_ _ | with_reducible refine Below.alloc ?_ ?_ _ | (rintro _ ⟨⟩; simp <;> omega) | omega | (simp <;> omega)))⟩

theorem lit3 (a b d : UInt8) (W : World) {t : TypeId} {g : Nat} (hg : W.heap.size = g) : Sl .u8 (fun _ => True) (W.alloc (.cells #[.int .u8 (a.toNat : Int), .int .u8 (b.toNat : Int), .int .u8 (d.toNat : Int)] t)) (some ⟨g, 0, none⟩) 3 [a, b, d] :=
  Sl.litAt (S := fun _ => True) hg (u8_elems [a, b, d]) (by unfold maxLen; simp) (fun _ _ _ => trivial) trivial
theorem readingR (a b d : UInt8) (w : World) :
    Calls Try.prog 24 #[.agg #[.int .u8 (a.toNat : Int), .int .u8 (b.toNat : Int), .int .u8 (d.toNat : Int)]] w fun e w' => e = .returned (.agg #[.int .i64 (rdOf a b d).who, .int .i64 (rdOf a b d).whn, .int .i64 (rdOf a b d).knd, .int .i64 (rdOf a b d).val]) ∧ Below w.heap.size w w' := by
  go_enter Try.func24, Try.ntmps24
  go_wp2_with (go_at_call 47; refine (decodeR a b d _ (lit3 a b d _ (by simp))).mono ?_; rintro e w1 ⟨rfl, hb1⟩; have hz1 := hb1.size; simp at hz1; have hl1 : w.heap.size + 1 < w1.heap.size := (by omega); have hk1 : w.heap.size + 1 < w.heap.size + 1 + 1 + 1 := (by omega); obtain ⟨hc1, hf1⟩ := bcellk (k := w.heap.size + 1 + 1 + 1) hb1 (by simp))
  exact bodyPost_ret (v := .agg #[.int .i64 (rdOf a b d).who, .int .i64 (rdOf a b d).whn, .int .i64 (rdOf a b d).knd, .int .i64 (rdOf a b d).val]) (by simp [results, Try.results24, go_sem, hl1, hc1, hk1]) rfl ⟨rfl, (by repeat' (first | with_reducible exact Below.refl _ _ | with_reducible assumption | with_reducible refine Below.trans ?_ (Below.mono hb1 ?_) | with_reducible refine Below.setCell ?_ ?_ _ | with_reducible refine Below.drew ?_ | with_reducible refine below_drewN ?_ _ | with_reducible refine Below.alloc ?_ ?_ _ | (rintro _ ⟨⟩; simp <;> omega) | omega | (simp <;> omega)))⟩
end Go.Proofs.Ytpdblgchfkcgpaa
