/-
  Meter readings, in plain words: readings, streams, what the functions make of them. No program.
-/
import Derived.Test.YtihcaoipemcddaaDoorCopy
import Derived.Test.YtihcaoipemcddaaDoorKeep
import Derived.WalkKit
import Derived.WalkLawsBesides
namespace Go.Proofs.YtihcaoipemcddaaDoor
open Go.RowKit

theorem Own.grownRow {α : Type} {E : Enc α} {S : Nat → Prop} {w w' : World} {base g : Nat} {e : TypeId} {v : Value} {xs : List α} (h : Own E S w base e v xs) (hg : w.grownBy w' (some g)) (hv : ¬ g < w.heap.size ∨ g < base) (hS : ¬ S g) : Own E S w' base e v xs :=
  h.grown hg (.inr (fun e => by have := h.lt g e; omega)) (by rintro _ ⟨⟩; exact hS)
theorem Own.grownNew {α : Type} {E : Enc α} {S : Nat → Prop} {w w' : World} {base g : Nat} {e : TypeId} {v : Value} {xs : List α} {o : Obj} (h : Own E S w base e v xs) (hg : (w.alloc o).grownBy w' (some g)) (hgw : w.heap.size ≤ g) (hS : ¬ S g) : Own E S w' base e v xs :=
  (h.alloc o).grown hg (.inr (fun e => by have := (h.lt g e).2; omega)) (by rintro _ ⟨⟩; exact hS)
theorem Sl.alloc_ {α : Type} {E : Enc α} {S : Nat → Prop} {w : World} {A : Option Addr} {c : Nat} {xs : List α} (h : Sl E S w A c xs) (o : Obj) : Sl E S (w.alloc o) A c xs := h.keep ((Agree.refl _ _).alloc _)
theorem Sl.call_ {α : Type} {E : Enc α} {S : Nat → Prop} {w w' : World} {A : Option Addr} {c : Nat} {xs : List α} (h : Sl E S w A c xs) (hb : Below w.heap.size w w') : Sl E S w' A c xs := h.keep (Below.agree hb)
theorem Agree.grownRow {S : Nat → Prop} {w w' : World} {g : Nat} (hg : w.grownBy w' (some g)) (hS : ¬ S g) : Agree S w w' := (Agree.refl _ _).grown hg (by rintro _ ⟨⟩; exact hS)
/-- Readings that hold no addresses. -/
def Enc.Flat {α : Type} (E : Enc α) : Prop := ∀ {S T : Nat → Prop} {w w' : World} {cs : List Value} {x : α}, E.rep S w cs x → E.rep T w' cs x
theorem Elems.flat {α : Type} {E : Enc α} (hE : E.Flat) {S T : Nat → Prop} {w w' : World} : ∀ {l : List α} {cs : List Value}, Elems E S w cs l → Elems E T w' cs l
  | [], _, h => h
  | _ :: _, _, ⟨c, d, e, h1, h2⟩ => ⟨c, d, e, hE h1, h2.flat hE⟩
theorem Own.flat {α : Type} {E : Enc α} (hE : E.Flat) {S T : Nat → Prop} {w : World} {base : Nat} {e : TypeId} {v : Value} {xs : List α} (h : Own E S w base e v xs) : Own E T w base e v xs := by
  obtain ⟨cs, hown, hel⟩ := h
  exact ⟨cs, hown, hel.flat hE⟩
theorem Own.flatSl {α : Type} {E : Enc α} (hE : E.Flat) {S T : Nat → Prop} {w : World} {base n c : Nat} {e : TypeId} {A : Option Addr} {xs : List α} (h : Own E S w base e (.slice A n c) xs) (hT : ∀ b, base ≤ b → T b) : Sl E T w A c xs :=
  (h.flat hE (T := fun _ => False)).toSl (fun _ h _ => h.elim) (fun b hb _ _ => hT b hb)

structure Rd where
  who : Int
  whn : Int
  knd : Int
  val : Int
structure Str where
  l : List Rd
  g : List Bool
structure ROp where
  b0 : UInt8
  b1 : UInt8
  b2 : UInt8
  back : Bool

theorem Rd.ext_ {a b : Rd} (h1 : a.who = b.who) (h2 : a.whn = b.whn) (h3 : a.knd = b.knd) (h4 : a.val = b.val) : a = b := by
  cases a; cases b; simp_all

def rdE : Enc Rd := (Enc.i64.pair (Enc.i64.pair (Enc.i64.pair Enc.i64))).via fun r => (r.who, r.whn, r.knd, r.val)
theorem rdE_open {S : Nat → Prop} {w : World} {cs : List Value} {r : Rd} (h : rdE.rep S w cs r) : cs = [.int .i64 r.who, .int .i64 r.whn, .int .i64 r.knd, .int .i64 r.val] := by
  obtain ⟨c1, d1, rfl, h1, c2, d2, rfl, h2, c3, d3, rfl, h3, h4⟩ := h
  cases h1; cases h2; cases h3; cases h4
  rfl
theorem rdE_shut {S : Nat → Prop} {w : World} {r : Rd} : rdE.rep S w [.int .i64 r.who, .int .i64 r.whn, .int .i64 r.knd, .int .i64 r.val] r :=
  ⟨[_], _, rfl, rfl, [_], _, rfl, rfl, [_], _, rfl, rfl, rfl⟩
theorem rd_at {S : Nat → Prop} {w : World} {A : Option Addr} {c i : Nat} {l : List Rd} {r : Rd} (h : Sl rdE S w A c l) (hi : l[i]? = some r) :
    ∃ b o, A = some ⟨b, o, none⟩ ∧ S b ∧ b < w.heap.size ∧ w.cell? ⟨b, o + i * 4, none⟩ = some (.int .i64 r.who) ∧ w.cell? ⟨b, o + i * 4 + 1, none⟩ = some (.int .i64 r.whn) ∧
      w.cell? ⟨b, o + i * 4 + 2, none⟩ = some (.int .i64 r.knd) ∧ w.cell? ⟨b, o + i * 4 + 3, none⟩ = some (.int .i64 r.val) := by
  obtain ⟨b, o, cs, hA, hS, hb, hr, hc⟩ := h.at' hi (by decide)
  obtain rfl := rdE_open hr
  exact ⟨b, o, hA, hS, hb, hc 0 _ rfl, hc 1 _ rfl, hc 2 _ rfl, hc 3 _ rfl⟩
theorem bool_at {S : Nat → Prop} {w : World} {A : Option Addr} {c i : Nat} {l : List Bool} {r : Bool} (h : Sl .bool S w A c l) (hi : l[i]? = some r) :
    ∃ b o, A = some ⟨b, o, none⟩ ∧ S b ∧ b < w.heap.size ∧ w.cell? ⟨b, o + i, none⟩ = some (.bool r) := by
  obtain ⟨b, o, cs, hA, hS, hb, hr, hc⟩ := h.at' hi (by decide)
  cases hr
  refine ⟨b, o, hA, hS, hb, ?_⟩
  have := hc 0 _ rfl
  simpa [Enc.bool] using this
theorem u8_at {S : Nat → Prop} {w : World} {A : Option Addr} {c i : Nat} {l : List UInt8} {r : UInt8} (h : Sl .u8 S w A c l) (hi : l[i]? = some r) :
    ∃ b o, A = some ⟨b, o, none⟩ ∧ S b ∧ b < w.heap.size ∧ w.cell? ⟨b, o + i, none⟩ = some (.int .u8 (r.toNat : Int)) := by
  obtain ⟨b, o, cs, hA, hS, hb, hr, hc⟩ := h.at' hi (by decide)
  cases hr
  refine ⟨b, o, hA, hS, hb, ?_⟩
  have := hc 0 _ rfl
  simpa [Enc.u8] using this

def Enc.u64 : Enc Int := ⟨1, fun _ _ cs x => cs = [.int .u64 x], by rintro _ _ _ _ rfl; rfl, fun h _ => h, fun h _ => h, by rintro _ _ _ _ rfl u hu; simp at hu; subst hu; rfl⟩
theorem u64_at {S : Nat → Prop} {w : World} {A : Option Addr} {c i : Nat} {l : List Int} {r : Int} (h : Sl .u64 S w A c l) (hi : l[i]? = some r) :
    ∃ b o, A = some ⟨b, o, none⟩ ∧ S b ∧ b < w.heap.size ∧ w.cell? ⟨b, o + i, none⟩ = some (.int .u64 r) := by
  obtain ⟨b, o, cs, hA, hS, hb, hr, hc⟩ := h.at' hi (by decide)
  cases hr
  refine ⟨b, o, hA, hS, hb, ?_⟩
  have := hc 0 _ rfl
  simpa [Enc.u64] using this
theorem rdE_flat : rdE.Flat := by
  intro S T w w' cs x h
  obtain rfl := rdE_open h
  exact rdE_shut
theorem bool_flat : Enc.bool.Flat := fun h => h
theorem u64_flat : Enc.u64.Flat := fun h => h
theorem u8_flat : Enc.u8.Flat := fun h => h
/-- Columns: slices of slices of numbers. -/
theorem col_at {S : Nat → Prop} {w : World} {A : Option Addr} {c i : Nat} {l : List (List Int)} {r : List Int} (h : Sl Enc.u64.slice S w A c l) (hi : l[i]? = some r) :
    ∃ b o B d, A = some ⟨b, o, none⟩ ∧ S b ∧ b < w.heap.size ∧ w.cell? ⟨b, o + i, none⟩ = some (.slice B r.length d) ∧ Sl .u64 S w B d r := by
  obtain ⟨b, o, cs, hA, hS, hb, hr, hc⟩ := h.at' hi (by decide)
  obtain ⟨B, d, rfl, hs⟩ := hr
  refine ⟨b, o, B, d, hA, hS, hb, ?_, hs⟩
  have := hc 0 _ rfl
  simpa [Enc.slice] using this

/-- What was there, or is new. -/
def Fresh (S : Nat → Prop) (w : World) : Nat → Prop := fun b => S b ∨ w.heap.size ≤ b

def ValidR (r : Rd) : Prop := (0 ≤ r.who ∧ r.who < 16) ∧ (0 ≤ r.knd ∧ r.knd < 16) ∧ (0 ≤ r.whn ∧ r.whn < 256) ∧ (0 ≤ r.val ∧ r.val < 256)
instance (r : Rd) : Decidable (ValidR r) := by unfold ValidR; infer_instance
def validB (r : Rd) : Bool := decide (ValidR r)
def emptyStr : Str := ⟨[], []⟩
def zeroRd : Rd := ⟨0, 0, 0, 0⟩
def takeF (s : Str) (r : Rd) : Str × Int := if validB r then (if 65536 ≤ s.l.length then (emptyStr, 2) else (⟨s.l ++ [r], s.g ++ [false]⟩, 0)) else (emptyStr, 1)
def retractF (s : Str) (i : Int) : Str × Int :=
  if i < 0 ∨ (s.l.length : Int) ≤ i then (emptyStr, 4) else if s.g.getD i.toNat false then (emptyStr, 120) else (⟨s.l, s.g.set i.toNat true⟩, 0)
def liveF (s : Str) : List Rd := ((s.l.zip s.g).filter fun p => !p.2).map (·.1)
/-- The number of an error of a stream with a capacity. -/
def checkF (n : Nat) (log : Int) : Int := if log < 0 ∨ 16 < log then 1 else if 2 ^ log.toNat < n then 2 else 0
def fieldF (r : Rd) (c : Nat) : Int := if c = 0 then r.who else if c = 1 then r.whn else if c = 2 then r.knd else r.val
def widthF (c : Nat) : Nat := if c = 0 ∨ c = 2 then 4 else 8
def padF (n : Nat) (l : List Int) : List Int := l ++ List.replicate (n - l.length) 0
def colF (s : Str) (log : Int) (c : Nat) : List Int := padF (2 ^ log.toNat) (s.l.map fun r => fieldF r c)
def liveColF (s : Str) (log : Int) : List Int := padF (2 ^ log.toNat) (s.g.map fun g => if g then 0 else 1)
def columnsF (s : Str) (log : Int) : List (List Int) := [colF s log 0, colF s log 1, colF s log 2, colF s log 3, liveColF s log]
def bitF (x : Int) (k : Nat) : Int := x / 2 ^ k % 2
def bitColF (s : Str) (log : Int) (c k : Nat) : List Int := padF (2 ^ log.toNat) (s.l.map fun r => bitF (fieldF r c) k)
def bitsOfF (s : Str) (log : Int) (c : Nat) : List (List Int) := (List.range (widthF c)).map fun k => bitColF s log c k
def bitsF (s : Str) (log : Int) : List (List Int) := bitsOfF s log 0 ++ bitsOfF s log 1 ++ bitsOfF s log 2 ++ bitsOfF s log 3
def rdOf (b0 b1 b2 : UInt8) : Rd := ⟨(b0.toNat % 16 : Nat), (b1.toNat : Nat), (b0.toNat / 16 : Nat), (b2.toNat : Nat)⟩
def decodeF : List UInt8 → Rd × Int
  | [a, b, c] => (rdOf a b c, 0)
  | _ => (zeroRd, 5)
def byteF (x : Int) : UInt8 := UInt8.ofNat (x % 256).toNat
def encodeF (r : Rd) : List UInt8 := [byteF (r.who + 16 * r.knd), byteF r.whn, byteF r.val]
def stepM (most : Nat) (s : Str) (o : ROp) : Str :=
  if o.back ∧ 0 < s.l.length then (if (retractF s ((o.b0.toNat % s.l.length : Nat) : Int)).2 = 0 then (retractF s ((o.b0.toNat % s.l.length : Nat) : Int)).1 else s)
  else if ¬ o.back ∧ s.l.length < most then (takeF s (rdOf o.b0 o.b1 o.b2)).1 else s
def madeF (most : Nat) (l : List ROp) : Str := l.foldl (stepM most) emptyStr

theorem rdOf_valid (a b c : UInt8) : ValidR (rdOf a b c) := by
  have h1 := a.toNat_lt; have h2 := b.toNat_lt; have h3 := c.toNat_lt
  unfold ValidR rdOf
  refine ⟨⟨?_, ?_⟩, ⟨?_, ?_⟩, ⟨?_, ?_⟩, ⟨?_, ?_⟩⟩ <;> simp only <;> omega

/-- A stream as it comes out of operations. -/
structure OkStr (s : Str) : Prop where
  len : s.g.length = s.l.length
  valid : ∀ r ∈ s.l, ValidR r
theorem okEmpty : OkStr emptyStr := ⟨rfl, by simp [emptyStr]⟩
theorem OkStr.take {s : Str} (h : OkStr s) (r : Rd) : OkStr (takeF s r).1 := by
  unfold takeF
  by_cases hv : validB r
  · rw [if_pos hv]
    split
    · exact okEmpty
    · refine ⟨by simp [h.len], fun x hx => ?_⟩
      rcases List.mem_append.1 hx with hx | hx
      · exact h.valid x hx
      · simp at hx; subst hx; simpa [validB] using hv
  · rw [if_neg hv]; exact okEmpty
theorem OkStr.retract {s : Str} (h : OkStr s) (i : Int) : OkStr (retractF s i).1 := by
  unfold retractF
  split
  · exact okEmpty
  · split
    · exact okEmpty
    · exact ⟨by simp [h.len], h.valid⟩
theorem retractF_len {s : Str} {i : Int} (h : (retractF s i).2 = 0) : (retractF s i).1.l = s.l := by
  unfold retractF at h ⊢
  split at h
  · simp at h
  · split at h
    · simp at h
    · rename_i h1 h2
      rw [if_neg h1, if_neg h2]
theorem stepM_ok {most : Nat} {s : Str} (h : OkStr s) (hl : s.l.length ≤ most) (o : ROp) : OkStr (stepM most s o) ∧ (stepM most s o).l.length ≤ most := by
  unfold stepM
  split
  · split
    · rename_i h1 h2
      exact ⟨h.retract _, by rw [retractF_len h2]; exact hl⟩
    · exact ⟨h, hl⟩
  · split
    · rename_i h1 h2
      refine ⟨h.take _, ?_⟩
      unfold takeF
      have hv : validB (rdOf o.b0 o.b1 o.b2) = true := by simpa [validB] using rdOf_valid _ _ _
      rw [if_pos hv]
      split
      · simp [emptyStr]
      · simp; omega
    · exact ⟨h, hl⟩
theorem madeF_ok (most : Nat) (l : List ROp) : OkStr (madeF most l) ∧ (madeF most l).l.length ≤ most := by
  have gen : ∀ (l : List ROp) (s : Str), OkStr s → s.l.length ≤ most → OkStr (l.foldl (stepM most) s) ∧ (l.foldl (stepM most) s).l.length ≤ most := by
    intro l
    induction l with
    | nil => intro s h hl; exact ⟨h, hl⟩
    | cons o l ih => intro s h hl; exact ih _ (stepM_ok h hl o).1 (stepM_ok h hl o).2
  exact gen l _ okEmpty (Nat.zero_le _)
theorem take_snocR {α : Type} {l : List α} {k : Nat} {x : α} (h : l[k]? = some x) : l.take (k + 1) = l.take k ++ [x] := by
  rw [List.take_add_one, h]; rfl
theorem madeF_take {most : Nat} {l : List ROp} {k : Nat} {o : ROp} (h : l[k]? = some o) : madeF most (l.take (k + 1)) = stepM most (madeF most (l.take k)) o := by
  rw [take_snocR h]; simp [madeF]
end Go.Proofs.YtihcaoipemcddaaDoor
