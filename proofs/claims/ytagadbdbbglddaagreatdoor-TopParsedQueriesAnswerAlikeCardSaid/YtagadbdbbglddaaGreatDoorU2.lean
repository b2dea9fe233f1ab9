/-
  Texts of this claim, merged: RdF, QF, Reg, Fast. Conditions: as each theorem says.
-/
import Derived.WalkKit
import Derived.WalkLawsBesides
import Derived.Deep.RegionHeld3
import Derived.Test.YtagadbdbbglddaaGreatDoorU1
set_option linter.unusedSimpArgs false
set_option linter.unusedVariables false
namespace Go.Proofs.YtagadbdbbglddaaGreatDoor
open Go.RowKit

theorem Own.grownNew {α : Type} {E : Enc α} {S : Nat → Prop} {w w' : World} {base g : Nat} {e : TypeId} {v : Value} {xs : List α} {o : Obj} (h : Own E S w base e v xs) (hg : (w.alloc o).grownBy w' (some g)) (hgw : w.heap.size ≤ g) (hS : ¬ S g) : Own E S w' base e v xs :=
  (h.alloc o).grown hg (.inr (fun e => by have := (h.lt g e).2; omega)) (by rintro _ ⟨⟩; exact hS)
theorem Sl.alloc_ {α : Type} {E : Enc α} {S : Nat → Prop} {w : World} {A : Option Addr} {c : Nat} {xs : List α} (h : Sl E S w A c xs) (o : Obj) : Sl E S (w.alloc o) A c xs := h.keep ((Agree.refl _ _).alloc _)
theorem Sl.call_ {α : Type} {E : Enc α} {S : Nat → Prop} {w w' : World} {A : Option Addr} {c : Nat} {xs : List α} (h : Sl E S w A c xs) (hb : Below w.heap.size w w') : Sl E S w' A c xs := h.keep (Below.agree hb)
/-- Readings that hold no addresses. -/
def Enc.Flat {α : Type} (E : Enc α) : Prop := ∀ {S T : Nat → Prop} {w w' : World} {cs : List Value} {x : α}, E.rep S w cs x → E.rep T w' cs x
theorem Elems.flat {α : Type} {E : Enc α} (hE : E.Flat) {S T : Nat → Prop} {w w' : World} : ∀ {l : List α} {cs : List Value}, Elems E S w cs l → Elems E T w' cs l
  | [], _, h => h
  | _ :: _, _, ⟨c, d, e, h1, h2⟩ => ⟨c, d, e, hE h1, h2.flat hE⟩
theorem Own.flat {α : Type} {E : Enc α} (hE : E.Flat) {S T : Nat → Prop} {w : World} {base : Nat} {e : TypeId} {v : Value} {xs : List α} (h : Own E S w base e v xs) : Own E T w base e v xs := by
  obtain ⟨cs, hown, hel⟩ := h
  exact ⟨cs, hown, hel.flat hE⟩
theorem Own.flatSl {α : Type} {E : Enc α} (hE : E.Flat) {S T : Nat → Prop} {w : World} {base n c : Nat} {e : TypeId} {A : Option Addr} {xs : List α} (h : Own E S w base e (.slice A n c) xs) (hT : ∀ b, base ≤ b → T b) : Sl E T w A c xs :=
  (h.flat hE (T := fun _ => False)).toSl (fun _ h _ => h.elim) (fun b hb _ _ => hT b hb)

structure Rd where
  who : Int
  whn : Int
  knd : Int
  val : Int
structure Str where
  l : List Rd
  g : List Bool
structure ROp where
  b0 : UInt8
  b1 : UInt8
  b2 : UInt8
  back : Bool

theorem Rd.ext_ {a b : Rd} (h1 : a.who = b.who) (h2 : a.whn = b.whn) (h3 : a.knd = b.knd) (h4 : a.val = b.val) : a = b := by
  cases a; cases b; simp_all

def rdE : Enc Rd := (Enc.i64.pair (Enc.i64.pair (Enc.i64.pair Enc.i64))).via fun r => (r.who, r.whn, r.knd, r.val)
theorem rdE_open {S : Nat → Prop} {w : World} {cs : List Value} {r : Rd} (h : rdE.rep S w cs r) : cs = [.int .i64 r.who, .int .i64 r.whn, .int .i64 r.knd, .int .i64 r.val] := by
  obtain ⟨c1, d1, rfl, h1, c2, d2, rfl, h2, c3, d3, rfl, h3, h4⟩ := h
  cases h1; cases h2; cases h3; cases h4
  rfl
theorem rdE_shut {S : Nat → Prop} {w : World} {r : Rd} : rdE.rep S w [.int .i64 r.who, .int .i64 r.whn, .int .i64 r.knd, .int .i64 r.val] r :=
  ⟨[_], _, rfl, rfl, [_], _, rfl, rfl, [_], _, rfl, rfl, rfl⟩
theorem rd_at {S : Nat → Prop} {w : World} {A : Option Addr} {c i : Nat} {l : List Rd} {r : Rd} (h : Sl rdE S w A c l) (hi : l[i]? = some r) :
    ∃ b o, A = some ⟨b, o, none⟩ ∧ S b ∧ b < w.heap.size ∧ w.cell? ⟨b, o + i * 4, none⟩ = some (.int .i64 r.who) ∧ w.cell? ⟨b, o + i * 4 + 1, none⟩ = some (.int .i64 r.whn) ∧
      w.cell? ⟨b, o + i * 4 + 2, none⟩ = some (.int .i64 r.knd) ∧ w.cell? ⟨b, o + i * 4 + 3, none⟩ = some (.int .i64 r.val) := by
  obtain ⟨b, o, cs, hA, hS, hb, hr, hc⟩ := h.at' hi (by decide)
  obtain rfl := rdE_open hr
  exact ⟨b, o, hA, hS, hb, hc 0 _ rfl, hc 1 _ rfl, hc 2 _ rfl, hc 3 _ rfl⟩
theorem bool_at {S : Nat → Prop} {w : World} {A : Option Addr} {c i : Nat} {l : List Bool} {r : Bool} (h : Sl .bool S w A c l) (hi : l[i]? = some r) :
    ∃ b o, A = some ⟨b, o, none⟩ ∧ S b ∧ b < w.heap.size ∧ w.cell? ⟨b, o + i, none⟩ = some (.bool r) := by
  obtain ⟨b, o, cs, hA, hS, hb, hr, hc⟩ := h.at' hi (by decide)
  cases hr
  refine ⟨b, o, hA, hS, hb, ?_⟩
  have := hc 0 _ rfl
  simpa [Enc.bool] using this
theorem u8_at {S : Nat → Prop} {w : World} {A : Option Addr} {c i : Nat} {l : List UInt8} {r : UInt8} (h : Sl .u8 S w A c l) (hi : l[i]? = some r) :
    ∃ b o, A = some ⟨b, o, none⟩ ∧ S b ∧ b < w.heap.size ∧ w.cell? ⟨b, o + i, none⟩ = some (.int .u8 (r.toNat : Int)) := by
  obtain ⟨b, o, cs, hA, hS, hb, hr, hc⟩ := h.at' hi (by decide)
  cases hr
  refine ⟨b, o, hA, hS, hb, ?_⟩
  have := hc 0 _ rfl
  simpa [Enc.u8] using this

def Enc.u64 : Enc Int := ⟨1, fun _ _ cs x => cs = [.int .u64 x], by rintro _ _ _ _ rfl; rfl, fun h _ => h, fun h _ => h, by rintro _ _ _ _ rfl u hu; simp at hu; subst hu; rfl⟩
theorem rdE_flat : rdE.Flat := by
  intro S T w w' cs x h
  obtain rfl := rdE_open h
  exact rdE_shut
theorem bool_flat : Enc.bool.Flat := fun h => h
/-- What was there, or is new. -/
def Fresh (S : Nat → Prop) (w : World) : Nat → Prop := fun b => S b ∨ w.heap.size ≤ b

def ValidR (r : Rd) : Prop := (0 ≤ r.who ∧ r.who < 16) ∧ (0 ≤ r.knd ∧ r.knd < 16) ∧ (0 ≤ r.whn ∧ r.whn < 256) ∧ (0 ≤ r.val ∧ r.val < 256)
instance (r : Rd) : Decidable (ValidR r) := by unfold ValidR; infer_instance
def validB (r : Rd) : Bool := decide (ValidR r)
def emptyStr : Str := ⟨[], []⟩
def takeF (s : Str) (r : Rd) : Str × Int := if validB r then (if 65536 ≤ s.l.length then (emptyStr, 2) else (⟨s.l ++ [r], s.g ++ [false]⟩, 0)) else (emptyStr, 1)
def retractF (s : Str) (i : Int) : Str × Int :=
  if i < 0 ∨ (s.l.length : Int) ≤ i then (emptyStr, 4) else if s.g.getD i.toNat false then (emptyStr, 120) else (⟨s.l, s.g.set i.toNat true⟩, 0)
def liveF (s : Str) : List Rd := ((s.l.zip s.g).filter fun p => !p.2).map (·.1)
def rdOf (b0 b1 b2 : UInt8) : Rd := ⟨(b0.toNat % 16 : Nat), (b1.toNat : Nat), (b0.toNat / 16 : Nat), (b2.toNat : Nat)⟩
def byteF (x : Int) : UInt8 := UInt8.ofNat (x % 256).toNat
def encodeF (r : Rd) : List UInt8 := [byteF (r.who + 16 * r.knd), byteF r.whn, byteF r.val]
def stepM (most : Nat) (s : Str) (o : ROp) : Str :=
  if o.back ∧ 0 < s.l.length then (if (retractF s ((o.b0.toNat % s.l.length : Nat) : Int)).2 = 0 then (retractF s ((o.b0.toNat % s.l.length : Nat) : Int)).1 else s)
  else if ¬ o.back ∧ s.l.length < most then (takeF s (rdOf o.b0 o.b1 o.b2)).1 else s
def madeF (most : Nat) (l : List ROp) : Str := l.foldl (stepM most) emptyStr

theorem rdOf_valid (a b c : UInt8) : ValidR (rdOf a b c) := by
  have h1 := a.toNat_lt; have h2 := b.toNat_lt; have h3 := c.toNat_lt
  unfold ValidR rdOf
  refine ⟨⟨?_, ?_⟩, ⟨?_, ?_⟩, ⟨?_, ?_⟩, ⟨?_, ?_⟩⟩ <;> simp only <;> omega

/-- A stream as it comes out of operations. -/
structure OkStr (s : Str) : Prop where
  len : s.g.length = s.l.length
  valid : ∀ r ∈ s.l, ValidR r
theorem okEmpty : OkStr emptyStr := ⟨rfl, by simp [emptyStr]⟩
theorem OkStr.take {s : Str} (h : OkStr s) (r : Rd) : OkStr (takeF s r).1 := by
  unfold takeF
  by_cases hv : validB r
  · rw [if_pos hv]
    split
    · exact okEmpty
    · refine ⟨by simp [h.len], fun x hx => ?_⟩
      rcases List.mem_append.1 hx with hx | hx
      · exact h.valid x hx
      · simp at hx; subst hx; simpa [validB] using hv
  · rw [if_neg hv]; exact okEmpty
theorem OkStr.retract {s : Str} (h : OkStr s) (i : Int) : OkStr (retractF s i).1 := by
  unfold retractF
  split
  · exact okEmpty
  · split
    · exact okEmpty
    · exact ⟨by simp [h.len], h.valid⟩
theorem retractF_len {s : Str} {i : Int} (h : (retractF s i).2 = 0) : (retractF s i).1.l = s.l := by
  unfold retractF at h ⊢
  split at h
  · simp at h
  · split at h
    · simp at h
    · rename_i h1 h2
      rw [if_neg h1, if_neg h2]
theorem stepM_ok {most : Nat} {s : Str} (h : OkStr s) (hl : s.l.length ≤ most) (o : ROp) : OkStr (stepM most s o) ∧ (stepM most s o).l.length ≤ most := by
  unfold stepM
  split
  · split
    · rename_i h1 h2
      exact ⟨h.retract _, by rw [retractF_len h2]; exact hl⟩
    · exact ⟨h, hl⟩
  · split
    · rename_i h1 h2
      refine ⟨h.take _, ?_⟩
      unfold takeF
      have hv : validB (rdOf o.b0 o.b1 o.b2) = true := by simpa [validB] using rdOf_valid _ _ _
      rw [if_pos hv]
      split
      · simp [emptyStr]
      · simp; omega
    · exact ⟨h, hl⟩
theorem madeF_ok (most : Nat) (l : List ROp) : OkStr (madeF most l) ∧ (madeF most l).l.length ≤ most := by
  have gen : ∀ (l : List ROp) (s : Str), OkStr s → s.l.length ≤ most → OkStr (l.foldl (stepM most) s) ∧ (l.foldl (stepM most) s).l.length ≤ most := by
    intro l
    induction l with
    | nil => intro s h hl; exact ⟨h, hl⟩
    | cons o l ih => intro s h hl; exact ih _ (stepM_ok h hl o).1 (stepM_ok h hl o).2
  exact gen l _ okEmpty (Nat.zero_le _)
theorem take_snocR {α : Type} {l : List α} {k : Nat} {x : α} (h : l[k]? = some x) : l.take (k + 1) = l.take k ++ [x] := by
  rw [List.take_add_one, h]; rfl
theorem madeF_take {most : Nat} {l : List ROp} {k : Nat} {o : ROp} (h : l[k]? = some o) : madeF most (l.take (k + 1)) = stepM most (madeF most (l.take k)) o := by
  rw [take_snocR h]; simp [madeF]
end Go.Proofs.YtagadbdbbglddaaGreatDoor
namespace Go.Proofs.YtagadbdbbglddaaGreatDoor
open Go.RowKit

structure Cd where
  col : Int
  lo : Int
  hi : Int
structure Qy where
  kind : Int
  col : Int
  k : Int
  fs : List (List Cd)
theorem Cd.ext_ {a b : Cd} (h1 : a.col = b.col) (h2 : a.lo = b.lo) (h3 : a.hi = b.hi) : a = b := by cases a; cases b; simp_all
def cdE : Enc Cd := (Enc.i64.pair (Enc.i64.pair Enc.i64)).via fun c => (c.col, c.lo, c.hi)
theorem cdE_open {S : Nat → Prop} {w : World} {cs : List Value} {r : Cd} (h : cdE.rep S w cs r) : cs = [.int .i64 r.col, .int .i64 r.lo, .int .i64 r.hi] := by
  obtain ⟨c1, d1, rfl, h1, c2, d2, rfl, h2, h3⟩ := h
  cases h1; cases h2; cases h3
  rfl
theorem cdE_shut {S : Nat → Prop} {w : World} {r : Cd} : cdE.rep S w [.int .i64 r.col, .int .i64 r.lo, .int .i64 r.hi] r := ⟨[_], _, rfl, rfl, [_], _, rfl, rfl, rfl⟩
theorem cdE_flat : cdE.Flat := by
  intro S T w w' cs x h
  obtain rfl := cdE_open h
  exact cdE_shut
theorem cd_at {S : Nat → Prop} {w : World} {A : Option Addr} {c i : Nat} {l : List Cd} {r : Cd} (h : Sl cdE S w A c l) (hi : l[i]? = some r) :
    ∃ b o, A = some ⟨b, o, none⟩ ∧ S b ∧ b < w.heap.size ∧ w.cell? ⟨b, o + i * 3, none⟩ = some (.int .i64 r.col) ∧ w.cell? ⟨b, o + i * 3 + 1, none⟩ = some (.int .i64 r.lo) ∧ w.cell? ⟨b, o + i * 3 + 2, none⟩ = some (.int .i64 r.hi) := by
  obtain ⟨b, o, cs, hA, hS, hb, hr, hc⟩ := h.at' hi (by decide)
  obtain rfl := cdE_open hr
  exact ⟨b, o, hA, hS, hb, hc 0 _ rfl, hc 1 _ rfl, hc 2 _ rfl⟩
theorem flt_at {S : Nat → Prop} {w : World} {A : Option Addr} {c i : Nat} {l : List (List Cd)} {r : List Cd} (h : Sl cdE.slice S w A c l) (hi : l[i]? = some r) :
    ∃ b o B d, A = some ⟨b, o, none⟩ ∧ S b ∧ b < w.heap.size ∧ w.cell? ⟨b, o + i, none⟩ = some (.slice B r.length d) ∧ Sl cdE S w B d r := by
  obtain ⟨b, o, cs, hA, hS, hb, hr, hc⟩ := h.at' hi (by decide)
  obtain ⟨B, d, rfl, hs⟩ := hr
  refine ⟨b, o, B, d, hA, hS, hb, ?_, hs⟩
  have := hc 0 _ rfl
  simpa [Enc.slice] using this
theorem i64_at {S : Nat → Prop} {w : World} {A : Option Addr} {c i : Nat} {l : List Int} {r : Int} (h : Sl .i64 S w A c l) (hi : l[i]? = some r) :
    ∃ b o, A = some ⟨b, o, none⟩ ∧ S b ∧ b < w.heap.size ∧ w.cell? ⟨b, o + i, none⟩ = some (.int .i64 r) := by
  obtain ⟨b, o, cs, hA, hS, hb, hr, hc⟩ := h.at' hi (by decide)
  cases hr
  refine ⟨b, o, hA, hS, hb, ?_⟩
  have := hc 0 _ rfl
  simpa [Enc.i64] using this
theorem i64_flat : Enc.i64.Flat := fun h => h

def maxC (c : Int) : Int := if c = 0 ∨ c = 2 then 15 else 255
def bitsC (c : Int) : Int := if c = 0 ∨ c = 2 then 4 else if c = 1 ∨ c = 3 then 8 else if c = 4 then 1 else 0
def hasColB (k : Int) : Bool := decide (2 ≤ k ∧ k ≤ 6)
def maxKF (k : Int) : Int := if k = 3 then 6 else if k = 6 then 65536 else 0
def nFilF (k : Int) : Nat := if k = 7 then 2 else 1
def sumsC (k : Int) : Int := if 1 ≤ k ∧ k ≤ 3 then 1 else if 4 ≤ k ∧ k ≤ 6 then 16 else if k = 7 then 32 else 0
def ValidCd (c : Cd) : Prop := (0 ≤ c.col ∧ c.col ≤ 3) ∧ 0 ≤ c.lo ∧ c.lo ≤ c.hi ∧ c.hi ≤ maxC c.col
instance (c : Cd) : Decidable (ValidCd c) := by unfold ValidCd; infer_instance
def validCdB (c : Cd) : Bool := decide (ValidCd c)
def ValidFlt (l : List Cd) : Prop := l.length ≤ 3 ∧ ∀ c ∈ l, ValidCd c
def validFltB (l : List Cd) : Bool := decide (l.length ≤ 3) && l.all validCdB
theorem validFltB_iff (l : List Cd) : validFltB l = true ↔ ValidFlt l := by simp [validFltB, ValidFlt, validCdB]
def HeadOk (q : Qy) : Prop := (1 ≤ q.kind ∧ q.kind ≤ 7) ∧ (0 ≤ q.col ∧ q.col ≤ 3) ∧ (q.col = 0 ∨ (2 ≤ q.kind ∧ q.kind ≤ 6)) ∧ 0 ≤ q.k ∧ q.k ≤ maxKF q.kind ∧ (q.kind = 3 ∨ q.kind = 6 → 1 ≤ q.k) ∧ q.fs.length = nFilF q.kind
instance (q : Qy) : Decidable (HeadOk q) := by unfold HeadOk; infer_instance
def validQB (q : Qy) : Bool := decide (HeadOk q) && q.fs.all validFltB
structure ValidQ (q : Qy) : Prop where
  head : HeadOk q
  flt : ∀ l ∈ q.fs, ValidFlt l
theorem validQB_iff (q : Qy) : validQB q = true ↔ ValidQ q := by
  simp only [validQB, Bool.and_eq_true, decide_eq_true_eq, List.all_eq_true, validFltB_iff]
  exact ⟨fun h => ⟨h.1, h.2⟩, fun h => ⟨h.1, h.2⟩⟩

/-- The range of a column under a filter. -/
def spanStep (col : Int) (s : Int × Int) (c : Cd) : Int × Int := if c.col = col then (max s.1 c.lo, min s.2 c.hi) else s
def span0 (col : Int) : Int × Int := (0, 2 ^ (bitsC col).toNat - 1)
def underF (l : List Cd) (col : Int) : Int × Int := l.foldl (spanStep col) (span0 col)
def satB (l : List Cd) : Bool := decide ((underF l 0).1 ≤ (underF l 0).2 ∧ (underF l 1).1 ≤ (underF l 1).2 ∧ (underF l 2).1 ≤ (underF l 2).2 ∧ (underF l 3).1 ≤ (underF l 3).2)
def possB (l : List Cd) (col v : Int) : Bool := l.all (fun c => !decide (c.col = col ∧ (v < c.lo ∨ c.hi < v))) && decide (0 ≤ v ∧ v ≤ maxC col)
def largeF (l : List Cd) (col : Int) : Int := if (underF l col).1 ≤ (underF l col).2 then (underF l col).2 else -1
def inB_ (s : Int × Int) (v : Int) : Bool := decide (s.1 ≤ v ∧ v ≤ s.2)
def bucketF (l : List Cd) (col rows : Int) (v : Nat) : Int := if inB_ (underF l col) v && satB l then rows else 0
def bucketsF (l : List Cd) (col rows : Int) : List Int := (List.range 16).map (bucketF l col rows)
def expF (q : Qy) : Nat := if q.kind = 2 then 1 else if q.kind = 3 then q.k.toNat else 0
def powF (rows m : Int) (k : Nat) : Int := rows * m ^ k
def two62 : Int := 4611686018427387904
def fl (q : Qy) (i : Nat) : List Cd := q.fs.getD i []
/-- The bounds of a query's sums, and whether they are below the limit. -/
def boundF (q : Qy) (rows : Int) : List Int × Bool :=
  if q.kind ≤ 3 then
    (if satB (fl q 0) then ([powF rows (underF (fl q 0) q.col).2 (expF q)], decide (powF rows (underF (fl q 0) q.col).2 (expF q) < two62)) else ([0], true))
  else if q.kind ≤ 6 then (bucketsF (fl q 0) q.col rows, true)
  else (bucketsF (fl q 0) 0 rows ++ bucketsF (fl q 1) 0 rows, true)
def wideB (q : Qy) : Bool := decide (4 ≤ q.kind ∧ q.kind ≤ 6 ∧ 4 < bitsC q.col)
def checkTF (q : Qy) (rows : Int) : List Int × Int :=
  if validQB q = true ∧ 0 ≤ rows ∧ rows ≤ 65536 then
    (if wideB q then ([], 140) else if (boundF q rows).2 then ((boundF q rows).1, 0) else ([], 141))
  else ([], 1)

theorem maxC_pos (c : Int) : 15 ≤ maxC c ∧ maxC c ≤ 255 := by unfold maxC; split <;> omega
theorem span0_max {c : Int} (h0 : 0 ≤ c) (h3 : c ≤ 3) : span0 c = (0, maxC c) := by
  rcases (by omega : c = 0 ∨ c = 1 ∨ c = 2 ∨ c = 3) with rfl | rfl | rfl | rfl <;> rfl
theorem spanStep_bd {col : Int} {s : Int × Int} {c : Cd} (hc : ValidCd c) (h0 : 0 ≤ s.1) (h1 : s.1 ≤ 255) (h2 : s.2 ≤ 255) (h3 : 0 ≤ s.2) :
    0 ≤ (spanStep col s c).1 ∧ (spanStep col s c).1 ≤ 255 ∧ (spanStep col s c).2 ≤ 255 ∧ 0 ≤ (spanStep col s c).2 := by
  obtain ⟨⟨-, -⟩, a, b, d⟩ := hc
  have := maxC_pos c.col
  unfold spanStep
  split
  · dsimp only; omega
  · exact ⟨h0, h1, h2, h3⟩
theorem span0_bd (col : Int) : 0 ≤ (span0 col).1 ∧ (span0 col).1 ≤ 255 ∧ (span0 col).2 ≤ 255 ∧ 0 ≤ (span0 col).2 := by
  unfold span0 bitsC
  split
  · simp
  · split
    · simp
    · split <;> simp
theorem fold_bd {col : Int} : ∀ {l : List Cd} {s : Int × Int}, (∀ c ∈ l, ValidCd c) → 0 ≤ s.1 → s.1 ≤ 255 → s.2 ≤ 255 → 0 ≤ s.2 →
    0 ≤ (l.foldl (spanStep col) s).1 ∧ (l.foldl (spanStep col) s).1 ≤ 255 ∧ (l.foldl (spanStep col) s).2 ≤ 255 ∧ 0 ≤ (l.foldl (spanStep col) s).2
  | [], _, _, h0, h1, h2, h3 => ⟨h0, h1, h2, h3⟩
  | c :: l, s, hl, h0, h1, h2, h3 => by
    obtain ⟨a, b, d, e⟩ := spanStep_bd (col := col) (s := s) (hl c (by simp)) h0 h1 h2 h3
    exact fold_bd (l := l) (fun c hc => hl c (by simp [hc])) a b d e
theorem under_bd {l : List Cd} (h : ∀ c ∈ l, ValidCd c) (col : Int) : 0 ≤ (underF l col).1 ∧ (underF l col).1 ≤ 255 ∧ (underF l col).2 ≤ 255 ∧ 0 ≤ (underF l col).2 := by
  obtain ⟨a, b, d, e⟩ := span0_bd col
  exact fold_bd h a b d e
/-- What is possible lies in the range, and the other way round. -/
theorem fold_poss {col v : Int} : ∀ {l : List Cd} {s : Int × Int}, ((l.foldl (spanStep col) s).1 ≤ v ∧ v ≤ (l.foldl (spanStep col) s).2) ↔ (s.1 ≤ v ∧ v ≤ s.2) ∧ ∀ c ∈ l, ¬ (c.col = col ∧ (v < c.lo ∨ c.hi < v))
  | [], _ => by simp
  | c :: l, s => by
    rw [List.foldl_cons, fold_poss (l := l), List.forall_mem_cons]
    unfold spanStep
    split
    · dsimp only
      constructor
      · rintro ⟨⟨h1, h2⟩, h3⟩
        exact ⟨⟨by omega, by omega⟩, by omega, h3⟩
      · rintro ⟨⟨h1, h2⟩, h3, h4⟩
        exact ⟨⟨by omega, by omega⟩, h4⟩
    · constructor
      · rintro ⟨h1, h3⟩
        exact ⟨h1, fun h => by omega, h3⟩
      · rintro ⟨h1, _, h4⟩
        exact ⟨h1, h4⟩
theorem possB_in {l : List Cd} {col v : Int} (h0 : 0 ≤ col) (h3 : col ≤ 3) : possB l col v = inB_ (underF l col) v := by
  rw [Bool.eq_iff_iff]
  unfold possB inB_ underF
  rw [decide_eq_true_eq, fold_poss, span0_max h0 h3]
  simp only [Bool.and_eq_true, List.all_eq_true, Bool.not_eq_true', decide_eq_false_iff_not, decide_eq_true_eq]
  exact ⟨fun h => ⟨h.2, h.1⟩, fun h => ⟨h.2, h.1⟩⟩
/-- Looked at from above: the first possible value. -/
theorem large_none {l : List Cd} {col : Int} (h0 : 0 ≤ col) (h3 : col ≤ 3) (h : ∀ v, 0 ≤ v → v ≤ maxC col → possB l col v = false) : largeF l col = -1 := by
  unfold largeF
  split
  · rename_i hle
    exfalso
    have h1 : possB l col (underF l col).2 = true := by rw [possB_in h0 h3]; unfold inB_; simpa using hle
    have h2 : 0 ≤ (underF l col).2 ∧ (underF l col).2 ≤ maxC col := by
      unfold possB at h1
      simp only [Bool.and_eq_true, decide_eq_true_eq] at h1
      exact h1.2
    rw [h _ h2.1 h2.2] at h1
    cases h1
  · rfl
theorem large_found {l : List Cd} {col v : Int} (h0 : 0 ≤ col) (h3 : col ≤ 3) (hv : possB l col v = true) (h : ∀ u, v < u → u ≤ maxC col → possB l col u = false) : largeF l col = v := by
  have hv' := hv
  rw [possB_in h0 h3] at hv
  unfold inB_ at hv
  rw [decide_eq_true_eq] at hv
  unfold largeF
  rw [if_pos (by omega)]
  rcases (by omega : (underF l col).2 = v ∨ v < (underF l col).2) with e | e
  · exact e
  · exfalso
    have h1 : possB l col (underF l col).2 = true := by rw [possB_in h0 h3]; unfold inB_; simp; omega
    have h2 : (underF l col).2 ≤ maxC col := by
      unfold possB at h1
      simp only [Bool.and_eq_true, decide_eq_true_eq] at h1
      exact h1.2.2
    rw [h _ e h2] at h1
    cases h1
theorem large_neg (l : List Cd) {col : Int} (hl : ∀ c ∈ l, ValidCd c) : (largeF l col < 0 ↔ ¬ (underF l col).1 ≤ (underF l col).2) ∧ largeF l col ≤ 255 := by
  have := under_bd hl col
  unfold largeF
  split <;> omega
theorem satB_large {l : List Cd} (hl : ∀ c ∈ l, ValidCd c) : satB l = decide (0 ≤ largeF l 0 ∧ 0 ≤ largeF l 1 ∧ 0 ≤ largeF l 2 ∧ 0 ≤ largeF l 3) := by
  have h0 := (large_neg l (col := 0) hl).1
  have h1 := (large_neg l (col := 1) hl).1
  have h2 := (large_neg l (col := 2) hl).1
  have h3 := (large_neg l (col := 3) hl).1
  unfold satB
  rw [decide_eq_decide]
  omega
end Go.Proofs.YtagadbdbbglddaaGreatDoor
namespace Go.Proofs.YtagadbdbbglddaaGreatDoor
open Go.RowKit

theorem wpAnyH_weaker {P : Program} {md : Region.Mode} {ops : Array Oper} {Q : Exit → Act → World → Prop} {S T : World → Prop} (hST : ∀ w, T w → S w) :
    ∀ (fuel : Nat) (listed : Array Bool) (a : Act) (w : World), wpAnyH P md ops Q T fuel listed a w → wpAnyH P md ops Q S fuel listed a w
  | 0, _, _, _, h => h
  | fuel + 1, _, _, _, h => ⟨h.1, fun i hi => wpOp_mono (fun _ _ h' => ⟨hST _ h'.1, wpAnyH_weaker hST fuel _ _ _ h'.2⟩) (h.2 i hi)⟩
/-- From here on, what the world at hand holds may be relied on. -/
theorem wpAnyH_base {P : Program} {md : Region.Mode} {ops : Array Oper} {Q : Exit → Act → World → Prop} {w0 w : World} {fuel : Nat} {listed : Array Bool} {a : Act} (hb : Below w0.heap.size w0 w)
    (h : Below w.heap.size w w → wpAnyH P md ops Q (fun X => Below w.heap.size w X) fuel listed a w) : wpAnyH P md ops Q (fun X => Below w0.heap.size w0 X) fuel listed a w :=
  wpAnyH_weaker (fun _ k => hb.trans (k.mono hb.size)) _ _ _ _ (h (Below.refl _ _))
theorem hold {W : World} {p : Addr} {v : Value} (h : W.cell? p = some v) : ∀ X, Below W.heap.size W X → X.cell? p = some v := fun _ hX => (hX.cell (World.block_lt_of_cell? W p h)).trans h
theorem wp_world {P : Program} {c : Code} {Q : Exit → Act → World → Prop} {a : Act} {w0 : World} (F : World → Prop) (h0 : F w0) (h : ∀ w, F w → Code.wp P c Q a w) : Code.wp P c Q a w0 := h w0 h0
end Go.Proofs.YtagadbdbbglddaaGreatDoor
namespace Go.Proofs.YtagadbdbbglddaaGreatDoor
open Go.RowKit

/-- A row of the table: the operation's number; on which it waits; d + 1 for what it writes; at which it looks. -/
abbrev FRow := Nat × List Nat × Nat × List Nat
def tabRow (md : Region.Mode) (ops : Array Oper) (i : Nat) : FRow :=
  match ops[i]? with
  | some o => (i, (o.after.toList.filter (Region.binds md)).map (·.on), (match o.dst with | some d => d + 1 | none => 0), o.looksAt ops)
  | none => (i, [], 0, [])
def tabL (md : Region.Mode) (ops : Array Oper) : List FRow := (List.range ops.size).map (tabRow md ops)
def apartR (x y : FRow) : Bool :=
  (Nat.beq x.2.2.1 0 || (y.2.2.2.all fun t => !Nat.beq (t + 1) x.2.2.1) && !Nat.beq y.2.2.1 x.2.2.1) && (Nat.beq y.2.2.1 0 || x.2.2.2.all fun t => !Nat.beq (t + 1) y.2.2.1)
def upM (m i : Nat) : Bool := Nat.beq (Nat.land (Nat.shiftRight m i) 1) 1
def inB (n : Nat) (T : List FRow) : Bool := T.all fun r => r.2.1.all fun j => Nat.blt j n
def readyM (T : List FRow) (m : Nat) : List Nat := (T.filter fun r => !upM m r.1 && r.2.1.all (upM m)).map (·.1)
def freeM (T : List FRow) (m : Nat) (x : FRow) : Bool := T.all fun y => Nat.beq y.1 x.1 || upM m y.1 || y.2.1.any (Nat.beq x.1) || apartR x y
/-- Operation i may be taken first. -/
def takeM (T : List FRow) (m i : Nat) : Bool := match T[i]? with | none => false | some x => Nat.beq x.1 i && !upM m i && x.2.1.all (upM m) && freeM T m x
def bitsA (n m : Nat) : Array Bool := ((List.range n).map (upM m)).toArray

structure RegOk (md : Region.Mode) (ops : Array Oper) (n : Nat) (T : List FRow) : Prop where
  size : ops.size = n
  tab : tabL md ops = T
  inb : inB n T = true
  sel : Region.noSelect ops = true

theorem nbeq (a b : Nat) : Nat.beq a b = decide (a = b) := by rw [Bool.eq_iff_iff]; simp
theorem upM_eq (m i : Nat) : upM m i = m.testBit i := by
  unfold upM Nat.testBit
  rw [nbeq]
  show decide (m >>> i &&& 1 = 1) = (1 &&& m >>> i != 0)
  rw [Nat.and_comm, Nat.one_and_eq_mod_two]
  have := Nat.mod_two_eq_zero_or_one (m >>> i)
  rcases this with h | h <;> simp [h]
theorem upM_or (m i j : Nat) : upM (m ||| 2 ^ i) j = (upM m j || decide (i = j)) := by
  rw [upM_eq, upM_eq, Nat.testBit_or, Nat.testBit_two_pow]
theorem bitsA_size (n m : Nat) : (bitsA n m).size = n := by simp [bitsA]
theorem bitsA_get {n m i : Nat} (h : i < n) (b : Bool) : (bitsA n m).getD i b = upM m i := by
  simp [bitsA, Array.getD_eq_getD_getElem?, h]
theorem bitsA_set (n m i : Nat) : (bitsA n m).setIfInBounds i true = bitsA n (m ||| 2 ^ i) := by
  apply Array.ext_getElem?
  intro j
  rw [Array.getElem?_setIfInBounds, bitsA_size]
  simp only [bitsA, List.getElem?_toArray, List.getElem?_map]
  by_cases hj : j < n
  · rw [List.getElem?_range hj]
    simp only [Option.map_some, upM_or]
    by_cases e : i = j
    · subst e; simp [hj]
    · simp [e]
  · rw [List.getElem?_eq_none (by simp; omega)]
    by_cases e : i = j
    · subst e; simp [hj]
    · simp [e]
theorem bitsA_none (n : Nat) : Array.replicate n false = bitsA n 0 := by
  apply Array.ext_getElem?
  intro j
  simp only [bitsA, List.getElem?_toArray, List.getElem?_map, Array.getElem?_replicate]
  by_cases hj : j < n
  · rw [List.getElem?_range hj, if_pos hj, Option.map_some, upM_eq]; simp
  · rw [List.getElem?_eq_none (by simp; omega), if_neg hj]; rfl

section
variable {P : Program} {md : Region.Mode} {ops : Array Oper} {n : Nat} {T : List FRow} {m : Nat}

theorem RegOk.row (h : RegOk md ops n T) {i : Nat} (hi : i < n) : T[i]? = some (tabRow md ops i) := by
  rw [← h.tab, tabL, List.getElem?_map, List.getElem?_range (by rw [h.size]; exact hi)]; rfl
theorem RegOk.mem (h : RegOk md ops n T) {i : Nat} (hi : i < n) : tabRow md ops i ∈ T := List.mem_of_getElem? (h.row hi)
theorem tabRow_some {i : Nat} {o : Oper} (h : ops[i]? = some o) : tabRow md ops i = (i, (o.after.toList.filter (Region.binds md)).map (·.on), (match o.dst with | some d => d + 1 | none => 0), o.looksAt ops) := by
  unfold tabRow; rw [h]
theorem tabRow_fst (i : Nat) : (tabRow md ops i).1 = i := by unfold tabRow; split <;> rfl
theorem RegOk.on_lt (h : RegOk md ops n T) {i : Nat} {o : Oper} (ho : ops[i]? = some o) {e : Edge} (he : e ∈ o.after) (hb : Region.binds md e = true) : e.on < n := by
  have hi : i < n := by rw [← h.size]; exact (Array.getElem?_eq_some_iff.1 ho).1
  have h1 := h.inb
  unfold inB at h1
  rw [List.all_eq_true] at h1
  have h2 := h1 _ (h.mem hi)
  rw [tabRow_some ho, List.all_eq_true] at h2
  have h3 := h2 e.on (List.mem_map.2 ⟨e, List.mem_filter.2 ⟨by simpa using he, hb⟩, rfl⟩)
  exact Nat.blt_eq.mp h3
/-- Whether all that operation o waits for has come up. -/
theorem RegOk.after_all (h : RegOk md ops n T) {i : Nat} {o : Oper} (ho : ops[i]? = some o) :
    (o.after.all fun e => !Region.binds md e || (bitsA n m).getD e.on false) = ((o.after.toList.filter (Region.binds md)).map (·.on)).all (upM m) := by
  rw [← Array.all_toList, List.all_map, List.all_filter, Bool.eq_iff_iff, List.all_eq_true, List.all_eq_true]
  refine forall_congr' fun e => forall_congr' fun he => ?_
  cases hb : Region.binds md e with
  | false => simp
  | true =>
    have := h.on_lt ho (e := e) (by simpa using he) hb
    simp [bitsA_get this]
theorem RegOk.ready (h : RegOk md ops n T) : Region.ready md ops (bitsA n m) = readyM T m := by
  unfold Region.ready readyM
  rw [← h.tab, tabL, List.filter_map, List.map_map]
  have e : ((fun x : FRow => x.1) ∘ tabRow md ops) = id := funext fun i => tabRow_fst i
  rw [e, List.map_id]
  refine List.filter_congr fun i hi => ?_
  have hlt : i < ops.size := List.mem_range.1 hi
  have hn : i < n := by rw [← h.size]; exact hlt
  have ho : ops[i]? = some ops[i] := Array.getElem?_eq_getElem hlt
  simp only [Function.comp, ho, tabRow_some ho, Option.map_some, Option.getD_some, bitsA_get hn, h.after_all ho]
theorem RegOk.contains (h : RegOk md ops n T) {i : Nat} {o : Oper} (ho : ops[i]? = some o) (h1 : upM m i = false) (h2 : ((o.after.toList.filter (Region.binds md)).map (·.on)).all (upM m) = true) : (Region.ready md ops (bitsA n m)).contains i = true := by
  have hlt : i < ops.size := (Array.getElem?_eq_some_iff.1 ho).1
  have hn : i < n := by rw [← h.size]; exact hlt
  rw [List.contains_iff_mem]
  unfold Region.ready
  refine List.mem_filter.2 ⟨List.mem_range.2 hlt, ?_⟩
  simp only [ho, Option.map_some, Option.getD_some, bitsA_get hn, h.after_all ho, h1, h2]
  rfl
theorem apartR_eq {x y : Oper} {i j : Nat} (hx : ops[i]? = some x) (hy : ops[j]? = some y) (h : apartR (tabRow md ops i) (tabRow md ops j) = true) : x.apart ops y = true := by
  rw [tabRow_some hx, tabRow_some hy] at h
  unfold apartR at h
  unfold Oper.apart
  simp only [nbeq, Bool.and_eq_true, Bool.or_eq_true, decide_eq_true_eq, List.all_eq_true, Bool.not_eq_true', decide_eq_false_iff_not] at h
  obtain ⟨h1, h2⟩ := h
  cases hdx : x.dst with
  | none =>
    cases hdy : y.dst with
    | none => rfl
    | some d =>
      simp only [hdy] at h2
      rcases h2 with h2 | h2
      · omega
      · simp only [Bool.true_and, Bool.not_eq_true', List.contains_eq_mem, decide_eq_false_iff_not]
        intro hm
        exact h2 _ hm rfl
  | some c =>
    simp only [hdx] at h1
    rcases h1 with h1 | ⟨h1, h3⟩
    · omega
    · have hc : c ∉ y.looksAt ops := fun hm => h1 _ hm rfl
      cases hdy : y.dst with
      | none => simp [hc]
      | some d =>
        simp only [hdy, hdx] at h2 h3
        rcases h2 with h2 | h2
        · omega
        · have hd : d ∉ x.looksAt ops := fun hm => h2 _ hm rfl
          have hne : d ≠ c := fun e => h3 (by rw [e])
          simp [hc, hd, hne]
theorem RegOk.free (h : RegOk md ops n T) {i : Nat} {o : Oper} (ho : ops[i]? = some o) (hf : freeM T m (tabRow md ops i) = true) : Region.free md ops (bitsA n m) i = true := by
  unfold Region.free
  simp only [ho, List.all_eq_true, List.mem_range]
  intro j hj
  have hn : j < n := by rw [← h.size]; exact hj
  have hoj : ops[j]? = some ops[j] := Array.getElem?_eq_getElem hj
  unfold freeM at hf
  rw [List.all_eq_true] at hf
  have h1 := hf _ (h.mem hn)
  simp only [hoj, bitsA_get hn, nbeq, tabRow_fst, Bool.or_eq_true, decide_eq_true_eq, beq_iff_eq] at h1 ⊢
  rcases h1 with ((h1 | h1) | h1) | h1
  · exact .inl (.inl h1)
  · exact .inl (.inr h1)
  · refine .inr (.inl ?_)
    rw [tabRow_some hoj, List.any_map, List.any_filter, List.any_eq_true] at h1
    rw [← Array.any_toList, List.any_eq_true]
    obtain ⟨e, he, h2⟩ := h1
    refine ⟨e, he, ?_⟩
    simp only [Function.comp, nbeq, Bool.and_eq_true, decide_eq_true_eq, beq_iff_eq] at h2 ⊢
    exact ⟨h2.1, h2.2.symm⟩
  · exact .inr (.inr (apartR_eq ho hoj h1))

variable {Q : Exit → Act → World → Prop} {S : World → Prop}
theorem RegOk.take (h : RegOk md ops n T) {i : Nat} {oi : Oper} {v : Value} {fuel m' : Nat} {a : Act} {w : World} (hi : ops[i]? = some oi) (hc : takeM T m i = true) (hm : m ||| 2 ^ i = m')
    (hQ : ∀ c a w, Q (.panic c) (a.put oi.dst v) w → Q (.panic c) a w) (hy : YieldsIf P ops S oi v a) (hS : S w)
    (H : wpAnyH P md ops Q S fuel (bitsA n m') (a.put oi.dst v) w) : wpAnyH P md ops Q S (fuel + 1) (bitsA n m) a w := by
  have hlt : i < ops.size := (Array.getElem?_eq_some_iff.1 hi).1
  have hn : i < n := by rw [← h.size]; exact hlt
  unfold takeM at hc
  rw [h.row hn] at hc
  simp only [Bool.and_eq_true, Bool.not_eq_true'] at hc
  obtain ⟨⟨⟨_, h2⟩, h3⟩, h4⟩ := hc
  rw [tabRow_some hi] at h3
  refine wpAnyH_take hi h.sel (h.free hi h4) (h.contains hi h2 h3) hQ hy hS ?_
  rw [bitsA_set, hm]
  exact H
theorem RegOk.come (h : RegOk md ops n T) {rs : List Nat} {fuel : Nat} {a : Act} {w : World} (hr : readyM T m = rs) (hne : rs ≠ []) (H : AllReadyH P md ops Q S fuel (bitsA n m) a w rs) :
    wpAnyH P md ops Q S (fuel + 1) (bitsA n m) a w := wpAnyH_ready (h.ready.trans hr) hne H
theorem RegOk.all (h : RegOk md ops n T) (hr : readyM T m = []) {a : Act} {w : World} (H : Q .normal a w) : ∀ fuel, wpAnyH P md ops Q S fuel (bitsA n m) a w := wpAnyH_done (h.ready.trans hr) H
theorem RegOk.put_ {i m' fuel : Nat} {a : Act} {w : World} (hm : m ||| 2 ^ i = m') (H : wpAnyH P md ops Q S fuel (bitsA n m') a w) : wpAnyH P md ops Q S fuel ((bitsA n m).setIfInBounds i true) a w := by
  rw [bitsA_set, hm]; exact H
theorem RegOk.go (h : RegOk md ops n T) {a : Act} {w : World} (H : wpAnyH P md ops Q S n (bitsA n 0) a w) : wpAnyH P md ops Q S ops.size (Array.replicate ops.size false) a w := by
  rw [h.size, bitsA_none]; exact H
theorem RegOk.begin_ (h : RegOk md ops n T) {a : Act} {w : World} (H : RegOk md ops n T → wpAnyH P md ops Q S n (bitsA n 0) a w) : wpAnyH P md ops Q S ops.size (Array.replicate ops.size false) a w := h.go (H h)
end
end Go.Proofs.YtagadbdbbglddaaGreatDoor
