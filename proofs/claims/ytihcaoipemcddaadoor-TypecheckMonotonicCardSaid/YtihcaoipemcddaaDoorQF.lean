/-
  Queries, in plain words: conditions, filters, queries, ranges, bounds. No program.
-/
import Derived.Test.YtihcaoipemcddaaDoorRdF
namespace Go.Proofs.YtihcaoipemcddaaDoor
open Go.RowKit

structure Cd where
  col : Int
  lo : Int
  hi : Int
structure Qy where
  kind : Int
  col : Int
  k : Int
  fs : List (List Cd)
theorem Cd.ext_ {a b : Cd} (h1 : a.col = b.col) (h2 : a.lo = b.lo) (h3 : a.hi = b.hi) : a = b := by cases a; cases b; simp_all
def cdE : Enc Cd := (Enc.i64.pair (Enc.i64.pair Enc.i64)).via fun c => (c.col, c.lo, c.hi)
theorem cdE_open {S : Nat → Prop} {w : World} {cs : List Value} {r : Cd} (h : cdE.rep S w cs r) : cs = [.int .i64 r.col, .int .i64 r.lo, .int .i64 r.hi] := by
  obtain ⟨c1, d1, rfl, h1, c2, d2, rfl, h2, h3⟩ := h
  cases h1; cases h2; cases h3
  rfl
theorem cdE_shut {S : Nat → Prop} {w : World} {r : Cd} : cdE.rep S w [.int .i64 r.col, .int .i64 r.lo, .int .i64 r.hi] r := ⟨[_], _, rfl, rfl, [_], _, rfl, rfl, rfl⟩
theorem cdE_flat : cdE.Flat := by
  intro S T w w' cs x h
  obtain rfl := cdE_open h
  exact cdE_shut
theorem cd_at {S : Nat → Prop} {w : World} {A : Option Addr} {c i : Nat} {l : List Cd} {r : Cd} (h : Sl cdE S w A c l) (hi : l[i]? = some r) :
    ∃ b o, A = some ⟨b, o, none⟩ ∧ S b ∧ b < w.heap.size ∧ w.cell? ⟨b, o + i * 3, none⟩ = some (.int .i64 r.col) ∧ w.cell? ⟨b, o + i * 3 + 1, none⟩ = some (.int .i64 r.lo) ∧ w.cell? ⟨b, o + i * 3 + 2, none⟩ = some (.int .i64 r.hi) := by
  obtain ⟨b, o, cs, hA, hS, hb, hr, hc⟩ := h.at' hi (by decide)
  obtain rfl := cdE_open hr
  exact ⟨b, o, hA, hS, hb, hc 0 _ rfl, hc 1 _ rfl, hc 2 _ rfl⟩
theorem flt_at {S : Nat → Prop} {w : World} {A : Option Addr} {c i : Nat} {l : List (List Cd)} {r : List Cd} (h : Sl cdE.slice S w A c l) (hi : l[i]? = some r) :
    ∃ b o B d, A = some ⟨b, o, none⟩ ∧ S b ∧ b < w.heap.size ∧ w.cell? ⟨b, o + i, none⟩ = some (.slice B r.length d) ∧ Sl cdE S w B d r := by
  obtain ⟨b, o, cs, hA, hS, hb, hr, hc⟩ := h.at' hi (by decide)
  obtain ⟨B, d, rfl, hs⟩ := hr
  refine ⟨b, o, B, d, hA, hS, hb, ?_, hs⟩
  have := hc 0 _ rfl
  simpa [Enc.slice] using this
theorem i64_at {S : Nat → Prop} {w : World} {A : Option Addr} {c i : Nat} {l : List Int} {r : Int} (h : Sl .i64 S w A c l) (hi : l[i]? = some r) :
    ∃ b o, A = some ⟨b, o, none⟩ ∧ S b ∧ b < w.heap.size ∧ w.cell? ⟨b, o + i, none⟩ = some (.int .i64 r) := by
  obtain ⟨b, o, cs, hA, hS, hb, hr, hc⟩ := h.at' hi (by decide)
  cases hr
  refine ⟨b, o, hA, hS, hb, ?_⟩
  have := hc 0 _ rfl
  simpa [Enc.i64] using this
theorem i64_flat : Enc.i64.Flat := fun h => h

def maxC (c : Int) : Int := if c = 0 ∨ c = 2 then 15 else 255
def bitsC (c : Int) : Int := if c = 0 ∨ c = 2 then 4 else if c = 1 ∨ c = 3 then 8 else if c = 4 then 1 else 0
def hasColB (k : Int) : Bool := decide (2 ≤ k ∧ k ≤ 6)
def maxKF (k : Int) : Int := if k = 3 then 6 else if k = 6 then 65536 else 0
def nFilF (k : Int) : Nat := if k = 7 then 2 else 1
def sumsC (k : Int) : Int := if 1 ≤ k ∧ k ≤ 3 then 1 else if 4 ≤ k ∧ k ≤ 6 then 16 else if k = 7 then 32 else 0
def ValidCd (c : Cd) : Prop := (0 ≤ c.col ∧ c.col ≤ 3) ∧ 0 ≤ c.lo ∧ c.lo ≤ c.hi ∧ c.hi ≤ maxC c.col
instance (c : Cd) : Decidable (ValidCd c) := by unfold ValidCd; infer_instance
def validCdB (c : Cd) : Bool := decide (ValidCd c)
def ValidFlt (l : List Cd) : Prop := l.length ≤ 3 ∧ ∀ c ∈ l, ValidCd c
def validFltB (l : List Cd) : Bool := decide (l.length ≤ 3) && l.all validCdB
theorem validFltB_iff (l : List Cd) : validFltB l = true ↔ ValidFlt l := by simp [validFltB, ValidFlt, validCdB]
def HeadOk (q : Qy) : Prop := (1 ≤ q.kind ∧ q.kind ≤ 7) ∧ (0 ≤ q.col ∧ q.col ≤ 3) ∧ (q.col = 0 ∨ (2 ≤ q.kind ∧ q.kind ≤ 6)) ∧ 0 ≤ q.k ∧ q.k ≤ maxKF q.kind ∧ (q.kind = 3 ∨ q.kind = 6 → 1 ≤ q.k) ∧ q.fs.length = nFilF q.kind
instance (q : Qy) : Decidable (HeadOk q) := by unfold HeadOk; infer_instance
def validQB (q : Qy) : Bool := decide (HeadOk q) && q.fs.all validFltB
structure ValidQ (q : Qy) : Prop where
  head : HeadOk q
  flt : ∀ l ∈ q.fs, ValidFlt l
theorem validQB_iff (q : Qy) : validQB q = true ↔ ValidQ q := by
  simp only [validQB, Bool.and_eq_true, decide_eq_true_eq, List.all_eq_true, validFltB_iff]
  exact ⟨fun h => ⟨h.1, h.2⟩, fun h => ⟨h.1, h.2⟩⟩

/-- The range of a column under a filter. -/
def spanStep (col : Int) (s : Int × Int) (c : Cd) : Int × Int := if c.col = col then (max s.1 c.lo, min s.2 c.hi) else s
def span0 (col : Int) : Int × Int := (0, 2 ^ (bitsC col).toNat - 1)
def underF (l : List Cd) (col : Int) : Int × Int := l.foldl (spanStep col) (span0 col)
def satB (l : List Cd) : Bool := decide ((underF l 0).1 ≤ (underF l 0).2 ∧ (underF l 1).1 ≤ (underF l 1).2 ∧ (underF l 2).1 ≤ (underF l 2).2 ∧ (underF l 3).1 ≤ (underF l 3).2)
def possB (l : List Cd) (col v : Int) : Bool := l.all (fun c => !decide (c.col = col ∧ (v < c.lo ∨ c.hi < v))) && decide (0 ≤ v ∧ v ≤ maxC col)
def largeF (l : List Cd) (col : Int) : Int := if (underF l col).1 ≤ (underF l col).2 then (underF l col).2 else -1
def inB_ (s : Int × Int) (v : Int) : Bool := decide (s.1 ≤ v ∧ v ≤ s.2)
def bucketF (l : List Cd) (col rows : Int) (v : Nat) : Int := if inB_ (underF l col) v && satB l then rows else 0
def bucketsF (l : List Cd) (col rows : Int) : List Int := (List.range 16).map (bucketF l col rows)
def expF (q : Qy) : Nat := if q.kind = 2 then 1 else if q.kind = 3 then q.k.toNat else 0
def powF (rows m : Int) (k : Nat) : Int := rows * m ^ k
def two62 : Int := 4611686018427387904
def fl (q : Qy) (i : Nat) : List Cd := q.fs.getD i []
/-- The bounds of a query's sums, and whether they are below the limit. -/
def boundF (q : Qy) (rows : Int) : List Int × Bool :=
  if q.kind ≤ 3 then
    (if satB (fl q 0) then ([powF rows (underF (fl q 0) q.col).2 (expF q)], decide (powF rows (underF (fl q 0) q.col).2 (expF q) < two62)) else ([0], true))
  else if q.kind ≤ 6 then (bucketsF (fl q 0) q.col rows, true)
  else (bucketsF (fl q 0) 0 rows ++ bucketsF (fl q 1) 0 rows, true)
def wideB (q : Qy) : Bool := decide (4 ≤ q.kind ∧ q.kind ≤ 6 ∧ 4 < bitsC q.col)
def checkTF (q : Qy) (rows : Int) : List Int × Int :=
  if validQB q = true ∧ 0 ≤ rows ∧ rows ≤ 65536 then
    (if wideB q then ([], 140) else if (boundF q rows).2 then ((boundF q rows).1, 0) else ([], 141))
  else ([], 1)

theorem maxC_pos (c : Int) : 15 ≤ maxC c ∧ maxC c ≤ 255 := by unfold maxC; split <;> omega
theorem span0_max {c : Int} (h0 : 0 ≤ c) (h3 : c ≤ 3) : span0 c = (0, maxC c) := by
  rcases (by omega : c = 0 ∨ c = 1 ∨ c = 2 ∨ c = 3) with rfl | rfl | rfl | rfl <;> rfl
theorem spanStep_bd {col : Int} {s : Int × Int} {c : Cd} (hc : ValidCd c) (h0 : 0 ≤ s.1) (h1 : s.1 ≤ 255) (h2 : s.2 ≤ 255) (h3 : 0 ≤ s.2) :
    0 ≤ (spanStep col s c).1 ∧ (spanStep col s c).1 ≤ 255 ∧ (spanStep col s c).2 ≤ 255 ∧ 0 ≤ (spanStep col s c).2 := by
  obtain ⟨⟨-, -⟩, a, b, d⟩ := hc
  have := maxC_pos c.col
  unfold spanStep
  split
  · dsimp only; omega
  · exact ⟨h0, h1, h2, h3⟩
theorem span0_bd (col : Int) : 0 ≤ (span0 col).1 ∧ (span0 col).1 ≤ 255 ∧ (span0 col).2 ≤ 255 ∧ 0 ≤ (span0 col).2 := by
  unfold span0 bitsC
  split
  · simp
  · split
    · simp
    · split <;> simp
theorem fold_bd {col : Int} : ∀ {l : List Cd} {s : Int × Int}, (∀ c ∈ l, ValidCd c) → 0 ≤ s.1 → s.1 ≤ 255 → s.2 ≤ 255 → 0 ≤ s.2 →
    0 ≤ (l.foldl (spanStep col) s).1 ∧ (l.foldl (spanStep col) s).1 ≤ 255 ∧ (l.foldl (spanStep col) s).2 ≤ 255 ∧ 0 ≤ (l.foldl (spanStep col) s).2
  | [], _, _, h0, h1, h2, h3 => ⟨h0, h1, h2, h3⟩
  | c :: l, s, hl, h0, h1, h2, h3 => by
    obtain ⟨a, b, d, e⟩ := spanStep_bd (col := col) (s := s) (hl c (by simp)) h0 h1 h2 h3
    exact fold_bd (l := l) (fun c hc => hl c (by simp [hc])) a b d e
theorem under_bd {l : List Cd} (h : ∀ c ∈ l, ValidCd c) (col : Int) : 0 ≤ (underF l col).1 ∧ (underF l col).1 ≤ 255 ∧ (underF l col).2 ≤ 255 ∧ 0 ≤ (underF l col).2 := by
  obtain ⟨a, b, d, e⟩ := span0_bd col
  exact fold_bd h a b d e
/-- What is possible lies in the range, and the other way round. -/
theorem fold_poss {col v : Int} : ∀ {l : List Cd} {s : Int × Int}, ((l.foldl (spanStep col) s).1 ≤ v ∧ v ≤ (l.foldl (spanStep col) s).2) ↔ (s.1 ≤ v ∧ v ≤ s.2) ∧ ∀ c ∈ l, ¬ (c.col = col ∧ (v < c.lo ∨ c.hi < v))
  | [], _ => by simp
  | c :: l, s => by
    rw [List.foldl_cons, fold_poss (l := l), List.forall_mem_cons]
    unfold spanStep
    split
    · dsimp only
      constructor
      · rintro ⟨⟨h1, h2⟩, h3⟩
        exact ⟨⟨by omega, by omega⟩, by omega, h3⟩
      · rintro ⟨⟨h1, h2⟩, h3, h4⟩
        exact ⟨⟨by omega, by omega⟩, h4⟩
    · constructor
      · rintro ⟨h1, h3⟩
        exact ⟨h1, fun h => by omega, h3⟩
      · rintro ⟨h1, _, h4⟩
        exact ⟨h1, h4⟩
theorem possB_in {l : List Cd} {col v : Int} (h0 : 0 ≤ col) (h3 : col ≤ 3) : possB l col v = inB_ (underF l col) v := by
  rw [Bool.eq_iff_iff]
  unfold possB inB_ underF
  rw [decide_eq_true_eq, fold_poss, span0_max h0 h3]
  simp only [Bool.and_eq_true, List.all_eq_true, Bool.not_eq_true', decide_eq_false_iff_not, decide_eq_true_eq]
  exact ⟨fun h => ⟨h.2, h.1⟩, fun h => ⟨h.2, h.1⟩⟩
/-- Looked at from above: the first possible value. -/
theorem large_none {l : List Cd} {col : Int} (h0 : 0 ≤ col) (h3 : col ≤ 3) (h : ∀ v, 0 ≤ v → v ≤ maxC col → possB l col v = false) : largeF l col = -1 := by
  unfold largeF
  split
  · rename_i hle
    exfalso
    have h1 : possB l col (underF l col).2 = true := by rw [possB_in h0 h3]; unfold inB_; simpa using hle
    have h2 : 0 ≤ (underF l col).2 ∧ (underF l col).2 ≤ maxC col := by
      unfold possB at h1
      simp only [Bool.and_eq_true, decide_eq_true_eq] at h1
      exact h1.2
    rw [h _ h2.1 h2.2] at h1
    cases h1
  · rfl
theorem large_found {l : List Cd} {col v : Int} (h0 : 0 ≤ col) (h3 : col ≤ 3) (hv : possB l col v = true) (h : ∀ u, v < u → u ≤ maxC col → possB l col u = false) : largeF l col = v := by
  have hv' := hv
  rw [possB_in h0 h3] at hv
  unfold inB_ at hv
  rw [decide_eq_true_eq] at hv
  unfold largeF
  rw [if_pos (by omega)]
  rcases (by omega : (underF l col).2 = v ∨ v < (underF l col).2) with e | e
  · exact e
  · exfalso
    have h1 : possB l col (underF l col).2 = true := by rw [possB_in h0 h3]; unfold inB_; simp; omega
    have h2 : (underF l col).2 ≤ maxC col := by
      unfold possB at h1
      simp only [Bool.and_eq_true, decide_eq_true_eq] at h1
      exact h1.2.2
    rw [h _ e h2] at h1
    cases h1
theorem large_neg (l : List Cd) {col : Int} (hl : ∀ c ∈ l, ValidCd c) : (largeF l col < 0 ↔ ¬ (underF l col).1 ≤ (underF l col).2) ∧ largeF l col ≤ 255 := by
  have := under_bd hl col
  unfold largeF
  split <;> omega
theorem satB_large {l : List Cd} (hl : ∀ c ∈ l, ValidCd c) : satB l = decide (0 ≤ largeF l 0 ∧ 0 ≤ largeF l 1 ∧ 0 ≤ largeF l 2 ∧ 0 ≤ largeF l 3) := by
  have h0 := (large_neg l (col := 0) hl).1
  have h1 := (large_neg l (col := 1) hl).1
  have h2 := (large_neg l (col := 2) hl).1
  have h3 := (large_neg l (col := 3) hl).1
  unfold satB
  rw [decide_eq_decide]
  omega
end Go.Proofs.YtihcaoipemcddaaDoor
