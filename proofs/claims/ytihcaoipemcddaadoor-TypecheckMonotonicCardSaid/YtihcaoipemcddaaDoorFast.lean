/-
  A drawn region's order, reckoned over a table of numbers and one number (bit i: operation i has come up): cheap for the kernel. Of no program.
-/
import Derived.Test.YtihcaoipemcddaaDoorReg
namespace Go.Proofs.YtihcaoipemcddaaDoor
open Go.RowKit

/-- A row of the table: the operation's number; on which it waits; d + 1 for what it writes; at which it looks. -/
abbrev FRow := Nat × List Nat × Nat × List Nat
def tabRow (md : Region.Mode) (ops : Array Oper) (i : Nat) : FRow :=
  match ops[i]? with
  | some o => (i, (o.after.toList.filter (Region.binds md)).map (·.on), (match o.dst with | some d => d + 1 | none => 0), o.looksAt ops)
  | none => (i, [], 0, [])
def tabL (md : Region.Mode) (ops : Array Oper) : List FRow := (List.range ops.size).map (tabRow md ops)
def apartR (x y : FRow) : Bool :=
  (Nat.beq x.2.2.1 0 || (y.2.2.2.all fun t => !Nat.beq (t + 1) x.2.2.1) && !Nat.beq y.2.2.1 x.2.2.1) && (Nat.beq y.2.2.1 0 || x.2.2.2.all fun t => !Nat.beq (t + 1) y.2.2.1)
def upM (m i : Nat) : Bool := Nat.beq (Nat.land (Nat.shiftRight m i) 1) 1
def inB (n : Nat) (T : List FRow) : Bool := T.all fun r => r.2.1.all fun j => Nat.blt j n
def readyM (T : List FRow) (m : Nat) : List Nat := (T.filter fun r => !upM m r.1 && r.2.1.all (upM m)).map (·.1)
def freeM (T : List FRow) (m : Nat) (x : FRow) : Bool := T.all fun y => Nat.beq y.1 x.1 || upM m y.1 || y.2.1.any (Nat.beq x.1) || apartR x y
/-- Operation i may be taken first. -/
def takeM (T : List FRow) (m i : Nat) : Bool := match T[i]? with | none => false | some x => Nat.beq x.1 i && !upM m i && x.2.1.all (upM m) && freeM T m x
def bitsA (n m : Nat) : Array Bool := ((List.range n).map (upM m)).toArray

structure RegOk (md : Region.Mode) (ops : Array Oper) (n : Nat) (T : List FRow) : Prop where
  size : ops.size = n
  tab : tabL md ops = T
  inb : inB n T = true
  sel : Region.noSelect ops = true

theorem nbeq (a b : Nat) : Nat.beq a b = decide (a = b) := by rw [Bool.eq_iff_iff]; simp
theorem upM_eq (m i : Nat) : upM m i = m.testBit i := by
  unfold upM Nat.testBit
  rw [nbeq]
  show decide (m >>> i &&& 1 = 1) = (1 &&& m >>> i != 0)
  rw [Nat.and_comm, Nat.one_and_eq_mod_two]
  have := Nat.mod_two_eq_zero_or_one (m >>> i)
  rcases this with h | h <;> simp [h]
theorem upM_or (m i j : Nat) : upM (m ||| 2 ^ i) j = (upM m j || decide (i = j)) := by
  rw [upM_eq, upM_eq, Nat.testBit_or, Nat.testBit_two_pow]
theorem bitsA_size (n m : Nat) : (bitsA n m).size = n := by simp [bitsA]
theorem bitsA_get {n m i : Nat} (h : i < n) (b : Bool) : (bitsA n m).getD i b = upM m i := by
  simp [bitsA, Array.getD_eq_getD_getElem?, h]
theorem bitsA_set (n m i : Nat) : (bitsA n m).setIfInBounds i true = bitsA n (m ||| 2 ^ i) := by
  apply Array.ext_getElem?
  intro j
  rw [Array.getElem?_setIfInBounds, bitsA_size]
  simp only [bitsA, List.getElem?_toArray, List.getElem?_map]
  by_cases hj : j < n
  · rw [List.getElem?_range hj]
    simp only [Option.map_some, upM_or]
    by_cases e : i = j
    · subst e; simp [hj]
    · simp [e]
  · rw [List.getElem?_eq_none (by simp; omega)]
    by_cases e : i = j
    · subst e; simp [hj]
    · simp [e]
theorem bitsA_none (n : Nat) : Array.replicate n false = bitsA n 0 := by
  apply Array.ext_getElem?
  intro j
  simp only [bitsA, List.getElem?_toArray, List.getElem?_map, Array.getElem?_replicate]
  by_cases hj : j < n
  · rw [List.getElem?_range hj, if_pos hj, Option.map_some, upM_eq]; simp
  · rw [List.getElem?_eq_none (by simp; omega), if_neg hj]; rfl

section
variable {P : Program} {md : Region.Mode} {ops : Array Oper} {n : Nat} {T : List FRow} {m : Nat}

theorem RegOk.row (h : RegOk md ops n T) {i : Nat} (hi : i < n) : T[i]? = some (tabRow md ops i) := by
  rw [← h.tab, tabL, List.getElem?_map, List.getElem?_range (by rw [h.size]; exact hi)]; rfl
theorem RegOk.mem (h : RegOk md ops n T) {i : Nat} (hi : i < n) : tabRow md ops i ∈ T := List.mem_of_getElem? (h.row hi)
theorem tabRow_some {i : Nat} {o : Oper} (h : ops[i]? = some o) : tabRow md ops i = (i, (o.after.toList.filter (Region.binds md)).map (·.on), (match o.dst with | some d => d + 1 | none => 0), o.looksAt ops) := by
  unfold tabRow; rw [h]
theorem tabRow_fst (i : Nat) : (tabRow md ops i).1 = i := by unfold tabRow; split <;> rfl
theorem RegOk.on_lt (h : RegOk md ops n T) {i : Nat} {o : Oper} (ho : ops[i]? = some o) {e : Edge} (he : e ∈ o.after) (hb : Region.binds md e = true) : e.on < n := by
  have hi : i < n := by rw [← h.size]; exact (Array.getElem?_eq_some_iff.1 ho).1
  have h1 := h.inb
  unfold inB at h1
  rw [List.all_eq_true] at h1
  have h2 := h1 _ (h.mem hi)
  rw [tabRow_some ho, List.all_eq_true] at h2
  have h3 := h2 e.on (List.mem_map.2 ⟨e, List.mem_filter.2 ⟨by simpa using he, hb⟩, rfl⟩)
  exact Nat.blt_eq.mp h3
/-- Whether all that operation o waits for has come up. -/
theorem RegOk.after_all (h : RegOk md ops n T) {i : Nat} {o : Oper} (ho : ops[i]? = some o) :
    (o.after.all fun e => !Region.binds md e || (bitsA n m).getD e.on false) = ((o.after.toList.filter (Region.binds md)).map (·.on)).all (upM m) := by
  rw [← Array.all_toList, List.all_map, List.all_filter, Bool.eq_iff_iff, List.all_eq_true, List.all_eq_true]
  refine forall_congr' fun e => forall_congr' fun he => ?_
  cases hb : Region.binds md e with
  | false => simp
  | true =>
    have := h.on_lt ho (e := e) (by simpa using he) hb
    simp [bitsA_get this]
theorem RegOk.ready (h : RegOk md ops n T) : Region.ready md ops (bitsA n m) = readyM T m := by
  unfold Region.ready readyM
  rw [← h.tab, tabL, List.filter_map, List.map_map]
  have e : ((fun x : FRow => x.1) ∘ tabRow md ops) = id := funext fun i => tabRow_fst i
  rw [e, List.map_id]
  refine List.filter_congr fun i hi => ?_
  have hlt : i < ops.size := List.mem_range.1 hi
  have hn : i < n := by rw [← h.size]; exact hlt
  have ho : ops[i]? = some ops[i] := Array.getElem?_eq_getElem hlt
  simp only [Function.comp, ho, tabRow_some ho, Option.map_some, Option.getD_some, bitsA_get hn, h.after_all ho]
theorem RegOk.contains (h : RegOk md ops n T) {i : Nat} {o : Oper} (ho : ops[i]? = some o) (h1 : upM m i = false) (h2 : ((o.after.toList.filter (Region.binds md)).map (·.on)).all (upM m) = true) : (Region.ready md ops (bitsA n m)).contains i = true := by
  have hlt : i < ops.size := (Array.getElem?_eq_some_iff.1 ho).1
  have hn : i < n := by rw [← h.size]; exact hlt
  rw [List.contains_iff_mem]
  unfold Region.ready
  refine List.mem_filter.2 ⟨List.mem_range.2 hlt, ?_⟩
  simp only [ho, Option.map_some, Option.getD_some, bitsA_get hn, h.after_all ho, h1, h2]
  rfl
theorem apartR_eq {x y : Oper} {i j : Nat} (hx : ops[i]? = some x) (hy : ops[j]? = some y) (h : apartR (tabRow md ops i) (tabRow md ops j) = true) : x.apart ops y = true := by
  rw [tabRow_some hx, tabRow_some hy] at h
  unfold apartR at h
  unfold Oper.apart
  simp only [nbeq, Bool.and_eq_true, Bool.or_eq_true, decide_eq_true_eq, List.all_eq_true, Bool.not_eq_true', decide_eq_false_iff_not] at h
  obtain ⟨h1, h2⟩ := h
  cases hdx : x.dst with
  | none =>
    cases hdy : y.dst with
    | none => rfl
    | some d =>
      simp only [hdy] at h2
      rcases h2 with h2 | h2
      · omega
      · simp only [Bool.true_and, Bool.not_eq_true', List.contains_eq_mem, decide_eq_false_iff_not]
        intro hm
        exact h2 _ hm rfl
  | some c =>
    simp only [hdx] at h1
    rcases h1 with h1 | ⟨h1, h3⟩
    · omega
    · have hc : c ∉ y.looksAt ops := fun hm => h1 _ hm rfl
      cases hdy : y.dst with
      | none => simp [hc]
      | some d =>
        simp only [hdy, hdx] at h2 h3
        rcases h2 with h2 | h2
        · omega
        · have hd : d ∉ x.looksAt ops := fun hm => h2 _ hm rfl
          have hne : d ≠ c := fun e => h3 (by rw [e])
          simp [hc, hd, hne]
theorem RegOk.free (h : RegOk md ops n T) {i : Nat} {o : Oper} (ho : ops[i]? = some o) (hf : freeM T m (tabRow md ops i) = true) : Region.free md ops (bitsA n m) i = true := by
  unfold Region.free
  simp only [ho, List.all_eq_true, List.mem_range]
  intro j hj
  have hn : j < n := by rw [← h.size]; exact hj
  have hoj : ops[j]? = some ops[j] := Array.getElem?_eq_getElem hj
  unfold freeM at hf
  rw [List.all_eq_true] at hf
  have h1 := hf _ (h.mem hn)
  simp only [hoj, bitsA_get hn, nbeq, tabRow_fst, Bool.or_eq_true, decide_eq_true_eq, beq_iff_eq] at h1 ⊢
  rcases h1 with ((h1 | h1) | h1) | h1
  · exact .inl (.inl h1)
  · exact .inl (.inr h1)
  · refine .inr (.inl ?_)
    rw [tabRow_some hoj, List.any_map, List.any_filter, List.any_eq_true] at h1
    rw [← Array.any_toList, List.any_eq_true]
    obtain ⟨e, he, h2⟩ := h1
    refine ⟨e, he, ?_⟩
    simp only [Function.comp, nbeq, Bool.and_eq_true, decide_eq_true_eq, beq_iff_eq] at h2 ⊢
    exact ⟨h2.1, h2.2.symm⟩
  · exact .inr (.inr (apartR_eq ho hoj h1))

variable {Q : Exit → Act → World → Prop} {S : World → Prop}
theorem RegOk.take (h : RegOk md ops n T) {i : Nat} {oi : Oper} {v : Value} {fuel m' : Nat} {a : Act} {w : World} (hi : ops[i]? = some oi) (hc : takeM T m i = true) (hm : m ||| 2 ^ i = m')
    (hQ : ∀ c a w, Q (.panic c) (a.put oi.dst v) w → Q (.panic c) a w) (hy : YieldsIf P ops S oi v a) (hS : S w)
    (H : wpAnyH P md ops Q S fuel (bitsA n m') (a.put oi.dst v) w) : wpAnyH P md ops Q S (fuel + 1) (bitsA n m) a w := by
  have hlt : i < ops.size := (Array.getElem?_eq_some_iff.1 hi).1
  have hn : i < n := by rw [← h.size]; exact hlt
  unfold takeM at hc
  rw [h.row hn] at hc
  simp only [Bool.and_eq_true, Bool.not_eq_true'] at hc
  obtain ⟨⟨⟨_, h2⟩, h3⟩, h4⟩ := hc
  rw [tabRow_some hi] at h3
  refine wpAnyH_take hi h.sel (h.free hi h4) (h.contains hi h2 h3) hQ hy hS ?_
  rw [bitsA_set, hm]
  exact H
theorem RegOk.come (h : RegOk md ops n T) {rs : List Nat} {fuel : Nat} {a : Act} {w : World} (hr : readyM T m = rs) (hne : rs ≠ []) (H : AllReadyH P md ops Q S fuel (bitsA n m) a w rs) :
    wpAnyH P md ops Q S (fuel + 1) (bitsA n m) a w := wpAnyH_ready (h.ready.trans hr) hne H
theorem RegOk.all (h : RegOk md ops n T) (hr : readyM T m = []) {a : Act} {w : World} (H : Q .normal a w) : ∀ fuel, wpAnyH P md ops Q S fuel (bitsA n m) a w := wpAnyH_done (h.ready.trans hr) H
theorem RegOk.put_ {i m' fuel : Nat} {a : Act} {w : World} (hm : m ||| 2 ^ i = m') (H : wpAnyH P md ops Q S fuel (bitsA n m') a w) : wpAnyH P md ops Q S fuel ((bitsA n m).setIfInBounds i true) a w := by
  rw [bitsA_set, hm]; exact H
theorem RegOk.go (h : RegOk md ops n T) {a : Act} {w : World} (H : wpAnyH P md ops Q S n (bitsA n 0) a w) : wpAnyH P md ops Q S ops.size (Array.replicate ops.size false) a w := by
  rw [h.size, bitsA_none]; exact H
theorem RegOk.begin_ (h : RegOk md ops n T) {a : Act} {w : World} (H : RegOk md ops n T → wpAnyH P md ops Q S n (bitsA n 0) a w) : wpAnyH P md ops Q S ops.size (Array.replicate ops.size false) a w := h.go (H h)
/-- What a guard asks, off the frame. -/
theorem RegOk.want (h : RegOk md ops n T) {o : Oper} {g d : Nat} {b b' : Bool} {a : Act} (hg : o.guard = some (g, b)) (hd : ((T[g]?).map (·.2.2.1)) = some (d + 1)) (ha : a.tmps[d]? = some (.bool b')) : Region.wanted o (yielded ops a.tmps) = (b' == b) := by
  have hgn : g < n := by
    have : g < T.length := by
      rcases hq : T[g]? with _ | r
      · rw [hq] at hd; cases hd
      · exact (List.getElem?_eq_some_iff.1 hq).1
    rw [← h.tab, tabL] at this
    simpa [h.size] using this
  rw [h.row hgn] at hd
  have hlt : g < ops.size := by rw [h.size]; exact hgn
  have ho : ops[g]? = some ops[g] := Array.getElem?_eq_getElem hlt
  rw [tabRow_some ho] at hd
  simp only [Option.map_some, Option.some.injEq] at hd
  unfold Region.wanted yielded
  rw [hg]
  cases hdd : ops[g].dst with
  | none => rw [hdd] at hd; simp at hd
  | some c =>
    rw [hdd] at hd
    simp only [Nat.add_right_cancel_iff] at hd
    subst hd
    simp only [ho, Option.bind_some, hdd, ha]
    cases b <;> cases b' <;> rfl
theorem RegOk.wants (h : RegOk md ops n T) {o : Oper} {g d : Nat} {b : Bool} {a : Act} {p q : Prop} (hg : o.guard = some (g, b)) (hd : ((T[g]?).map (·.2.2.1)) = some (d + 1)) (ha : a.tmps[d]? = some (.bool b)) (hp : p) :
    if Region.wanted o (yielded ops a.tmps) = true then p else q := by
  rw [h.want hg hd ha, beq_self_eq_true, if_pos rfl]; exact hp
end
end Go.Proofs.YtihcaoipemcddaaDoor
