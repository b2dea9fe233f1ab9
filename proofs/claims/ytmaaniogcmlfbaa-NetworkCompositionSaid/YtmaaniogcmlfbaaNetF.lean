/-
  The network, in plain words: packets, networks, what the operations make of them, and what the laws say of that. No program.
-/
import Derived.Test.YtmaaniogcmlfbaaApp
import Derived.WalkKit
import Derived.WalkLawsBesides
namespace Go.Proofs.Ytmaaniogcmlfbaa
open Go.RowKit

structure Pk where
  fr : Int
  to_ : Int
  at_ : Int
  b : List UInt8
structure Nt where
  now : Int
  way : List Pk

def pkE : Enc Pk := ((Enc.i64.pair (Enc.i64.pair (Enc.i64.pair Enc.u8.slice)))).via fun p => (p.fr, p.to_, p.at_, p.b)
theorem pkE_open {S : Nat → Prop} {w : World} {cs : List Value} {p : Pk} (h : pkE.rep S w cs p) :
    ∃ A c, cs = [.int .i64 p.fr, .int .i64 p.to_, .int .i64 p.at_, .slice A p.b.length c] ∧ Sl .u8 S w A c p.b := by
  obtain ⟨c1, d1, rfl, h1, c2, d2, rfl, h2, c3, d3, rfl, h3, A, c, rfl, h4⟩ := h
  cases h1; cases h2; cases h3
  exact ⟨A, c, rfl, h4⟩
theorem pkE_shut {S : Nat → Prop} {w : World} {p : Pk} {A : Option Addr} {c : Nat} (h : Sl .u8 S w A c p.b) :
    pkE.rep S w [.int .i64 p.fr, .int .i64 p.to_, .int .i64 p.at_, .slice A p.b.length c] p :=
  ⟨[_], _, rfl, rfl, [_], _, rfl, rfl, [_], _, rfl, rfl, A, c, rfl, h⟩

theorem pk_at {S : Nat → Prop} {w : World} {A : Option Addr} {c i : Nat} {way : List Pk} {p : Pk} (h : Sl pkE S w A c way) (hi : way[i]? = some p) :
    ∃ b o B d, A = some ⟨b, o, none⟩ ∧ S b ∧ b < w.heap.size ∧ w.cell? ⟨b, o + i * 4, none⟩ = some (.int .i64 p.fr) ∧ w.cell? ⟨b, o + i * 4 + 1, none⟩ = some (.int .i64 p.to_) ∧
      w.cell? ⟨b, o + i * 4 + 2, none⟩ = some (.int .i64 p.at_) ∧ w.cell? ⟨b, o + i * 4 + 3, none⟩ = some (.slice B p.b.length d) ∧ Sl .u8 S w B d p.b := by
  obtain ⟨b, o, cs, hA, hS, hb, hr, hc⟩ := h.at' hi (by decide)
  obtain ⟨B, d, rfl, hs⟩ := pkE_open hr
  exact ⟨b, o, B, d, hA, hS, hb, hc 0 _ rfl, hc 1 _ rfl, hc 2 _ rfl, hc 3 _ rfl, hs⟩

def withF (n : Nt) (p : Pk) : Nt := if 512 ≤ n.way.length then n else ⟨n.now, n.way ++ [p]⟩
def withoutF (n : Nt) (i : Nat) : Nt := ⟨n.now, n.way.eraseIdx i⟩

/-- What was there, or is new. -/
def Fresh (S : Nat → Prop) (w : World) : Nat → Prop := fun b => S b ∨ w.heap.size ≤ b

/-- What Made makes of an operation's packet. -/
def madeF (p : Pk) : Pk := ⟨p.fr, p.to_, p.at_.tmod 1000, p.b.take 40⟩

/-- The byte that an alteration writes. -/
def xv (by_ m : Int) : Int := wrap64 (1 + (wrap64 (by_.tdiv m)).tmod 255) % 256
def altU (u : UInt8) (by_ m : Int) : UInt8 := UInt8.ofNat (bits BinOp.xor IntKind.u8 (u.toNat : Int) (xv by_ m)).toNat
def altB (by_ : Int) (b : List UInt8) : List UInt8 := b.set (by_ % (b.length : Int)).toNat (altU (b.getD (by_ % (b.length : Int)).toNat 0) by_ b.length)
def alterF (n : Nt) (i : Nat) (p : Pk) (by_ : Int) : Nt := ⟨n.now, n.way.set i { p with b := altB by_ p.b }⟩

/-- The packet's tick as it is sent. -/
def lateF (n : Nt) (p : Pk) : Pk := { p with at_ := max p.at_ n.now }

def deliverF (n : Nt) (i : Nat) (p : Pk) : Nt × List Pk := if p.at_ ≤ n.now then (withoutF n i, [p]) else (n, [])
/-- What a tick makes of the network. -/
def tickF (n : Nt) (by_ : Int) : Nt := if 1 ≤ by_ ∧ by_ ≤ 1000000 ∧ n.now + by_ ≤ 1000000000 then ⟨n.now + by_, n.way⟩ else n
def atF (n : Nt) (kd : Int) (i : Nat) (by_ : Int) (p : Pk) : Nt × List Pk :=
  if kd = 1 then (if p.at_ ≤ n.now then (withoutF n i, [p]) else (n, []))
  else if kd = 2 then (withoutF n i, [])
  else if kd = 3 then (withF n p, [])
  else if kd = 4 then (if p.b.length = 0 ∨ by_ < 0 then (n, []) else (alterF n i p by_, []))
  else (n, [])
/-- What an event makes of the network, and what it delivers. -/
def applyF (n : Nt) (kd at_ by_ : Int) : Nt × List Pk :=
  if kd = 5 then (tickF n by_, [])
  else if at_ < 0 then (n, [])
  else match n.way[at_.toNat]? with
    | none => (n, [])
    | some p => atF n kd at_.toNat by_ p

/-- The two results of Apply. -/
def ApRes (S : Nat → Prop) (w : World) (n : Nt) (ds : List Pk) (e : Ending) (w' : World) : Prop :=
  ∃ A' c' A2 c2, e = .returned (.tuple #[.agg #[.int .i64 n.now, .slice A' n.way.length c'], .slice A2 ds.length c2]) ∧ Sl pkE (Fresh S w) w' A' c' n.way ∧ Sl pkE (Fresh S w) w' A2 c2 ds ∧ Below w.heap.size w w'
theorem ApRes.same {S : Nat → Prop} {w w' : World} {n : Nt} {A : Option Addr} {c : Nat} {now : Int} {e : Ending} (h : Sl pkE S w A c n.way) (he : e = .returned (.tuple #[.agg #[.int .i64 now, .slice A n.way.length c], .slice none 0 0])) (hb : Below w.heap.size w w') :
    ApRes S w ⟨now, n.way⟩ [] e w' :=
  ⟨A, c, none, 0, he, (h.sub fun _ hb _ => .inl hb).keep (Below.agree hb), Sl.nil_ _ _ _ _ (Nat.zero_le _), hb⟩

/-- What holds of every network of a history. -/
structure NtOk (n : Nt) : Prop where
  lo : 0 ≤ n.now
  hi : n.now ≤ 1000000000
  len : n.way.length ≤ 512
  bytes : ∀ p ∈ n.way, p.b.length ≤ 40

theorem mem_of_get {α : Type} {l : List α} {i : Nat} {x : α} (h : l[i]? = some x) : x ∈ l := List.mem_of_getElem? h

/-! The invariant. -/
theorem NtOk.with {n : Nt} {p : Pk} (ok : NtOk n) (hp : p.b.length ≤ 40) : NtOk (withF n p) := by
  unfold withF
  split
  · exact ok
  · refine ⟨ok.lo, ok.hi, by simp; omega, fun q hq => ?_⟩
    rcases List.mem_append.1 hq with h | h
    · exact ok.bytes q h
    · simp at h; subst h; exact hp
theorem NtOk.send {n : Nt} {p : Pk} (ok : NtOk n) (hp : p.b.length ≤ 40) : NtOk (withF n (lateF n p)) := ok.with hp
theorem NtOk.without {n : Nt} (i : Nat) (ok : NtOk n) : NtOk (withoutF n i) :=
  ⟨ok.lo, ok.hi, Nat.le_trans (List.length_eraseIdx_le _ _) ok.len, fun q hq => ok.bytes q (List.mem_of_mem_eraseIdx hq)⟩
theorem NtOk.alter {n : Nt} {i : Nat} {p : Pk} (by_ : Int) (ok : NtOk n) (hp : p.b.length ≤ 40) : NtOk (alterF n i p by_) := by
  refine ⟨ok.lo, ok.hi, by simp only [alterF, List.length_set]; exact ok.len, fun q hq => ?_⟩
  rcases List.mem_or_eq_of_mem_set hq with h | h
  · exact ok.bytes q h
  · subst h; simpa [altB] using hp
theorem NtOk.tick {n : Nt} (by_ : Int) (ok : NtOk n) : NtOk (tickF n by_) := by
  unfold tickF
  split
  · rename_i h; exact ⟨by have := ok.lo; simp only; omega, h.2.2, ok.len, ok.bytes⟩
  · exact ok
theorem NtOk.apply {n : Nt} (ok : NtOk n) (kd at_ by_ : Int) : NtOk (applyF n kd at_ by_).1 ∧ (applyF n kd at_ by_).2.length ≤ 1 ∧ ∀ q ∈ (applyF n kd at_ by_).2, q.b.length ≤ 40 := by
  unfold applyF
  split
  · exact ⟨ok.tick by_, by simp, by simp⟩
  split
  · exact ⟨ok, by simp, by simp⟩
  split
  · exact ⟨ok, by simp, by simp⟩
  · rename_i p hp
    have hb := ok.bytes p (mem_of_get hp)
    unfold atF
    split
    · split
      · exact ⟨ok.without _, by simp, by simpa using hb⟩
      · exact ⟨ok, by simp, by simp⟩
    split
    · exact ⟨ok.without _, by simp, by simp⟩
    split
    · exact ⟨ok.with hb, by simp, by simp⟩
    split
    · split
      · exact ⟨ok, by simp, by simp⟩
      · exact ⟨ok.alter by_ hb, by simp, by simp⟩
    · exact ⟨ok, by simp, by simp⟩
/-- An operation: an event, or the sending of a packet. -/
structure NOp where
  kd : Int
  at_ : Int
  by_ : Int
  p : Pk
  send : Bool
structure Ev where
  kd : Int
  at_ : Int
  by_ : Int

def sendF (n : Nt) (p : Pk) : Nt := withF n (lateF n p)
def stepF (n : Nt) (o : NOp) : Nt := if o.send then sendF n (madeF o.p) else (applyF n o.kd o.at_ o.by_).1
def histF (l : List NOp) : Nt := l.foldl stepF ⟨0, []⟩
/-- Run: the network and what was delivered. -/
def runF (n : Nt) (es : List Ev) : Nt × List Pk := es.foldl (fun s e => ((applyF s.1 e.kd e.at_ e.by_).1, s.2 ++ (applyF s.1 e.kd e.at_ e.by_).2)) (n, [])

theorem madeF_len (p : Pk) : (madeF p).b.length ≤ 40 := by simp [madeF]; omega
theorem ok0 : NtOk ⟨0, []⟩ := ⟨by decide, by decide, by simp, by simp⟩
theorem NtOk.step {n : Nt} (ok : NtOk n) (o : NOp) : NtOk (stepF n o) := by
  unfold stepF
  split
  · exact ok.send (madeF_len _)
  · exact (ok.apply _ _ _).1
theorem foldl_ok (l : List NOp) : ∀ n, NtOk n → NtOk (l.foldl stepF n) := by
  induction l with
  | nil => exact fun _ h => h
  | cons o l ih => exact fun n h => ih _ (h.step o)
theorem histF_ok (l : List NOp) : NtOk (histF l) := foldl_ok l _ ok0
theorem histF_snoc (l : List NOp) (o : NOp) : histF (l ++ [o]) = stepF (histF l) o := by simp [histF]
theorem take_snoc' {α : Type} {l : List α} {k : Nat} {o : α} (h : l[k]? = some o) : l.take (k + 1) = l.take k ++ [o] := by
  rw [List.take_add_one, h]; rfl
theorem histF_take {l : List NOp} {k : Nat} {o : NOp} (h : l[k]? = some o) : histF (l.take (k + 1)) = stepF (histF (l.take k)) o := by rw [take_snoc' h, histF_snoc]

/-- How long the way is after an event. -/
theorem applyF_len (n : Nt) (kd at_ by_ : Int) :
    (applyF n kd at_ by_).2.length ≤ 1 ∧ (applyF n kd at_ by_).1.way.length ≤ n.way.length + 1 ∧ n.way.length ≤ (applyF n kd at_ by_).1.way.length + 1 ∧
      ((applyF n kd at_ by_).2.length = 1 → (applyF n kd at_ by_).1.way.length + 1 = n.way.length) ∧ (kd ≠ 3 → (applyF n kd at_ by_).1.way.length ≤ n.way.length) ∧ (kd = 3 → n.way.length ≤ (applyF n kd at_ by_).1.way.length) := by
  unfold applyF
  split
  · simp only [tickF]; split <;> simp
  split
  · simp
  split
  · simp
  · rename_i p hp
    have hi := (List.getElem?_eq_some_iff.1 hp).1
    have he : (n.way.eraseIdx at_.toNat).length + 1 = n.way.length := by rw [List.length_eraseIdx, if_pos hi]; omega
    unfold atF
    split
    · split
      · simp only [withoutF, List.length_singleton]; omega
      · simp
    split
    · simp only [withoutF, List.length_nil]; omega
    split
    · rename_i h3
      simp only [withF]; split
      · simp
      · simp [h3]; omega
    split
    · split
      · simp
      · simp [alterF]
    · simp
theorem sendF_len (n : Nt) (p : Pk) (h : n.way.length < 512) : (sendF n p).way.length = n.way.length + 1 := by
  simp only [sendF, withF]; rw [if_neg (by omega)]; simp
theorem hist_len (l : List NOp) : ∀ n, ((l.foldl stepF n).way.length ≤ n.way.length + l.length) := by
  induction l with
  | nil => simp
  | cons o l ih =>
    intro n
    have h1 := ih (stepF n o)
    have h2 : (stepF n o).way.length ≤ n.way.length + 1 := by
      unfold stepF
      split
      · simp only [sendF, withF]; split <;> simp
      · exact (applyF_len n _ _ _).2.1
    simp only [List.foldl_cons, List.length_cons]
    omega
theorem histF_len (l : List NOp) : (histF l).way.length ≤ l.length := by have h := hist_len l ⟨0, []⟩; simpa [histF] using h

/-! What happens to the clock and to the ticks. -/
theorem applyF_now (n : Nt) (kd at_ by_ : Int) : n.now ≤ (applyF n kd at_ by_).1.now ∧ ∀ q ∈ (applyF n kd at_ by_).2, q.at_ ≤ n.now := by
  unfold applyF
  split
  · simp only [tickF]; split
    · exact ⟨by simp only; omega, by simp⟩
    · exact ⟨Int.le_refl _, by simp⟩
  split
  · exact ⟨Int.le_refl _, by simp⟩
  split
  · exact ⟨Int.le_refl _, by simp⟩
  · unfold atF
    split
    · split
      · exact ⟨Int.le_refl _, by simpa⟩
      · exact ⟨Int.le_refl _, by simp⟩
    split
    · exact ⟨Int.le_refl _, by simp⟩
    split
    · simp only [withF]; split <;> exact ⟨Int.le_refl _, by simp⟩
    split
    · split <;> exact ⟨Int.le_refl _, by simp⟩
    · exact ⟨Int.le_refl _, by simp⟩
theorem withF_now (n : Nt) (p : Pk) : (withF n p).now = n.now := by unfold withF; split <;> rfl

/-! Run. -/
theorem runF_nil (n : Nt) : runF n [] = (n, []) := rfl
theorem runF_from (es : List Ev) : ∀ (n : Nt) (ds : List Pk), es.foldl (fun s e => ((applyF s.1 e.kd e.at_ e.by_).1, s.2 ++ (applyF s.1 e.kd e.at_ e.by_).2)) (n, ds) = ((runF n es).1, ds ++ (runF n es).2) := by
  induction es with
  | nil => intro n ds; simp [runF]
  | cons e es ih =>
    intro n ds
    simp only [runF, List.foldl_cons, List.nil_append]
    rw [ih, ih (applyF n e.kd e.at_ e.by_).1 (applyF n e.kd e.at_ e.by_).2]
    simp
theorem runF_app (n : Nt) (a b : List Ev) : runF n (a ++ b) = ((runF (runF n a).1 b).1, (runF n a).2 ++ (runF (runF n a).1 b).2) := by
  have h := runF_from b (runF n a).1 (runF n a).2
  unfold runF at h ⊢
  rw [List.foldl_append]
  exact h
theorem runF_snoc (n : Nt) (a : List Ev) (e : Ev) : runF n (a ++ [e]) = ((applyF (runF n a).1 e.kd e.at_ e.by_).1, (runF n a).2 ++ (applyF (runF n a).1 e.kd e.at_ e.by_).2) := by
  rw [runF_app]; simp [runF]
theorem runF_take {n : Nt} {l : List Ev} {k : Nat} {e : Ev} (h : l[k]? = some e) :
    runF n (l.take (k + 1)) = ((applyF (runF n (l.take k)).1 e.kd e.at_ e.by_).1, (runF n (l.take k)).2 ++ (applyF (runF n (l.take k)).1 e.kd e.at_ e.by_).2) := by rw [take_snoc' h, runF_snoc]
theorem runF_ok (es : List Ev) : ∀ n, NtOk n → NtOk (runF n es).1 ∧ (runF n es).2.length ≤ es.length ∧ ∀ q ∈ (runF n es).2, q.b.length ≤ 40 := by
  induction es with
  | nil => intro n h; exact ⟨h, by simp [runF], by simp [runF]⟩
  | cons e es ih =>
    intro n h
    obtain ⟨h1, h2, h3⟩ := h.apply e.kd e.at_ e.by_
    obtain ⟨k1, k2, k3⟩ := ih _ h1
    have he : runF n (e :: es) = ((runF (applyF n e.kd e.at_ e.by_).1 es).1, (applyF n e.kd e.at_ e.by_).2 ++ (runF (applyF n e.kd e.at_ e.by_).1 es).2) := by
      have := runF_app n [e] es
      simpa [runF] using this
    rw [he]
    refine ⟨k1, by simp only [List.length_append, List.length_cons]; omega, fun q hq => ?_⟩
    rcases List.mem_append.1 hq with hq | hq
    · exact h3 q hq
    · exact k3 q hq

/-! The program's 'run': the network, what was sent, what was delivered. -/
abbrev St3 : Type := Nt × List Pk × List Pk
def step3 (s : St3) (o : NOp) : St3 :=
  if o.send then (sendF s.1 (madeF o.p), s.2.1 ++ [madeF o.p], s.2.2) else ((applyF s.1 o.kd o.at_ o.by_).1, s.2.1, s.2.2 ++ (applyF s.1 o.kd o.at_ o.by_).2)
def run3 (l : List NOp) : St3 := l.foldl step3 (⟨0, []⟩, [], [])
theorem run3_snoc (l : List NOp) (o : NOp) : run3 (l ++ [o]) = step3 (run3 l) o := by simp [run3]
theorem run3_take {l : List NOp} {k : Nat} {o : NOp} (h : l[k]? = some o) : run3 (l.take (k + 1)) = step3 (run3 (l.take k)) o := by rw [take_snoc' h, run3_snoc]
structure Ok3 (k : Nat) (s : St3) : Prop where
  ok : NtOk s.1
  sent : s.2.1.length ≤ k
  sentB : ∀ q ∈ s.2.1, q.b.length ≤ 40
  got : s.2.2.length ≤ k
  gotB : ∀ q ∈ s.2.2, q.b.length ≤ 40
theorem Ok3.step {k : Nat} {s : St3} (h : Ok3 k s) (o : NOp) : Ok3 (k + 1) (step3 s o) := by
  unfold step3
  split
  · refine ⟨h.ok.send (madeF_len _), by simp; exact h.sent, fun q hq => ?_, by have := h.got; simp only; omega, h.gotB⟩
    rcases List.mem_append.1 hq with hq | hq
    · exact h.sentB q hq
    · simp at hq; subst hq; exact madeF_len _
  · obtain ⟨h1, h2, h3⟩ := h.ok.apply o.kd o.at_ o.by_
    refine ⟨h1, by have := h.sent; simp only; omega, h.sentB, by have := h.got; simp only [List.length_append]; omega, fun q hq => ?_⟩
    rcases List.mem_append.1 hq with hq | hq
    · exact h.gotB q hq
    · exact h3 q hq
theorem run3_ok : ∀ (l : List NOp), Ok3 l.length (run3 l) := by
  suffices h : ∀ (l : List NOp) (k : Nat) (s : St3), Ok3 k s → Ok3 (k + l.length) (l.foldl step3 s) from fun l => by
    have := h l 0 (⟨0, []⟩, [], []) ⟨ok0, by simp, by simp, by simp, by simp⟩
    simpa [run3] using this
  intro l
  induction l with
  | nil => exact fun k s h => h
  | cons o l ih =>
    intro k s h
    have := ih (k + 1) _ (h.step o)
    simp only [List.length_cons, List.foldl_cons]
    rw [show k + (l.length + 1) = k + 1 + l.length from by omega]
    exact this

/-- The same parties and bytes. -/
def Alike (t q : Pk) : Prop := t.fr = q.fr ∧ t.to_ = q.to_ ∧ t.b = q.b
def calmB (o : NOp) : Bool := o.send || !(o.kd == 4)
def dblB (o : NOp) : Bool := !o.send && o.kd == 3
structure Calm (s : St3) : Prop where
  way : ∀ q ∈ s.1.way, ∃ t ∈ s.2.1, Alike t q
  got : ∀ q ∈ s.2.2, ∃ t ∈ s.2.1, Alike t q
theorem more {l m : List Pk} {q : Pk} (h : ∃ t ∈ l, Alike t q) : ∃ t ∈ l ++ m, Alike t q := by
  obtain ⟨t, ht, ha⟩ := h; exact ⟨t, List.mem_append.2 (.inl ht), ha⟩
theorem Calm.step {s : St3} (h : Calm s) {o : NOp} (ho : calmB o = true) : Calm (step3 s o) := by
  unfold step3
  split
  · refine ⟨fun q hq => ?_, fun q hq => more (h.got q hq)⟩
    simp only [sendF, withF] at hq
    split at hq
    · exact more (h.way q hq)
    · rcases List.mem_append.1 hq with hq | hq
      · exact more (h.way q hq)
      · simp at hq; subst hq; exact ⟨madeF o.p, by simp, rfl, rfl, rfl⟩
  · rename_i hs
    have h4 : o.kd ≠ 4 := by simp [calmB, hs] at ho; exact ho
    unfold applyF
    split
    · refine ⟨fun q hq => h.way q ?_, by simpa using h.got⟩
      simp only [tickF] at hq
      split at hq <;> exact hq
    split
    · exact ⟨h.way, by simpa using h.got⟩
    split
    · exact ⟨h.way, by simpa using h.got⟩
    · rename_i p hp
      have hm := mem_of_get hp
      unfold atF
      split
      · split
        · refine ⟨fun q hq => h.way q (List.mem_of_mem_eraseIdx hq), fun q hq => ?_⟩
          rcases List.mem_append.1 hq with hq | hq
          · exact h.got q hq
          · simp at hq; subst hq; exact h.way _ hm
        · exact ⟨h.way, by simpa using h.got⟩
      split
      · exact ⟨fun q hq => h.way q (List.mem_of_mem_eraseIdx hq), by simpa using h.got⟩
      split
      · refine ⟨fun q hq => ?_, by simpa using h.got⟩
        simp only [withF] at hq
        split at hq
        · exact h.way q hq
        · rcases List.mem_append.1 hq with hq | hq
          · exact h.way q hq
          · simp at hq; subst hq; exact h.way _ hm
      all_goals first | exact ⟨h.way, by simpa using h.got⟩ | (rw [if_neg h4]; exact ⟨h.way, by simpa using h.got⟩)
theorem run3_calm (l : List NOp) (hl : ∀ o ∈ l, calmB o = true) : Calm (run3 l) := by
  suffices h : ∀ (l : List NOp) (s : St3), Calm s → (∀ o ∈ l, calmB o = true) → Calm (l.foldl step3 s) from h l _ ⟨by simp, by simp⟩ hl
  intro l
  induction l with
  | nil => exact fun s h _ => h
  | cons o l ih => exact fun s h k => ih _ (h.step (k o (by simp))) fun x hx => k x (by simp [hx])
theorem run3_few (l : List NOp) (hl : ∀ o ∈ l, dblB o = false) : (run3 l).2.2.length ≤ (run3 l).2.1.length := by
  suffices h : ∀ (l : List NOp) (s : St3), s.2.2.length + s.1.way.length ≤ s.2.1.length → (∀ o ∈ l, dblB o = false) → (l.foldl step3 s).2.2.length + (l.foldl step3 s).1.way.length ≤ (l.foldl step3 s).2.1.length by
    have := h l (⟨0, []⟩, [], []) (by simp) hl
    unfold run3
    omega
  intro l
  induction l with
  | nil => exact fun s h _ => h
  | cons o l ih =>
    intro s h k
    refine ih _ ?_ fun x hx => k x (by simp [hx])
    unfold step3
    split
    · simp only [sendF, withF]
      split <;> simp <;> omega
    · rename_i hs
      have h3 : o.kd ≠ 3 := by have := k o (by simp); simp [dblB, hs] at this; exact this
      obtain ⟨a1, a2, a3, a4, a5, a6⟩ := applyF_len s.1 o.kd o.at_ o.by_
      have a5 := a5 h3
      simp only [List.length_append]
      rcases Nat.lt_or_ge 0 (applyF s.1 o.kd o.at_ o.by_).2.length with h0 | h0
      · have := a4 (by omega); omega
      · omega
end Go.Proofs.Ytmaaniogcmlfbaa
