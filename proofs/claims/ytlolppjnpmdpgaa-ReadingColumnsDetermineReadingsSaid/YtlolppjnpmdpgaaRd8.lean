/-
  Contracts of the readings (XRd8): the functions that Columns and Bits hand to column.
-/
import Derived.Test.YtlolppjnpmdpgaaRd7
namespace Go.Proofs.Ytlolppjnpmdpgaa
open Go.RowKit

theorem cellLt {w : World} {a : Addr} {u : Value} (h : w.cell? a = some u) : a.block < w.heap.size := by
  rcases Nat.lt_or_ge a.block w.heap.size with h' | h'
  · exact h'
  · unfold World.cell? at h
    rw [Array.getElem?_eq_none h'] at h
    simp at h
theorem u64_small (x : Int) (h0 : 0 ≤ x) (h1 : x < 256) : IntKind.u64.wrap x = x := by
  have h : ∀ y : Fin 256, IntKind.u64.wrap (y.1 : Int) = (y.1 : Int) := by decide +kernel
  have := h ⟨x.toNat, by omega⟩
  simpa [Int.toNat_of_nonneg h0] using this

theorem kept7 {w X X' : World} {p q b o : Nat} {v u x0 x1 x2 x3 : Value} (h : Below w.heap.size w X ∧ X.cell? ⟨p, 0, none⟩ = some v ∧ X.cell? ⟨q, 0, none⟩ = some u ∧ X.cell? ⟨b, o, none⟩ = some x0 ∧ X.cell? ⟨b, o + 1, none⟩ = some x1 ∧ X.cell? ⟨b, o + 2, none⟩ = some x2 ∧ X.cell? ⟨b, o + 3, none⟩ = some x3) (hb : Below X.heap.size X X') :
    Below w.heap.size w X' ∧ X'.cell? ⟨p, 0, none⟩ = some v ∧ X'.cell? ⟨q, 0, none⟩ = some u ∧ X'.cell? ⟨b, o, none⟩ = some x0 ∧ X'.cell? ⟨b, o + 1, none⟩ = some x1 ∧ X'.cell? ⟨b, o + 2, none⟩ = some x2 ∧ X'.cell? ⟨b, o + 3, none⟩ = some x3 := by
  obtain ⟨h0, h1, h2, h3, h4, h5, h6⟩ := h
  have lt : ∀ {a u}, X.cell? a = some u → X'.cell? a = some u := fun {a u} hc => (hb.cell (p := a) (cellLt hc)).trans hc
  exact ⟨h0.trans (hb.mono h0.size), lt h1, lt h2, lt h3, lt h4, lt h5, lt h6⟩

set_option maxHeartbeats 1000000 in
theorem columns1_1 {s : Str} {A : Option Addr} {c i p q : Nat} {S : Nat → Prop} {r : Rd} (w : World) (hp : w.cell? ⟨p, 0, none⟩ = some (.func (.func 64) #[] #[])) (hq : w.cell? ⟨q, 0, none⟩ = some (.slice A s.l.length c)) (h : Sl rdE S w A c s.l) (hr : s.l[i]? = some r) (h0 : 0 ≤ r.who) (h1 : r.who < 256) :
    Calls Try.prog 48 #[.int .i64 i, .pointer (some ⟨p, 0, none⟩), .pointer (some ⟨q, 0, none⟩)] w fun e w' => e = .returned (.int .u64 r.who) ∧ Below w.heap.size w w' := by
  obtain ⟨b2, o2, rfl, -, hb2, x0, x1, x2, x3⟩ := rd_at h hr
  have hlt := (List.getElem?_eq_some_iff.1 hr).1
  have hu := u64_small _ h0 h1
  have hj0 : (0 : Int) ≤ (i : Int) := by omega
  have hj1 : (i : Int) < (s.l.length : Int) := by omega
  have base := And.intro (Below.refl w.heap.size w) (And.intro hp (And.intro hq (And.intro x0 (And.intro x1 (And.intro x2 x3)))))
  have Base := Lib.hid base
  clear hr h base
  go_enter Try.func48, Try.ntmps48
  go_wp2_with fail
  go_region_held3 (fun X => Below w.heap.size w X ∧ X.cell? ⟨p, 0, none⟩ = some (.func (.func 64) #[] #[]) ∧ X.cell? ⟨q, 0, none⟩ = some (.slice (some ⟨b2, o2, none⟩) s.l.length c) ∧ X.cell? ⟨b2, o2 + i * 4, none⟩ = some (.int .i64 r.who) ∧ X.cell? ⟨b2, o2 + i * 4 + 1, none⟩ = some (.int .i64 r.whn) ∧ X.cell? ⟨b2, o2 + i * 4 + 2, none⟩ = some (.int .i64 r.knd) ∧ X.cell? ⟨b2, o2 + i * 4 + 3, none⟩ = some (.int .i64 r.val)) (first | exact Base.out | exact kept7 Base.out (Below.refl _ _).drew | exact kept7 (kept7 Base.out (Below.refl _ _).drew) hb3 | exact kept7 (by assumption) hb3 | exact kept7 (by assumption) (Below.refl _ _).drew)
    (first | (go_at_call 64; refine (field1 r _).mono ?_; rintro e w3 ⟨rfl, hb3⟩))
  all_goals
    go_wp2_with fail
    go_ret
    exact ⟨rfl, (Below.refl _ _).drew.trans hb3⟩
set_option maxHeartbeats 1000000 in
theorem columns1_2 {s : Str} {A : Option Addr} {c i p q : Nat} {S : Nat → Prop} {r : Rd} (w : World) (hp : w.cell? ⟨p, 0, none⟩ = some (.func (.func 65) #[] #[])) (hq : w.cell? ⟨q, 0, none⟩ = some (.slice A s.l.length c)) (h : Sl rdE S w A c s.l) (hr : s.l[i]? = some r) (h0 : 0 ≤ r.whn) (h1 : r.whn < 256) :
    Calls Try.prog 48 #[.int .i64 i, .pointer (some ⟨p, 0, none⟩), .pointer (some ⟨q, 0, none⟩)] w fun e w' => e = .returned (.int .u64 r.whn) ∧ Below w.heap.size w w' := by
  obtain ⟨b2, o2, rfl, -, hb2, x0, x1, x2, x3⟩ := rd_at h hr
  have hlt := (List.getElem?_eq_some_iff.1 hr).1
  have hu := u64_small _ h0 h1
  have hj0 : (0 : Int) ≤ (i : Int) := by omega
  have hj1 : (i : Int) < (s.l.length : Int) := by omega
  have base := And.intro (Below.refl w.heap.size w) (And.intro hp (And.intro hq (And.intro x0 (And.intro x1 (And.intro x2 x3)))))
  have Base := Lib.hid base
  clear hr h base
  go_enter Try.func48, Try.ntmps48
  go_wp2_with fail
  go_region_held3 (fun X => Below w.heap.size w X ∧ X.cell? ⟨p, 0, none⟩ = some (.func (.func 65) #[] #[]) ∧ X.cell? ⟨q, 0, none⟩ = some (.slice (some ⟨b2, o2, none⟩) s.l.length c) ∧ X.cell? ⟨b2, o2 + i * 4, none⟩ = some (.int .i64 r.who) ∧ X.cell? ⟨b2, o2 + i * 4 + 1, none⟩ = some (.int .i64 r.whn) ∧ X.cell? ⟨b2, o2 + i * 4 + 2, none⟩ = some (.int .i64 r.knd) ∧ X.cell? ⟨b2, o2 + i * 4 + 3, none⟩ = some (.int .i64 r.val)) (first | exact Base.out | exact kept7 Base.out (Below.refl _ _).drew | exact kept7 (kept7 Base.out (Below.refl _ _).drew) hb3 | exact kept7 (by assumption) hb3 | exact kept7 (by assumption) (Below.refl _ _).drew)
    (first | (go_at_call 65; refine (field2 r _).mono ?_; rintro e w3 ⟨rfl, hb3⟩))
  all_goals
    go_wp2_with fail
    go_ret
    exact ⟨rfl, (Below.refl _ _).drew.trans hb3⟩
set_option maxHeartbeats 1000000 in
theorem columns1_3 {s : Str} {A : Option Addr} {c i p q : Nat} {S : Nat → Prop} {r : Rd} (w : World) (hp : w.cell? ⟨p, 0, none⟩ = some (.func (.func 66) #[] #[])) (hq : w.cell? ⟨q, 0, none⟩ = some (.slice A s.l.length c)) (h : Sl rdE S w A c s.l) (hr : s.l[i]? = some r) (h0 : 0 ≤ r.knd) (h1 : r.knd < 256) :
    Calls Try.prog 48 #[.int .i64 i, .pointer (some ⟨p, 0, none⟩), .pointer (some ⟨q, 0, none⟩)] w fun e w' => e = .returned (.int .u64 r.knd) ∧ Below w.heap.size w w' := by
  obtain ⟨b2, o2, rfl, -, hb2, x0, x1, x2, x3⟩ := rd_at h hr
  have hlt := (List.getElem?_eq_some_iff.1 hr).1
  have hu := u64_small _ h0 h1
  have hj0 : (0 : Int) ≤ (i : Int) := by omega
  have hj1 : (i : Int) < (s.l.length : Int) := by omega
  have base := And.intro (Below.refl w.heap.size w) (And.intro hp (And.intro hq (And.intro x0 (And.intro x1 (And.intro x2 x3)))))
  have Base := Lib.hid base
  clear hr h base
  go_enter Try.func48, Try.ntmps48
  go_wp2_with fail
  go_region_held3 (fun X => Below w.heap.size w X ∧ X.cell? ⟨p, 0, none⟩ = some (.func (.func 66) #[] #[]) ∧ X.cell? ⟨q, 0, none⟩ = some (.slice (some ⟨b2, o2, none⟩) s.l.length c) ∧ X.cell? ⟨b2, o2 + i * 4, none⟩ = some (.int .i64 r.who) ∧ X.cell? ⟨b2, o2 + i * 4 + 1, none⟩ = some (.int .i64 r.whn) ∧ X.cell? ⟨b2, o2 + i * 4 + 2, none⟩ = some (.int .i64 r.knd) ∧ X.cell? ⟨b2, o2 + i * 4 + 3, none⟩ = some (.int .i64 r.val)) (first | exact Base.out | exact kept7 Base.out (Below.refl _ _).drew | exact kept7 (kept7 Base.out (Below.refl _ _).drew) hb3 | exact kept7 (by assumption) hb3 | exact kept7 (by assumption) (Below.refl _ _).drew)
    (first | (go_at_call 66; refine (field3 r _).mono ?_; rintro e w3 ⟨rfl, hb3⟩))
  all_goals
    go_wp2_with fail
    go_ret
    exact ⟨rfl, (Below.refl _ _).drew.trans hb3⟩
set_option maxHeartbeats 1000000 in
theorem columns1_4 {s : Str} {A : Option Addr} {c i p q : Nat} {S : Nat → Prop} {r : Rd} (w : World) (hp : w.cell? ⟨p, 0, none⟩ = some (.func (.func 67) #[] #[])) (hq : w.cell? ⟨q, 0, none⟩ = some (.slice A s.l.length c)) (h : Sl rdE S w A c s.l) (hr : s.l[i]? = some r) (h0 : 0 ≤ r.val) (h1 : r.val < 256) :
    Calls Try.prog 48 #[.int .i64 i, .pointer (some ⟨p, 0, none⟩), .pointer (some ⟨q, 0, none⟩)] w fun e w' => e = .returned (.int .u64 r.val) ∧ Below w.heap.size w w' := by
  obtain ⟨b2, o2, rfl, -, hb2, x0, x1, x2, x3⟩ := rd_at h hr
  have hlt := (List.getElem?_eq_some_iff.1 hr).1
  have hu := u64_small _ h0 h1
  have hj0 : (0 : Int) ≤ (i : Int) := by omega
  have hj1 : (i : Int) < (s.l.length : Int) := by omega
  have base := And.intro (Below.refl w.heap.size w) (And.intro hp (And.intro hq (And.intro x0 (And.intro x1 (And.intro x2 x3)))))
  have Base := Lib.hid base
  clear hr h base
  go_enter Try.func48, Try.ntmps48
  go_wp2_with fail
  go_region_held3 (fun X => Below w.heap.size w X ∧ X.cell? ⟨p, 0, none⟩ = some (.func (.func 67) #[] #[]) ∧ X.cell? ⟨q, 0, none⟩ = some (.slice (some ⟨b2, o2, none⟩) s.l.length c) ∧ X.cell? ⟨b2, o2 + i * 4, none⟩ = some (.int .i64 r.who) ∧ X.cell? ⟨b2, o2 + i * 4 + 1, none⟩ = some (.int .i64 r.whn) ∧ X.cell? ⟨b2, o2 + i * 4 + 2, none⟩ = some (.int .i64 r.knd) ∧ X.cell? ⟨b2, o2 + i * 4 + 3, none⟩ = some (.int .i64 r.val)) (first | exact Base.out | exact kept7 Base.out (Below.refl _ _).drew | exact kept7 (kept7 Base.out (Below.refl _ _).drew) hb3 | exact kept7 (by assumption) hb3 | exact kept7 (by assumption) (Below.refl _ _).drew)
    (first | (go_at_call 67; refine (field4 r _).mono ?_; rintro e w3 ⟨rfl, hb3⟩))
  all_goals
    go_wp2_with fail
    go_ret
    exact ⟨rfl, (Below.refl _ _).drew.trans hb3⟩
end Go.Proofs.Ytlolppjnpmdpgaa
