/-
  Contracts of the readings (XRd9): the function that Bits hands to column; the column of what is live.
-/
import Derived.Test.YtlolppjnpmdpgaaRd8
namespace Go.Proofs.Ytlolppjnpmdpgaa
open Go.RowKit

theorem and_one (x : Int) (h0 : 0 ≤ x) (h1 : x < 256) : bits BinOp.and IntKind.u64 x 1 = x % 2 := by
  have h : ∀ y : Fin 256, bits BinOp.and IntKind.u64 (y.1 : Int) 1 = (y.1 : Int) % 2 := by decide +kernel
  have := h ⟨x.toNat, by omega⟩
  simpa [Int.toNat_of_nonneg h0] using this
theorem bit_word (x : Int) (h0 : 0 ≤ x) (h1 : x < 256) (k : Nat) : bits BinOp.and IntKind.u64 (x / 2 ^ k) 1 = bitF x k := by
  have hp : (0 : Int) < 2 ^ k := Int.pow_pos (by omega)
  exact and_one _ (Int.ediv_nonneg h0 (by omega)) (Int.lt_of_le_of_lt (Int.ediv_le_self _ h0) h1)
theorem kept8 {w X X' : World} {p q t b o : Nat} {v u z x0 x1 x2 x3 : Value} (h : X.cell? ⟨t, 0, none⟩ = some z ∧ Below w.heap.size w X ∧ X.cell? ⟨p, 0, none⟩ = some v ∧ X.cell? ⟨q, 0, none⟩ = some u ∧ X.cell? ⟨b, o, none⟩ = some x0 ∧ X.cell? ⟨b, o + 1, none⟩ = some x1 ∧ X.cell? ⟨b, o + 2, none⟩ = some x2 ∧ X.cell? ⟨b, o + 3, none⟩ = some x3) (hb : Below X.heap.size X X') :
    X'.cell? ⟨t, 0, none⟩ = some z ∧ Below w.heap.size w X' ∧ X'.cell? ⟨p, 0, none⟩ = some v ∧ X'.cell? ⟨q, 0, none⟩ = some u ∧ X'.cell? ⟨b, o, none⟩ = some x0 ∧ X'.cell? ⟨b, o + 1, none⟩ = some x1 ∧ X'.cell? ⟨b, o + 2, none⟩ = some x2 ∧ X'.cell? ⟨b, o + 3, none⟩ = some x3 :=
  ⟨(hb.cell (p := ⟨t, 0, none⟩) (cellLt h.1)).trans h.1, kept7 h.2 hb⟩

set_option maxHeartbeats 1000000 in
theorem columns2 {s : Str} {B : Option Addr} {d i p : Nat} {S : Nat → Prop} {b : Bool} (w : World) (hp : w.cell? ⟨p, 1, none⟩ = some (.slice B s.g.length d)) (h : Sl .bool S w B d s.g) (hr : s.g[i]? = some b) :
    Calls Try.prog 49 #[.int .i64 i, .pointer (some ⟨p, 0, none⟩)] w fun e w' => e = .returned (.int .u64 (if b then 0 else 1)) ∧ Below w.heap.size w w' := by
  obtain ⟨b2, o2, rfl, -, hb2, x0⟩ := bool_at h hr
  have hlt := (List.getElem?_eq_some_iff.1 hr).1
  have hj0 : (0 : Int) ≤ (i : Int) := by omega
  have hj1 : (i : Int) < (s.g.length : Int) := by omega
  clear hr h
  cases b with
  | true =>
    go_enter Try.func49, Try.ntmps49
    go_wp2_with fail
    go_ret
    exact ⟨rfl, Below.refl _ _⟩
  | false =>
    go_enter Try.func49, Try.ntmps49
    go_wp2_with fail
    go_ret
    exact ⟨rfl, Below.refl _ _⟩

set_option maxHeartbeats 1000000 in
theorem bits1_1 {s : Str} {A : Option Addr} {c i p q t k : Nat} {S : Nat → Prop} {r : Rd} (w : World) (hp : w.cell? ⟨p, 0, none⟩ = some (.func (.func 64) #[] #[])) (hq : w.cell? ⟨q, 0, none⟩ = some (.slice A s.l.length c)) (ht : w.cell? ⟨t, 0, none⟩ = some (.int .i64 k)) (h : Sl rdE S w A c s.l) (hr : s.l[i]? = some r) (h0 : 0 ≤ r.who) (h1 : r.who < 256) (hk : k < 8) :
    Calls Try.prog 51 #[.int .i64 i, .pointer (some ⟨p, 0, none⟩), .pointer (some ⟨q, 0, none⟩), .pointer (some ⟨t, 0, none⟩)] w fun e w' => e = .returned (.int .u64 (bitF r.who k)) ∧ Below w.heap.size w w' := by
  obtain ⟨b2, o2, rfl, -, hb2, x0, x1, x2, x3⟩ := rd_at h hr
  have hlt := (List.getElem?_eq_some_iff.1 hr).1
  have hu := u64_small _ h0 h1
  have hj0 : (0 : Int) ≤ (i : Int) := by omega
  have hj1 : (i : Int) < (s.l.length : Int) := by omega
  have hk0 : (0 : Int) ≤ (k : Int) := by omega
  have hk1 : (k : Int) < 8 := by omega
  have base := And.intro ht (And.intro (Below.refl w.heap.size w) (And.intro hp (And.intro hq (And.intro x0 (And.intro x1 (And.intro x2 x3))))))
  have Base := Lib.hid base
  clear hr h base
  go_enter Try.func51, Try.ntmps51
  go_wp2_with fail
  go_region_held3 (fun X => X.cell? ⟨t, 0, none⟩ = some (.int .i64 k) ∧ Below w.heap.size w X ∧ X.cell? ⟨p, 0, none⟩ = some (.func (.func 64) #[] #[]) ∧ X.cell? ⟨q, 0, none⟩ = some (.slice (some ⟨b2, o2, none⟩) s.l.length c) ∧ X.cell? ⟨b2, o2 + i * 4, none⟩ = some (.int .i64 r.who) ∧ X.cell? ⟨b2, o2 + i * 4 + 1, none⟩ = some (.int .i64 r.whn) ∧ X.cell? ⟨b2, o2 + i * 4 + 2, none⟩ = some (.int .i64 r.knd) ∧ X.cell? ⟨b2, o2 + i * 4 + 3, none⟩ = some (.int .i64 r.val)) (first | exact Base.out | exact kept8 Base.out (Below.refl _ _).drew | exact kept8 (kept8 Base.out (Below.refl _ _).drew) hb3 | exact kept8 (by assumption) hb3 | exact kept8 (by assumption) (Below.refl _ _).drew)
    (first | (go_at_call 64; refine (field1 r _).mono ?_; rintro e w3 ⟨rfl, hb3⟩))
  all_goals
    go_wp2_with fail
    go_ret
    exact ⟨ret_int (bit_word _ h0 h1 k), (Below.refl _ _).drew.trans hb3⟩
set_option maxHeartbeats 1000000 in
theorem bits1_2 {s : Str} {A : Option Addr} {c i p q t k : Nat} {S : Nat → Prop} {r : Rd} (w : World) (hp : w.cell? ⟨p, 0, none⟩ = some (.func (.func 65) #[] #[])) (hq : w.cell? ⟨q, 0, none⟩ = some (.slice A s.l.length c)) (ht : w.cell? ⟨t, 0, none⟩ = some (.int .i64 k)) (h : Sl rdE S w A c s.l) (hr : s.l[i]? = some r) (h0 : 0 ≤ r.whn) (h1 : r.whn < 256) (hk : k < 8) :
    Calls Try.prog 51 #[.int .i64 i, .pointer (some ⟨p, 0, none⟩), .pointer (some ⟨q, 0, none⟩), .pointer (some ⟨t, 0, none⟩)] w fun e w' => e = .returned (.int .u64 (bitF r.whn k)) ∧ Below w.heap.size w w' := by
  obtain ⟨b2, o2, rfl, -, hb2, x0, x1, x2, x3⟩ := rd_at h hr
  have hlt := (List.getElem?_eq_some_iff.1 hr).1
  have hu := u64_small _ h0 h1
  have hj0 : (0 : Int) ≤ (i : Int) := by omega
  have hj1 : (i : Int) < (s.l.length : Int) := by omega
  have hk0 : (0 : Int) ≤ (k : Int) := by omega
  have hk1 : (k : Int) < 8 := by omega
  have base := And.intro ht (And.intro (Below.refl w.heap.size w) (And.intro hp (And.intro hq (And.intro x0 (And.intro x1 (And.intro x2 x3))))))
  have Base := Lib.hid base
  clear hr h base
  go_enter Try.func51, Try.ntmps51
  go_wp2_with fail
  go_region_held3 (fun X => X.cell? ⟨t, 0, none⟩ = some (.int .i64 k) ∧ Below w.heap.size w X ∧ X.cell? ⟨p, 0, none⟩ = some (.func (.func 65) #[] #[]) ∧ X.cell? ⟨q, 0, none⟩ = some (.slice (some ⟨b2, o2, none⟩) s.l.length c) ∧ X.cell? ⟨b2, o2 + i * 4, none⟩ = some (.int .i64 r.who) ∧ X.cell? ⟨b2, o2 + i * 4 + 1, none⟩ = some (.int .i64 r.whn) ∧ X.cell? ⟨b2, o2 + i * 4 + 2, none⟩ = some (.int .i64 r.knd) ∧ X.cell? ⟨b2, o2 + i * 4 + 3, none⟩ = some (.int .i64 r.val)) (first | exact Base.out | exact kept8 Base.out (Below.refl _ _).drew | exact kept8 (kept8 Base.out (Below.refl _ _).drew) hb3 | exact kept8 (by assumption) hb3 | exact kept8 (by assumption) (Below.refl _ _).drew)
    (first | (go_at_call 65; refine (field2 r _).mono ?_; rintro e w3 ⟨rfl, hb3⟩))
  all_goals
    go_wp2_with fail
    go_ret
    exact ⟨ret_int (bit_word _ h0 h1 k), (Below.refl _ _).drew.trans hb3⟩
set_option maxHeartbeats 1000000 in
theorem bits1_3 {s : Str} {A : Option Addr} {c i p q t k : Nat} {S : Nat → Prop} {r : Rd} (w : World) (hp : w.cell? ⟨p, 0, none⟩ = some (.func (.func 66) #[] #[])) (hq : w.cell? ⟨q, 0, none⟩ = some (.slice A s.l.length c)) (ht : w.cell? ⟨t, 0, none⟩ = some (.int .i64 k)) (h : Sl rdE S w A c s.l) (hr : s.l[i]? = some r) (h0 : 0 ≤ r.knd) (h1 : r.knd < 256) (hk : k < 8) :
    Calls Try.prog 51 #[.int .i64 i, .pointer (some ⟨p, 0, none⟩), .pointer (some ⟨q, 0, none⟩), .pointer (some ⟨t, 0, none⟩)] w fun e w' => e = .returned (.int .u64 (bitF r.knd k)) ∧ Below w.heap.size w w' := by
  obtain ⟨b2, o2, rfl, -, hb2, x0, x1, x2, x3⟩ := rd_at h hr
  have hlt := (List.getElem?_eq_some_iff.1 hr).1
  have hu := u64_small _ h0 h1
  have hj0 : (0 : Int) ≤ (i : Int) := by omega
  have hj1 : (i : Int) < (s.l.length : Int) := by omega
  have hk0 : (0 : Int) ≤ (k : Int) := by omega
  have hk1 : (k : Int) < 8 := by omega
  have base := And.intro ht (And.intro (Below.refl w.heap.size w) (And.intro hp (And.intro hq (And.intro x0 (And.intro x1 (And.intro x2 x3))))))
  have Base := Lib.hid base
  clear hr h base
  go_enter Try.func51, Try.ntmps51
  go_wp2_with fail
  go_region_held3 (fun X => X.cell? ⟨t, 0, none⟩ = some (.int .i64 k) ∧ Below w.heap.size w X ∧ X.cell? ⟨p, 0, none⟩ = some (.func (.func 66) #[] #[]) ∧ X.cell? ⟨q, 0, none⟩ = some (.slice (some ⟨b2, o2, none⟩) s.l.length c) ∧ X.cell? ⟨b2, o2 + i * 4, none⟩ = some (.int .i64 r.who) ∧ X.cell? ⟨b2, o2 + i * 4 + 1, none⟩ = some (.int .i64 r.whn) ∧ X.cell? ⟨b2, o2 + i * 4 + 2, none⟩ = some (.int .i64 r.knd) ∧ X.cell? ⟨b2, o2 + i * 4 + 3, none⟩ = some (.int .i64 r.val)) (first | exact Base.out | exact kept8 Base.out (Below.refl _ _).drew | exact kept8 (kept8 Base.out (Below.refl _ _).drew) hb3 | exact kept8 (by assumption) hb3 | exact kept8 (by assumption) (Below.refl _ _).drew)
    (first | (go_at_call 66; refine (field3 r _).mono ?_; rintro e w3 ⟨rfl, hb3⟩))
  all_goals
    go_wp2_with fail
    go_ret
    exact ⟨ret_int (bit_word _ h0 h1 k), (Below.refl _ _).drew.trans hb3⟩
set_option maxHeartbeats 1000000 in
theorem bits1_4 {s : Str} {A : Option Addr} {c i p q t k : Nat} {S : Nat → Prop} {r : Rd} (w : World) (hp : w.cell? ⟨p, 0, none⟩ = some (.func (.func 67) #[] #[])) (hq : w.cell? ⟨q, 0, none⟩ = some (.slice A s.l.length c)) (ht : w.cell? ⟨t, 0, none⟩ = some (.int .i64 k)) (h : Sl rdE S w A c s.l) (hr : s.l[i]? = some r) (h0 : 0 ≤ r.val) (h1 : r.val < 256) (hk : k < 8) :
    Calls Try.prog 51 #[.int .i64 i, .pointer (some ⟨p, 0, none⟩), .pointer (some ⟨q, 0, none⟩), .pointer (some ⟨t, 0, none⟩)] w fun e w' => e = .returned (.int .u64 (bitF r.val k)) ∧ Below w.heap.size w w' := by
  obtain ⟨b2, o2, rfl, -, hb2, x0, x1, x2, x3⟩ := rd_at h hr
  have hlt := (List.getElem?_eq_some_iff.1 hr).1
  have hu := u64_small _ h0 h1
  have hj0 : (0 : Int) ≤ (i : Int) := by omega
  have hj1 : (i : Int) < (s.l.length : Int) := by omega
  have hk0 : (0 : Int) ≤ (k : Int) := by omega
  have hk1 : (k : Int) < 8 := by omega
  have base := And.intro ht (And.intro (Below.refl w.heap.size w) (And.intro hp (And.intro hq (And.intro x0 (And.intro x1 (And.intro x2 x3))))))
  have Base := Lib.hid base
  clear hr h base
  go_enter Try.func51, Try.ntmps51
  go_wp2_with fail
  go_region_held3 (fun X => X.cell? ⟨t, 0, none⟩ = some (.int .i64 k) ∧ Below w.heap.size w X ∧ X.cell? ⟨p, 0, none⟩ = some (.func (.func 67) #[] #[]) ∧ X.cell? ⟨q, 0, none⟩ = some (.slice (some ⟨b2, o2, none⟩) s.l.length c) ∧ X.cell? ⟨b2, o2 + i * 4, none⟩ = some (.int .i64 r.who) ∧ X.cell? ⟨b2, o2 + i * 4 + 1, none⟩ = some (.int .i64 r.whn) ∧ X.cell? ⟨b2, o2 + i * 4 + 2, none⟩ = some (.int .i64 r.knd) ∧ X.cell? ⟨b2, o2 + i * 4 + 3, none⟩ = some (.int .i64 r.val)) (first | exact Base.out | exact kept8 Base.out (Below.refl _ _).drew | exact kept8 (kept8 Base.out (Below.refl _ _).drew) hb3 | exact kept8 (by assumption) hb3 | exact kept8 (by assumption) (Below.refl _ _).drew)
    (first | (go_at_call 67; refine (field4 r _).mono ?_; rintro e w3 ⟨rfl, hb3⟩))
  all_goals
    go_wp2_with fail
    go_ret
    exact ⟨ret_int (bit_word _ h0 h1 k), (Below.refl _ _).drew.trans hb3⟩
end Go.Proofs.Ytlolppjnpmdpgaa
