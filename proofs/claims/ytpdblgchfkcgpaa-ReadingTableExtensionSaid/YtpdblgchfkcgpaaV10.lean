/-
  Texts of this claim, merged: Fd, QF, Q1, Gk. Conditions: as each theorem says.
-/
import Derived.Test.YtpdblgchfkcgpaaProg
import Derived.Deep.RegionHeld3
import Derived.WalkKit
import Derived.WalkLawsBesides
import Derived.LoopTactic
import Derived.Deep.QuietTactic
import Derived.BigQuiet
import Derived.Lib.Hide
import Derived.IntWalk
import Derived.Deep.DeepCutAuto
import Derived.Deep.RegionLaw
import Derived.Deep.LoopGhost
import Derived.WalkSpells
import Derived.Outline
import Derived.TacticsInMore
import Derived.Test.YtpdblgchfkcgpaaV1
import Derived.Test.YtpdblgchfkcgpaaV2
import Derived.Test.YtpdblgchfkcgpaaV7
set_option linter.unusedSimpArgs false
set_option linter.unusedVariables false
namespace Go.Proofs.Ytpdblgchfkcgpaa
open Go.RowKit

/-- The prime. -/
def pF : Int := 18446744069414584321
theorem mod_bd (x : Int) : 0 ≤ x % pF ∧ x % pF < pF := ⟨Int.emod_nonneg _ (by decide), Int.emod_lt_of_pos _ (by decide)⟩
theorem u64w {n : Int} (h0 : 0 ≤ n) (h1 : n < 18446744073709551616) : IntKind.u64.wrap n = n := IntWalk.u64_in _ ⟨h0, by omega⟩
theorem emod_named {x y : Int} (hy : x % pF = y) : x % 18446744069414584321 = y := hy
theorem reduceP {x y : Int} (hx : 0 ≤ x) (hy : x % pF = y) (w : World) : Calls Try.prog 61 #[.int .u64 x] w fun e w' => e = .returned (.int .u64 y) ∧ w = w' := by
  have HT := Lib.hid (emod_named hy)
  clear hy
  go_enter Try.func61, Try.ntmps61
  go_wp2_with fail
  go_ret
  exact ⟨by rw [← HT.out]; rfl, rfl⟩
theorem add_mod2 {x y a b : Int} (ha : x % pF = a) (hb : y % pF = b) : (x + y) % pF = (a + b) % pF := by rw [← ha, ← hb, ← Int.add_emod]
theorem addP {x y a b r : Int} (ha : x % pF = a) (hb : y % pF = b) (hr : (x + y) % pF = r) (w : World) : Calls Try.prog 36 #[.int .u64 a, .int .u64 b] w fun e w' => e = .returned (.int .u64 r) ∧ w = w' := by
  have h1 := mod_bd x
  have h2 := mod_bd y
  rw [add_mod2 ha hb] at hr
  rw [ha] at h1
  rw [hb] at h2
  unfold pF at h1 h2 hr
  obtain ⟨c, hc⟩ : ∃ c : Int, 18446744069414584321 - b = c := ⟨_, rfl⟩
  have hc' : IntKind.u64.wrap (18446744069414584321 - b) = c := by rw [hc]; exact u64w (by omega) (by omega)
  by_cases h : c ≤ a
  · have hd : IntKind.u64.wrap (a - c) = r := by rw [u64w (by omega) (by omega)]; omega
    clear h1 h2 hr hc ha hb
    go_enter Try.func36, Try.ntmps36
    go_wp2_with fail
    go_ret
    exact ⟨rfl, rfl⟩
  · have hd : IntKind.u64.wrap (a + b) = r := by rw [u64w (by omega) (by omega)]; omega
    clear h1 h2 hr hc ha hb
    go_enter Try.func36, Try.ntmps36
    go_wp2_with fail
    go_ret
    exact ⟨rfl, rfl⟩
theorem negP {x a r : Int} (ha : x % pF = a) (hr : (-x) % pF = r) (w : World) : Calls Try.prog 65 #[.int .u64 a] w fun e w' => e = .returned (.int .u64 r) ∧ w = w' := by
  have h1 := mod_bd x
  rw [ha] at h1
  have hr' : (-a) % pF = r := by rw [← hr, ← ha]; unfold pF; omega
  unfold pF at h1 hr'
  by_cases h : a = 0
  · have e : (a == 0) = true := beq_iff_eq.2 h
    have HR := Lib.hid (show (0 : Int) = r by subst h; rw [← hr']; rfl)
    clear h1 hr hr' ha h
    go_enter Try.func65, Try.ntmps65
    go_wp2_with fail
    go_ret
    exact ⟨by rw [← HR.out]; rfl, rfl⟩
  · have e : (a == 0) = false := by rw [beq_eq_false_iff_ne]; exact h
    have hd : IntKind.u64.wrap (18446744069414584321 - a) = r := by rw [u64w (by omega) (by omega)]; omega
    clear h1 hr hr' ha h
    go_enter Try.func65, Try.ntmps65
    go_wp2_with fail
    go_ret
    exact ⟨rfl, rfl⟩
theorem fromIntP {n : Int} (h0 : 0 ≤ n) (h1 : n < 9223372036854775808) (w : World) : Calls Try.prog 63 #[.int .i64 n] w fun e w' => e = .returned (.int .u64 n) ∧ w = w' := by
  have hw : IntKind.u64.wrap n = n := u64w h0 (by omega)
  clear h1
  go_enter Try.func63, Try.ntmps63
  go_wp2_with fail
  go_ret
  exact ⟨rfl, rfl⟩
theorem quo32 {a q : Int} (h0 : 0 ≤ a) (h1 : a < 18446744073709551616) (hq : a / 4294967296 = q) : IntKind.u64.wrap (a.tdiv 4294967296) = q := by
  rw [Int.tdiv_eq_ediv_of_nonneg h0, hq]
  exact u64w (by omega) (by omega)
theorem shiftP {x a r : Int} (ha : x % pF = a) (hr : (x * 4294967296) % pF = r) (w : World) : Calls Try.prog 56 #[.int .u64 a] w fun e w' => e = .returned (.int .u64 r) ∧ w = w' := by
  have h1 := mod_bd x
  rw [ha] at h1
  have hr' : (a * 4294967296) % pF = r := by rw [← hr, ← ha]; unfold pF; omega
  unfold pF at h1 hr'
  obtain ⟨hi, hhi⟩ : ∃ q : Int, a / 4294967296 = q := ⟨_, rfl⟩
  have htd := quo32 h1.1 (by omega) hhi
  obtain ⟨lo, hlo⟩ : ∃ q : Int, a % 4294967296 = q := ⟨_, rfl⟩
  have hw1 : IntKind.u64.wrap (lo * 4294967296) = lo * 4294967296 := u64w (by omega) (by omega)
  have hw2 : IntKind.u64.wrap (hi * 4294967295) = hi * 4294967295 := u64w (by omega) (by omega)
  have hn1 : 0 ≤ lo * 4294967296 := by omega
  have hn2 : 0 ≤ hi * 4294967295 := by omega
  have ha0 := h1.1
  obtain ⟨u, hu⟩ : ∃ q : Int, lo * 4294967296 = q := ⟨_, rfl⟩
  obtain ⟨v, hv⟩ : ∃ q : Int, hi * 4294967295 = q := ⟨_, rfl⟩
  obtain ⟨u1, hu1⟩ : ∃ q : Int, u % pF = q := ⟨_, rfl⟩
  obtain ⟨v1, hv1⟩ : ∃ q : Int, v % pF = q := ⟨_, rfl⟩
  have HS := Lib.hid (show (u + v) % pF = r by rw [← hr', ← hu, ← hv]; unfold pF; omega)
  rw [hu] at hw1 hn1
  rw [hv] at hw2 hn2
  rw [← hu] at hw1
  rw [← hv] at hw2
  have HU := Lib.hid hu1
  have HV := Lib.hid hv1
  have hw1' : IntKind.u64.wrap (lo * 4294967296) = u := hw1.trans hu
  have hw2' : IntKind.u64.wrap (hi * 4294967295) = v := hw2.trans hv
  clear hu hv hw1 hw2 h1 hr hr' ha hu1 hv1
  go_enter Try.func56, Try.ntmps56
  go_wp2_with (first
    | (go_at_call 61; (with_reducible refine (reduceP (x := u) hn1 HU.out _).mono ?_); rintro e w1 ⟨rfl, rfl⟩)
    | (go_at_call 61; (with_reducible refine (reduceP (x := v) hn2 HV.out _).mono ?_); rintro e w1 ⟨rfl, rfl⟩)
    | (go_at_call 36; (with_reducible refine (addP (x := u) (y := v) HU.out HV.out HS.out _).mono ?_); rintro e w1 ⟨rfl, rfl⟩))
  go_ret
  exact ⟨rfl, rfl⟩
theorem mul_bd32 {a b : Int} (ha : 0 ≤ a ∧ a < 4294967296) (hb : 0 ≤ b ∧ b < 4294967296) : 0 ≤ a * b ∧ a * b < 18446744073709551616 := by
  refine ⟨Int.mul_nonneg ha.1 hb.1, ?_⟩
  have := Int.mul_le_mul (show a ≤ 4294967295 by omega) (show b ≤ 4294967295 by omega) hb.1 (by decide)
  omega
theorem mul_modr {x y b : Int} (hb : y % pF = b) : (x * y) % pF = (x * b) % pF := by rw [← hb, Int.mul_emod, Int.mul_emod x (y % pF), Int.emod_emod]
theorem mul_modl {x y a : Int} (ha : x % pF = a) : (x * y) % pF = (a * y) % pF := by rw [Int.mul_comm x, Int.mul_comm a]; exact mul_modr ha
theorem halfP {x a b r : Int} (ha : x % pF = a) (hb : 0 ≤ b ∧ b < 4294967296) (hr : (x * b) % pF = r) (w : World) : Calls Try.prog 55 #[.int .u64 a, .int .u64 b] w fun e w' => e = .returned (.int .u64 r) ∧ w = w' := by
  have h1 := mod_bd x
  rw [ha] at h1
  rw [mul_modl ha] at hr
  unfold pF at h1
  obtain ⟨hi, hhi⟩ : ∃ q : Int, a / 4294967296 = q := ⟨_, rfl⟩
  have htd := quo32 h1.1 (by omega) hhi
  obtain ⟨lo, hlo⟩ : ∃ q : Int, a % 4294967296 = q := ⟨_, rfl⟩
  have k1 := mul_bd32 (a := lo) (b := b) (by omega) hb
  have k2 := mul_bd32 (a := hi) (b := b) (by omega) hb
  have hab : a * b = lo * b + hi * b * 4294967296 := by
    have : a = lo + hi * 4294967296 := by omega
    rw [this, Int.add_mul, Int.mul_right_comm]
  obtain ⟨u, hu⟩ : ∃ q : Int, lo * b = q := ⟨_, rfl⟩
  obtain ⟨v, hv⟩ : ∃ q : Int, hi * b = q := ⟨_, rfl⟩
  rw [hu, hv] at hab
  obtain ⟨u1, hu1⟩ : ∃ q : Int, u % pF = q := ⟨_, rfl⟩
  obtain ⟨v1, hv1⟩ : ∃ q : Int, v % pF = q := ⟨_, rfl⟩
  obtain ⟨v2, hv2⟩ : ∃ q : Int, (v * 4294967296) % pF = q := ⟨_, rfl⟩
  have HS := Lib.hid (show (u + v * 4294967296) % pF = r by rw [← hr, hab])
  have HU := Lib.hid hu1
  have HV := Lib.hid hv1
  have HW := Lib.hid hv2
  have hw1 : IntKind.u64.wrap (lo * b) = u := by rw [u64w k1.1 k1.2]; exact hu
  have hw2 : IntKind.u64.wrap (hi * b) = v := by rw [u64w k2.1 k2.2]; exact hv
  have hn1 : 0 ≤ u := by rw [← hu]; exact k1.1
  have hn2 : 0 ≤ v := by rw [← hv]; exact k2.1
  have ha0 := h1.1
  clear hu hv h1 hr ha hu1 hv1 hv2 hab k1 k2 hb
  go_enter Try.func55, Try.ntmps55
  go_wp2_with (first
    | (go_at_call 61; (with_reducible refine (reduceP (x := u) hn1 HU.out _).mono ?_); rintro e w1 ⟨rfl, rfl⟩)
    | (go_at_call 61; (with_reducible refine (reduceP (x := v) hn2 HV.out _).mono ?_); rintro e w1 ⟨rfl, rfl⟩)
    | (go_at_call 56; (with_reducible refine (shiftP (x := v) HV.out HW.out _).mono ?_); rintro e w1 ⟨rfl, rfl⟩)
    | (go_at_call 36; (with_reducible refine (addP (x := u) (y := v * 4294967296) HU.out HW.out HS.out _).mono ?_); rintro e w1 ⟨rfl, rfl⟩))
  go_ret
  exact ⟨rfl, rfl⟩
theorem mulP {x y a b r : Int} (ha : x % pF = a) (hb : y % pF = b) (hr : (x * y) % pF = r) (w : World) : Calls Try.prog 37 #[.int .u64 a, .int .u64 b] w fun e w' => e = .returned (.int .u64 r) ∧ w = w' := by
  have h1 := mod_bd y
  rw [hb] at h1
  rw [mul_modr hb] at hr
  unfold pF at h1
  obtain ⟨hi, hhi⟩ : ∃ q : Int, b / 4294967296 = q := ⟨_, rfl⟩
  have htd := quo32 h1.1 (by omega) hhi
  obtain ⟨lo, hlo⟩ : ∃ q : Int, b % 4294967296 = q := ⟨_, rfl⟩
  have HLO := Lib.hid (show 0 ≤ lo ∧ lo < 4294967296 by omega)
  have HHI := Lib.hid (show 0 ≤ hi ∧ hi < 4294967296 by omega)
  have hxb : x * b = x * lo + x * hi * 4294967296 := by
    have : b = lo + hi * 4294967296 := by omega
    rw [this, Int.mul_add, Int.mul_assoc]
  obtain ⟨u1, hu1⟩ : ∃ q : Int, (x * lo) % pF = q := ⟨_, rfl⟩
  obtain ⟨v1, hv1⟩ : ∃ q : Int, (x * hi) % pF = q := ⟨_, rfl⟩
  obtain ⟨v2, hv2⟩ : ∃ q : Int, (x * hi * 4294967296) % pF = q := ⟨_, rfl⟩
  have HS := Lib.hid (show (x * lo + x * hi * 4294967296) % pF = r by rw [← hr, hxb])
  have HA := Lib.hid ha
  have HU := Lib.hid hu1
  have HV := Lib.hid hv1
  have HW := Lib.hid hv2
  have hb0 := h1.1
  clear h1 hr ha hb hu1 hv1 hv2 hxb
  go_enter Try.func37, Try.ntmps37
  go_wp2_with (first
    | (go_at_call 55; (with_reducible refine (halfP (x := x) (b := lo) HA.out HLO.out HU.out _).mono ?_); rintro e w1 ⟨rfl, rfl⟩)
    | (go_at_call 55; (with_reducible refine (halfP (x := x) (b := hi) HA.out HHI.out HV.out _).mono ?_); rintro e w1 ⟨rfl, rfl⟩)
    | (go_at_call 56; (with_reducible refine (shiftP (x := x * hi) HV.out HW.out _).mono ?_); rintro e w1 ⟨rfl, rfl⟩)
    | (go_at_call 36; (with_reducible refine (addP (x := x * lo) (y := x * hi * 4294967296) HU.out HW.out HS.out _).mono ?_); rintro e w1 ⟨rfl, rfl⟩))
  go_ret
  exact ⟨rfl, rfl⟩
end Go.Proofs.Ytpdblgchfkcgpaa
namespace Go.Proofs.Ytpdblgchfkcgpaa
open Go.RowKit

structure Cd where
  col : Int
  lo : Int
  hi : Int
structure Qy where
  kind : Int
  col : Int
  k : Int
  fs : List (List Cd)
theorem Cd.ext_ {a b : Cd} (h1 : a.col = b.col) (h2 : a.lo = b.lo) (h3 : a.hi = b.hi) : a = b := by cases a; cases b; simp_all
def maxC (c : Int) : Int := if c = 0 ∨ c = 2 then 15 else 255
def maxKF (k : Int) : Int := if k = 3 then 6 else if k = 6 then 65536 else 0
def nFilF (k : Int) : Nat := if k = 7 then 2 else 1
def ValidCd (c : Cd) : Prop := (0 ≤ c.col ∧ c.col ≤ 3) ∧ 0 ≤ c.lo ∧ c.lo ≤ c.hi ∧ c.hi ≤ maxC c.col
instance (c : Cd) : Decidable (ValidCd c) := by unfold ValidCd; infer_instance
def HeadOk (q : Qy) : Prop := (1 ≤ q.kind ∧ q.kind ≤ 7) ∧ (0 ≤ q.col ∧ q.col ≤ 3) ∧ (q.col = 0 ∨ (2 ≤ q.kind ∧ q.kind ≤ 6)) ∧ 0 ≤ q.k ∧ q.k ≤ maxKF q.kind ∧ (q.kind = 3 ∨ q.kind = 6 → 1 ≤ q.k) ∧ q.fs.length = nFilF q.kind
instance (q : Qy) : Decidable (HeadOk q) := by unfold HeadOk; infer_instance
end Go.Proofs.Ytpdblgchfkcgpaa
namespace Go.Proofs.Ytpdblgchfkcgpaa
open Go.RowKit

theorem mvQ {W wk : World} {g : Nat} {o : Obj} (h : Hid (W.heap[g]? = some o)) (hb : Below W.heap.size W wk) : Hid (wk.heap[g]? = some o) := Lib.hid ((hb.block g (heap_lt h.out)).trans h.out)
end Go.Proofs.Ytpdblgchfkcgpaa
namespace Go.Proofs.Ytpdblgchfkcgpaa
open Go.RowKit

/-- All blocks but k stand as they stood; memory may be made. -/
structure Gk (k : Nat) (w w' : World) : Prop where
  g : w.grownBy w' (some k)
section
variable {k : Nat} {w X Y : World}
theorem Gk.refl (k : Nat) (w : World) : Gk k w w := ⟨World.grownBy.refl _ _⟩
theorem Gk.drew (h : Gk k w X) : Gk k w X.drew := ⟨⟨h.g.os, h.g.tape, h.g.output, h.g.size, h.g.block⟩⟩
theorem Gk.drewN (h : Gk k w X) (n : Nat) : Gk k w (X.drewN n) := ⟨⟨h.g.os, h.g.tape, h.g.output, h.g.size, h.g.block⟩⟩
theorem Gk.set (h : Gk k w X) (i : Nat) (u : Value) : Gk k w (X.setCell ⟨k, i, none⟩ u) := ⟨grown_set h.g i u⟩
theorem Gk.call (h : Gk k w X) (hb : Below X.heap.size X Y) : Gk k w Y :=
  ⟨⟨hb.os.trans h.g.os, hb.tape.trans h.g.tape, hb.output.trans h.g.output, Nat.le_trans h.g.size hb.size, fun b hl hn => (hb.block b (Nat.lt_of_lt_of_le hl h.g.size)).trans (h.g.block b hl hn)⟩⟩
theorem Gk.alloc (h : Gk k w X) (o : Obj) : Gk k w (X.alloc o) := h.call ((Below.refl _ _).alloc (Nat.le_refl _) _)
theorem Gk.ofBelow (h : Below w.heap.size w X) : Gk k w X := (Gk.refl k w).call h
theorem Gk.trans {Z : World} (h : Gk k w X) (h' : Gk k X Z) : Gk k w Z :=
  ⟨⟨h'.g.os.trans h.g.os, h'.g.tape.trans h.g.tape, h'.g.output.trans h.g.output, Nat.le_trans h.g.size h'.g.size, fun b hl hn => (h'.g.block b (Nat.lt_of_lt_of_le hl h.g.size) hn).trans (h.g.block b hl hn)⟩⟩
theorem Gk.row {b : Nat} {o : Obj} (h : Gk k w X) (hb : w.heap[b]? = some o) (hne : b ≠ k) : X.heap[b]? = some o := (h.g.block b (heap_lt hb) (by intro e; injection e with e; exact hne e)).trans hb
theorem Gk.below {N : Nat} {w0 : World} (h : Gk k w X) (hb : Below N w0 w) (hk : N ≤ k) (hN : N ≤ w.heap.size) : Below N w0 X := hb.grown h.g hN (fun j hj => by injection hj with hj; omega)
theorem Gk.slKeep {α : Type} {E : Enc α} {S : Nat → Prop} {A : Option Addr} {c : Nat} {xs : List α} (h : Gk k w X) (hs : Sl E S w A c xs) (hS : ¬ S k) : Sl E S X A c xs :=
  hs.keep ((Agree.refl _ _).grown h.g (by rintro _ ⟨⟩; exact hS))
end
end Go.Proofs.Ytpdblgchfkcgpaa
