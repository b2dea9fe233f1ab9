/-
  Contracts of the network chapter (XNet22).
-/
import Derived.Test.YtmaaniogcmlfbaaNet16
import Derived.Test.YtmaaniogcmlfbaaNet17
import Derived.Test.YtmaaniogcmlfbaaNet19
import Derived.Test.YtmaaniogcmlfbaaNet20
import Derived.Test.YtmaaniogcmlfbaaNet21
namespace Go.Proofs.Ytmaaniogcmlfbaa
open Go.RowKit

section

theorem applyR {S : Nat → Prop} {A : Option Addr} {c : Nat} {n : Nt} (w : World) (h : Sl pkE S w A c n.way) (ok : NtOk n) (kd at_ by_ : Int) : Calls Try.prog 17 #[.agg #[.int .i64 n.now, .slice A n.way.length c], .agg #[.int .i64 kd, .int .i64 at_, .int .i64 by_]] w (ApRes S w (applyF n kd at_ by_).1 (applyF n kd at_ by_).2) := by
  have hlen := ok.len
  unfold applyF
  by_cases k5 : kd = 5
  · subst k5; rw [if_pos rfl]; exact applyR_tick w h at_ by_ ok.lo ok.hi
  rw [if_neg k5]
  by_cases ha : at_ < 0
  · rw [if_pos ha]; exact applyR_out w h kd at_ by_ k5 (.inl ha)
  rw [if_neg ha]
  obtain ⟨i, rfl⟩ : ∃ i : Nat, at_ = i := ⟨at_.toNat, by omega⟩
  rw [Int.toNat_natCast]
  cases hi : n.way[i]? with
  | none => exact applyR_out w h kd i by_ k5 (.inr (by have := List.getElem?_eq_none_iff.1 hi; omega))
  | some p =>
    have hb : p.b.length ≤ 40 := ok.bytes p (mem_of_get hi)
    simp only []
    unfold atF
    by_cases k1 : kd = 1
    · subst k1; rw [if_pos rfl]
      by_cases hp : p.at_ ≤ n.now
      · rw [if_pos hp]; exact applyR_deliver w h hi by_ (by omega) (by omega) hp
      · rw [if_neg hp]; exact applyR_late w h hi by_ hp
    rw [if_neg k1]
    by_cases k2 : kd = 2
    · subst k2; rw [if_pos rfl]; exact applyR_lose w h hi by_ (by omega)
    rw [if_neg k2]
    by_cases k3 : kd = 3
    · subst k3; rw [if_pos rfl]; exact applyR_double w h hi by_ (by omega)
    rw [if_neg k3]
    by_cases k4 : kd = 4
    · subst k4; rw [if_pos rfl]
      by_cases hno : p.b.length = 0 ∨ by_ < 0
      · rw [if_pos hno]; exact applyR_still w h hi by_ hno
      · rw [if_neg hno]; exact applyR_alter w h hi by_ (by omega) (by omega) (by omega) (by omega)
    rw [if_neg k4]
    exact applyR_other w h hi kd by_ ⟨k1, k2, k3, k4, k5⟩

theorem applyN {S : Nat → Prop} {A : Option Addr} {c : Nat} {n : Nt} (w : World) (h : Sl pkE S w A c n.way) (ok : NtOk n) (kd at_ by_ : Int) : Calls Try.prog 13 #[.agg #[.int .i64 n.now, .slice A n.way.length c], .agg #[.int .i64 kd, .int .i64 at_, .int .i64 by_]] w (ApRes S w (applyF n kd at_ by_).1 (applyF n kd at_ by_).2) := by
  have hlen := ok.len
  unfold applyF
  by_cases k5 : kd = 5
  · subst k5; rw [if_pos rfl]; exact applyN_tick w h at_ by_ ok.lo ok.hi
  rw [if_neg k5]
  by_cases ha : at_ < 0
  · rw [if_pos ha]; exact applyN_out w h kd at_ by_ k5 (.inr (.inr (.inl ha)))
  rw [if_neg ha]
  obtain ⟨i, rfl⟩ : ∃ i : Nat, at_ = i := ⟨at_.toNat, by omega⟩
  rw [Int.toNat_natCast]
  cases hi : n.way[i]? with
  | none => exact applyN_out w h kd i by_ k5 (.inr (.inr (.inr (by have := List.getElem?_eq_none_iff.1 hi; omega))))
  | some p =>
    have hb : p.b.length ≤ 40 := ok.bytes p (mem_of_get hi)
    simp only []
    unfold atF
    by_cases k1 : kd = 1
    · subst k1; rw [if_pos rfl]
      by_cases hp : p.at_ ≤ n.now
      · rw [if_pos hp]; exact applyN_deliver w h hi by_ (by omega) hp
      · rw [if_neg hp]; exact applyN_late w h hi by_ hp
    rw [if_neg k1]
    by_cases k2 : kd = 2
    · subst k2; rw [if_pos rfl]; exact applyN_lose w h hi by_ (by omega)
    rw [if_neg k2]
    by_cases k3 : kd = 3
    · subst k3; rw [if_pos rfl]
      unfold withF
      by_cases hf : 512 ≤ n.way.length
      · rw [if_pos hf]; exact applyN_full w h hi by_ hf
      · rw [if_neg hf]; exact applyN_double w h hi by_ (by omega) (by omega)
    rw [if_neg k3]
    by_cases k4 : kd = 4
    · subst k4; rw [if_pos rfl]
      by_cases hno : p.b.length = 0 ∨ by_ < 0
      · rw [if_pos hno]; exact applyN_still w h hi by_ (by omega) hno
      · rw [if_neg hno]; exact applyN_alter w h hi by_ (by omega) (by omega) (by omega) (by omega)
    rw [if_neg k4]
    exact applyN_out w h kd i by_ k5 (by omega)
end

end Go.Proofs.Ytmaaniogcmlfbaa
