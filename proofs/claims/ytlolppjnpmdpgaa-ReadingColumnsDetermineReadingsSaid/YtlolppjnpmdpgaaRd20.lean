/-
  What the readings' fixed examples need: contracts whose results are given, columns that are written out.
-/
import Derived.Test.YtlolppjnpmdpgaaLive2
import Derived.Test.YtlolppjnpmdpgaaRd19
namespace Go.Proofs.Ytlolppjnpmdpgaa
open Go.RowKit

theorem takeP_eq {s : Str} {A B : Option Addr} {c d : Nat} {S : Nat → Prop} {p : Str × Int} (r : Rd) (w : World) (h : Sl rdE S w A c s.l) (k : Sl .bool S w B d s.g) (ok : OkStr s) (hl : s.l.length ≤ 1000) (hp : takeF s r = p) :
    Calls Try.prog 12 #[.agg #[.slice A s.l.length c, .slice B s.g.length d], .agg #[.int .i64 r.who, .int .i64 r.whn, .int .i64 r.knd, .int .i64 r.val]] w (StRes S w p) := by
  rw [← hp]; exact takeP_any r w h k ok hl
theorem retractP_eq {s : Str} {A B : Option Addr} {c d : Nat} {i : Int} {S : Nat → Prop} {p : Str × Int} (w : World) (h : Sl rdE S w A c s.l) (k : Sl .bool S w B d s.g) (ok : OkStr s) (hl : s.l.length ≤ 1000) (hp : retractF s i = p) :
    Calls Try.prog 14 #[.agg #[.slice A s.l.length c, .slice B s.g.length d], .int .i64 i] w (StRes S w p) := by
  rw [← hp]; exact retractP_any w h k ok hl
theorem columnsP_eq {s : Str} {A B : Option Addr} {c d : Nat} {log : Int} {S : Nat → Prop} {p : List (List Int)} (w : World) (he : checkF s.l.length log = 0) (h : Sl rdE S w A c s.l) (k : Sl .bool S w B d s.g) (ok : OkStr s) (hp : columnsF s log = p) :
    Calls Try.prog 19 #[.agg #[.slice A s.l.length c, .slice B s.g.length d], .int .i64 log] w (ColRes w (p, 0)) := by
  rw [← hp]; exact columnsP_ok w he h k ok
theorem bitsP_eq {s : Str} {A B : Option Addr} {c d : Nat} {log : Int} {S : Nat → Prop} {p : List (List Int)} (w : World) (he : checkF s.l.length log = 0) (h : Sl rdE S w A c s.l) (ok : OkStr s) (hp : bitsF s log = p) :
    Calls Try.prog 21 #[.agg #[.slice A s.l.length c, .slice B s.g.length d], .int .i64 log] w (ColRes w (p, 0)) := by
  rw [← hp]; exact bitsP_ok w he h ok
theorem columnsP_no {s : Str} {A B : Option Addr} {c d : Nat} {log e : Int} (w : World) (he : checkF s.l.length log = e) (hne : e ≠ 0) :
    Calls Try.prog 19 #[.agg #[.slice A s.l.length c, .slice B s.g.length d], .int .i64 log] w (ColRes w ([], e)) := by
  subst he; exact columnsP_bad w hne
theorem bitsP_no {s : Str} {A B : Option Addr} {c d : Nat} {log e : Int} (w : World) (he : checkF s.l.length log = e) (hne : e ≠ 0) :
    Calls Try.prog 21 #[.agg #[.slice A s.l.length c, .slice B s.g.length d], .int .i64 log] w (ColRes w ([], e)) := by
  subst he; exact bitsP_bad w hne
theorem tableP_eq {l : List (List Int)} {A : Option Addr} {c : Nat} {S : Nat → Prop} {p : List Int × Int} (w : World) (h : Sl Enc.u64.slice S w A c l) (h8 : headLen l ≤ 8) (hp : tableF l = p) :
    Calls Try.prog 29 #[.slice A l.length c] w (TabRes w p) := by
  rw [← hp]; exact tableP w h h8
theorem liveP_eq {s : Str} {A B : Option Addr} {c d : Nat} {S : Nat → Prop} {p : List Rd} (w : World) (h : Sl rdE S w A c s.l) (k : Sl .bool S w B d s.g) (hg : s.g.length = s.l.length) (hm : s.l.length ≤ 1000) (hp : liveF s = p) :
    Calls Try.prog 31 #[.agg #[.slice A s.l.length c, .slice B s.g.length d]] w (RdsRes S w p) := by
  rw [← hp]; exact liveP w h k hg hm

/-- Rows of numbers laid one behind the other, and the slices that hold them. -/
def layW (w : World) : List (List Int) → World
  | [] => w
  | r :: rs => layW (w.alloc (.cells (r.map (Value.int .u64)).toArray 50)) rs
def layV (n : Nat) : List (List Int) → List Value
  | [] => []
  | r :: rs => .slice (some ⟨n, 0, none⟩) r.length r.length :: layV (n + 1) rs
theorem layW_size : ∀ (rs : List (List Int)) (w : World), (layW w rs).heap.size = w.heap.size + rs.length
  | [], w => rfl
  | r :: rs, w => by simp only [layW, layW_size rs, World.size_alloc, List.length_cons]; omega
theorem layW_below : ∀ (rs : List (List Int)) (w : World), Below w.heap.size w (layW w rs)
  | [], w => Below.refl _ _
  | r :: rs, w => ((Below.refl _ _).alloc (Nat.le_refl _) _).trans ((layW_below rs _).mono (by simp))
theorem lay_elems : ∀ (rs : List (List Int)) (w : World) (n : Nat), w.heap.size = n → (∀ r ∈ rs, r.length ≤ 1000) → Elems Enc.u64.slice (fun _ => True) (layW w rs) (layV n rs) rs
  | [], _, _, _, _ => rfl
  | r :: rs, w, n, hn, hl => by
    refine ⟨[_], _, rfl, ⟨_, _, rfl, ?_⟩, lay_elems rs _ (n + 1) (by simp [hn]) (fun x hx => hl x (by simp [hx]))⟩
    exact (Sl.litAt (S := fun _ => True) hn (u64_elems r) (by have := hl r (by simp); unfold maxLen; omega) (fun _ _ _ => trivial) trivial).keep (Below.agree (layW_below rs _))
theorem lay_cols (rs : List (List Int)) (w : World) {n m : Nat} (hn : w.heap.size = n) (hm : n + rs.length = m) (hl : ∀ r ∈ rs, r.length ≤ 1000) (hl2 : rs.length ≤ 1000) :
    Sl Enc.u64.slice (fun _ => True) ((layW w rs).alloc (.cells (layV n rs).toArray 48)) (some ⟨m, 0, none⟩) rs.length rs :=
  Sl.litAt (S := fun _ => True) (by rw [layW_size, hn, hm]) (lay_elems rs w n hn hl) (by unfold maxLen; omega) (fun _ _ _ => trivial) trivial
end Go.Proofs.Ytlolppjnpmdpgaa
