/-
  The laws of the network: how operations and events lie in memory, boxes of networks, Send with its plain result.
-/
import Derived.Test.YtmaaniogcmlfbaaNetC
import Derived.Test.YtmaaniogcmlfbaaNetF
namespace Go.Proofs.Ytmaaniogcmlfbaa
open Go.RowKit

def evE : Enc Ev := (Enc.i64.pair (Enc.i64.pair Enc.i64)).via fun e => (e.kd, e.at_, e.by_)
theorem evE_open {S : Nat → Prop} {w : World} {cs : List Value} {e : Ev} (h : evE.rep S w cs e) : cs = [.int .i64 e.kd, .int .i64 e.at_, .int .i64 e.by_] := by
  obtain ⟨c1, d1, rfl, h1, c2, d2, rfl, h2, h3⟩ := h
  cases h1; cases h2; cases h3
  rfl
theorem ev_at {S : Nat → Prop} {w : World} {A : Option Addr} {c i : Nat} {es : List Ev} {e : Ev} (h : Sl evE S w A c es) (hi : es[i]? = some e) :
    ∃ b o, A = some ⟨b, o, none⟩ ∧ S b ∧ b < w.heap.size ∧ w.cell? ⟨b, o + i * 3, none⟩ = some (.int .i64 e.kd) ∧ w.cell? ⟨b, o + i * 3 + 1, none⟩ = some (.int .i64 e.at_) ∧ w.cell? ⟨b, o + i * 3 + 2, none⟩ = some (.int .i64 e.by_) := by
  obtain ⟨b, o, cs, hA, hS, hb, hr, hc⟩ := h.at' hi (by decide)
  obtain rfl := evE_open hr
  exact ⟨b, o, hA, hS, hb, hc 0 _ rfl, hc 1 _ rfl, hc 2 _ rfl⟩

def opE : Enc NOp := (evE.pair (pkE.pair Enc.bool)).via fun o => (⟨o.kd, o.at_, o.by_⟩, o.p, o.send)
theorem opE_open {S : Nat → Prop} {w : World} {cs : List Value} {o : NOp} (h : opE.rep S w cs o) :
    ∃ B d, cs = [.int .i64 o.kd, .int .i64 o.at_, .int .i64 o.by_, .int .i64 o.p.fr, .int .i64 o.p.to_, .int .i64 o.p.at_, .slice B o.p.b.length d, .bool o.send] ∧ Sl .u8 S w B d o.p.b := by
  obtain ⟨c1, d1, rfl, h1, c2, d2, rfl, h2, h3⟩ := h
  obtain rfl := evE_open h1
  obtain ⟨B, d, rfl, hs⟩ := pkE_open h2
  cases h3
  exact ⟨B, d, rfl, hs⟩
theorem opE_shut {S : Nat → Prop} {w : World} {o : NOp} {B : Option Addr} {d : Nat} (h : Sl .u8 S w B d o.p.b) :
    opE.rep S w [.int .i64 o.kd, .int .i64 o.at_, .int .i64 o.by_, .int .i64 o.p.fr, .int .i64 o.p.to_, .int .i64 o.p.at_, .slice B o.p.b.length d, .bool o.send] o :=
  ⟨[_, _, _], _, rfl, ⟨[_], _, rfl, rfl, [_], _, rfl, rfl, rfl⟩, [_, _, _, _], _, rfl, pkE_shut h, rfl⟩
theorem op_at {S : Nat → Prop} {w : World} {A : Option Addr} {c i : Nat} {l : List NOp} {o : NOp} (h : Sl opE S w A c l) (hi : l[i]? = some o) :
    ∃ b f B d, A = some ⟨b, f, none⟩ ∧ S b ∧ b < w.heap.size ∧ w.cell? ⟨b, f + i * 8, none⟩ = some (.int .i64 o.kd) ∧ w.cell? ⟨b, f + i * 8 + 1, none⟩ = some (.int .i64 o.at_) ∧ w.cell? ⟨b, f + i * 8 + 2, none⟩ = some (.int .i64 o.by_) ∧
      w.cell? ⟨b, f + i * 8 + 3, none⟩ = some (.int .i64 o.p.fr) ∧ w.cell? ⟨b, f + i * 8 + 4, none⟩ = some (.int .i64 o.p.to_) ∧ w.cell? ⟨b, f + i * 8 + 5, none⟩ = some (.int .i64 o.p.at_) ∧
      w.cell? ⟨b, f + i * 8 + 6, none⟩ = some (.slice B o.p.b.length d) ∧ w.cell? ⟨b, f + i * 8 + 7, none⟩ = some (.bool o.send) ∧ Sl .u8 S w B d o.p.b := by
  obtain ⟨b, f, cs, hA, hS, hb, hr, hc⟩ := h.at' hi (by decide)
  obtain ⟨B, d, rfl, hs⟩ := opE_open hr
  exact ⟨b, f, B, d, hA, hS, hb, hc 0 _ rfl, hc 1 _ rfl, hc 2 _ rfl, hc 3 _ rfl, hc 4 _ rfl, hc 5 _ rfl, hc 6 _ rfl, hc 7 _ rfl, hs⟩

/-- Block g, one of G's, holds the network n; what it holds lies outside G's blocks. -/
def NG (G : Nat → Prop) (w : World) (g : Nat) (n : Nt) : Prop := ∃ A c, w.heap[g]? = some (.cells #[.int .i64 n.now, .slice A n.way.length c] 26 (0, 0)) ∧ Sl pkE (fun b => ¬ G b) w A c n.way
section
variable {G : Nat → Prop} {w w' : World} {g : Nat} {n : Nt}
theorem NG.below (h : NG G w g n) (hb : Below w.heap.size w w') : NG G w' g n := by
  obtain ⟨A, c, hg, hs⟩ := h
  exact ⟨A, c, (hb.block g (heap_lt hg)).trans hg, hs.keep (Below.agree hb)⟩
theorem NG.lt (h : NG G w g n) : g < w.heap.size := by obtain ⟨A, c, hg, _⟩ := h; exact heap_lt hg
theorem NG.open_ (h : NG G w g n) : ∃ A c, w.cell? ⟨g, 0, none⟩ = some (.int .i64 n.now) ∧ w.cell? ⟨g, 1, none⟩ = some (.slice A n.way.length c) ∧ (∀ o, w.frozen? ⟨g, o, none⟩ = false) ∧ g < w.heap.size ∧ w.heap[g]? = some (.cells #[.int .i64 n.now, .slice A n.way.length c] 26 (0, 0)) ∧ Sl pkE (fun b => ¬ G b) w A c n.way := by
  obtain ⟨A, c, hg, hs⟩ := h
  exact ⟨A, c, cell_of_row _ _ 0 _ _ _ hg, cell_of_row _ _ 1 _ _ _ hg, fun o => by simp [World.frozen?, hg], heap_lt hg, hg, hs⟩
theorem NG.set (h : NG G w g n) {p : Addr} (hp : G p.block) (hne : p.block ≠ g) (u : Value) : NG G (w.setCell p u) g n := by
  obtain ⟨A, c, hg, hs⟩ := h
  exact ⟨A, c, (Below.heap_setCell _ _ _ _ (fun e => hne e.symm)).trans hg, hs.keep ((Agree.refl _ _).set (fun h => h hp) u)⟩
theorem NG.drew (h : NG G w g n) : NG G w.drew g n := by
  obtain ⟨A, c, hg, hs⟩ := h
  exact ⟨A, c, hg, hs.drew⟩
theorem NG.putN {S : Nat → Prop} {A : Option Addr} {c len : Nat} {now : Int} (h1 : n.now = now) (h2 : n.way.length = len) (hG : G g) (hg : ∃ u v, w.heap[g]? = some (.cells #[u, v] 26 (0, 0))) (hs : Sl pkE S w A c n.way) (hS : ∀ b, S b → b < w.heap.size → ¬ G b) :
    NG G ((w.setCell ⟨g, 0, none⟩ (.int .i64 now)).setCell ⟨g, 1, none⟩ (.slice A len c)) g n := by
  subst h1; subst h2
  obtain ⟨u, v, hg⟩ := hg
  exact ⟨A, c, heap_set (i := 1) (heap_set (i := 0) hg), (((hs.sub hS).keep ((Agree.refl _ _).set (fun h => h hG) _)).keep ((Agree.refl _ _).set (fun h => h hG) _))⟩
theorem NG.drewN (h : NG G w g n) (k : Nat) : NG G (w.drewN k) g n := by
  obtain ⟨A, c, hg, hs⟩ := h
  exact ⟨A, c, hg, hs.keep ((Agree.refl _ _).drewN k)⟩
theorem NG.alloc (h : NG G w g n) (o : Obj) : NG G (w.alloc o) g n := h.below ((Below.refl _ _).alloc (Nat.le_refl _) _)
theorem NG.put {S : Nat → Prop} {A : Option Addr} {c : Nat} (hG : G g) (hg : ∃ u v, w.heap[g]? = some (.cells #[u, v] 26 (0, 0))) (hs : Sl pkE S w A c n.way) (hS : ∀ b, S b → b < w.heap.size → ¬ G b) :
    NG G ((w.setCell ⟨g, 0, none⟩ (.int .i64 n.now)).setCell ⟨g, 1, none⟩ (.slice A n.way.length c)) g n := by
  obtain ⟨u, v, hg⟩ := hg
  exact ⟨A, c, heap_set (i := 1) (heap_set (i := 0) hg), (((hs.sub hS).keep ((Agree.refl _ _).set (fun h => h hG) _)).keep ((Agree.refl _ _).set (fun h => h hG) _))⟩
theorem NG.made {S : Nat → Prop} {A : Option Addr} {c : Nat} (hs : Sl pkE S w A c n.way) (hS : ∀ b, S b → b < w.heap.size → ¬ G b) (hg : g = w.heap.size) : NG G (w.alloc (.cells #[.int .i64 n.now, .slice A n.way.length c] 26)) g n :=
  ⟨A, c, heap_alloc_at hg, (hs.sub hS).keep ((Agree.refl _ _).alloc _)⟩
end

/-- Block g is a network's box. -/
def HG (w : World) (g : Nat) : Prop := ∃ u v, w.heap[g]? = some (.cells #[u, v] 26 (0, 0))
theorem NG.hg {G : Nat → Prop} {w : World} {g : Nat} {n : Nt} (h : NG G w g n) : HG w g := by obtain ⟨A, c, hg, _⟩ := h; exact ⟨_, _, hg⟩
theorem HG.cells {w : World} {g : Nat} (h : HG w g) : ∃ u v, w.cell? ⟨g, 0, none⟩ = some u ∧ w.cell? ⟨g, 1, none⟩ = some v ∧ w.frozen? ⟨g, 0, none⟩ = false ∧ w.frozen? ⟨g, 1, none⟩ = false := by
  obtain ⟨u, v, hg⟩ := h; exact ⟨u, v, cell_of_row _ _ 0 _ _ _ hg, cell_of_row _ _ 1 _ _ _ hg, by simp [World.frozen?, hg], by simp [World.frozen?, hg]⟩
theorem HG.lt {w : World} {g : Nat} (h : HG w g) : g < w.heap.size := by obtain ⟨_, _, hg⟩ := h; exact heap_lt hg
theorem HG.alloc {w : World} {g : Nat} (h : HG w g) (o : Obj) : HG (w.alloc o) g := by obtain ⟨u, v, hg⟩ := h; exact ⟨u, v, (Below.heap_alloc _ _ _ (heap_lt hg)).trans hg⟩
theorem HG.drew {w : World} {g : Nat} (h : HG w g) : HG w.drew g := h
theorem HG.drewN {w : World} {g : Nat} (h : HG w g) (k : Nat) : HG (w.drewN k) g := h
theorem HG.set {w : World} {g : Nat} (h : HG w g) {p : Addr} (hp : g ≠ p.block) (u : Value) : HG (w.setCell p u) g := by obtain ⟨a, b, hg⟩ := h; exact ⟨a, b, (Below.heap_setCell _ _ _ _ hp).trans hg⟩
theorem HG.below {w w' : World} {g : Nat} (h : HG w g) (hb : Below w.heap.size w w') : HG w' g := by obtain ⟨a, b, hg⟩ := h; exact ⟨a, b, (hb.block g (heap_lt hg)).trans hg⟩
theorem HG.under {w w' : World} {g k : Nat} (h : HG w g) (hb : Below k w w') (hk : g < k) : HG w' g := by obtain ⟨a, b, hg⟩ := h; exact ⟨a, b, (hb.block g hk).trans hg⟩
theorem HG.grown {w w' : World} {g : Nat} {row : Option Nat} (h : HG w g) (hg : w.grownBy w' row) (hne : some g ≠ row) : HG w' g := by obtain ⟨a, b, hh⟩ := h; exact ⟨a, b, (hg.block g (heap_lt hh) hne).trans hh⟩
theorem NG.repl {G S : Nat → Prop} {w : World} {g : Nat} {n : Nt} {A : Option Addr} {c len : Nat} {now : Int} (h1 : n.now = now) (h2 : n.way.length = len) (hG : G g) (hg : HG w g) (hs : Sl pkE S w A c n.way) (hS : ∀ b, S b → b < w.heap.size → ¬ G b) :
    NG G ((w.setCell ⟨g, 0, none⟩ (.int .i64 now)).setCell ⟨g, 1, none⟩ (.slice A len c)) g n := NG.putN h1 h2 hG hg hs hS

theorem NG.put2 {G S : Nat → Prop} {w : World} {g : Nat} {n : Nt} {A : Option Addr} {c len : Nat} {now : Int} (h1 : n.now = now) (h2 : n.way.length = len) (hg : HG w g) (hs : Sl pkE S w A c n.way) (hS : ∀ b, S b → b < w.heap.size → ¬ G b ∧ b ≠ g) :
    NG G ((w.setCell ⟨g, 0, none⟩ (.int .i64 now)).setCell ⟨g, 1, none⟩ (.slice A len c)) g n := by
  subst h1; subst h2
  obtain ⟨u, v, hg⟩ := hg
  have hs' := hs.sub (T := fun b => ¬ G b ∧ b ≠ g) hS
  exact ⟨A, c, heap_set (i := 1) (heap_set (i := 0) hg), ((hs'.keep ((Agree.refl _ _).set (fun h => h.2 rfl) _)).keep ((Agree.refl _ _).set (fun h => h.2 rfl) _)).sub fun b hb _ => hb.1⟩
theorem NG.madeN {G S : Nat → Prop} {w : World} {g : Nat} {n : Nt} {A : Option Addr} {c len : Nat} {now : Int} (h1 : n.now = now) (h2 : n.way.length = len) (hs : Sl pkE S w A c n.way) (hS : ∀ b, S b → b < w.heap.size → ¬ G b) (hg : g = w.heap.size) : NG G (w.alloc (.cells #[.int .i64 now, .slice A len c] 26)) g n := by
  subst h1; subst h2; exact NG.made hs hS hg

theorem sendF_now (n : Nt) (p : Pk) : (sendF n p).now = n.now := withF_now _ _
theorem sendFN {S : Nat → Prop} {A B : Option Addr} {c d : Nat} {n : Nt} {p : Pk} (w : World) (h : Sl pkE S w A c n.way) (hp : Sl .u8 S w B d p.b) (hl : p.b.length ≤ 40) :
    Calls Try.prog 11 #[.agg #[.int .i64 n.now, .slice A n.way.length c], .agg #[.int .i64 p.fr, .int .i64 p.to_, .int .i64 p.at_, .slice B p.b.length d]] w fun e w' =>
      ∃ A' c', e = .returned (.agg #[.int .i64 (sendF n p).now, .slice A' (sendF n p).way.length c']) ∧ Sl pkE (Fresh S w) w' A' c' (sendF n p).way ∧ Below w.heap.size w w' := by
  rw [sendF_now]
  exact sendN w h hp (by omega)
theorem applyE {S : Nat → Prop} {A : Option Addr} {c : Nat} {n : Nt} {r : Nt × List Pk} {kd at_ by_ : Int} (w : World) (h : Sl pkE S w A c n.way) (ok : NtOk n) (hE : applyF n kd at_ by_ = r) :
    Calls Try.prog 13 #[.agg #[.int .i64 n.now, .slice A n.way.length c], .agg #[.int .i64 kd, .int .i64 at_, .int .i64 by_]] w (ApRes S w r.1 r.2) := by
  subst hE; exact applyN w h ok kd at_ by_
theorem madeE {S : Nat → Prop} {A : Option Addr} {c : Nat} {p q : Pk} {x y z : Int} {sd : Bool} (w : World) (h : Sl .u8 S w A c p.b) (hq : madeF p = q) :
    Calls Try.prog 12 #[.agg #[.int .i64 x, .int .i64 y, .int .i64 z, .int .i64 p.fr, .int .i64 p.to_, .int .i64 p.at_, .slice A p.b.length c, .bool sd]] w fun e w' =>
      ∃ c', e = .returned (.agg #[.int .i64 q.fr, .int .i64 q.to_, .int .i64 q.at_, .slice A q.b.length c']) ∧ Sl .u8 S w' A c' q.b ∧ Below w.heap.size w w' := by
  subst hq; exact made_any x y z sd w h
theorem sendF_way (n : Nt) (p : Pk) (h : n.way.length < 512) : (sendF n p).way = n.way ++ [lateF n p] := by
  simp only [sendF, withF]; rw [if_neg (by omega)]
theorem applyRE {S : Nat → Prop} {A : Option Addr} {c : Nat} {n : Nt} {r : Nt × List Pk} {kd at_ by_ : Int} (w : World) (h : Sl pkE S w A c n.way) (ok : NtOk n) (hE : applyF n kd at_ by_ = r) :
    Calls Try.prog 17 #[.agg #[.int .i64 n.now, .slice A n.way.length c], .agg #[.int .i64 kd, .int .i64 at_, .int .i64 by_]] w (ApRes S w r.1 r.2) := by
  subst hE; exact applyR w h ok kd at_ by_
theorem sendFR {S : Nat → Prop} {A B : Option Addr} {c d : Nat} {n : Nt} {p : Pk} (w : World) (h : Sl pkE S w A c n.way) (hp : Sl .u8 S w B d p.b) (hl : p.b.length ≤ 40) :
    Calls Try.prog 16 #[.agg #[.int .i64 n.now, .slice A n.way.length c], .agg #[.int .i64 p.fr, .int .i64 p.to_, .int .i64 p.at_, .slice B p.b.length d]] w fun e w' =>
      ∃ A' c', e = .returned (.agg #[.int .i64 (sendF n p).now, .slice A' (sendF n p).way.length c']) ∧ Sl pkE (Fresh S w) w' A' c' (sendF n p).way ∧ Below w.heap.size w w' := by
  rw [sendF_now]
  exact sendR w h hp (by omega)
end Go.Proofs.Ytmaaniogcmlfbaa
