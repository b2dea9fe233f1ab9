/-
  Texts of this claim, merged: Rd11, Rd16, EvL, EvJ, EvC. Conditions: as each theorem says.
-/
import Derived.Deep.DeepCutAuto
import Derived.Lib.Mul64
import Derived.Laws.Bits64b
import Derived.Shelf.Bits.Mul64
import Derived.Test.YtmkpaolbejlodaaDoorC1
import Derived.Test.YtmkpaolbejlodaaDoorC2
import Derived.Test.YtmkpaolbejlodaaDoorC10
import Derived.Test.YtmkpaolbejlodaaDoorC7
import Derived.Test.YtmkpaolbejlodaaDoorC3
import Derived.Test.YtmkpaolbejlodaaDoorC4
import Derived.Test.YtmkpaolbejlodaaDoorC5
import Derived.Test.YtmkpaolbejlodaaDoorC6
import Derived.Test.YtmkpaolbejlodaaDoorC8
import Derived.Test.YtmkpaolbejlodaaDoorC9
import Derived.Test.YtmkpaolbejlodaaDoorC11
import Derived.Test.YtmkpaolbejlodaaDoorC12
import Derived.Test.YtmkpaolbejlodaaDoorC13
import Derived.Test.YtmkpaolbejlodaaDoorC14
set_option linter.unusedSimpArgs false
set_option linter.unusedVariables false
namespace Go.Proofs.YtmkpaolbejlodaaDoor
open Go.RowKit

section
variable {F : Nat → Prop} {w0 wr w2 w6 : World} {B : Nat} {xs : List (List Int)} {v v' : Value} {x : List Int} {A : Option Addr} {c : Nat}
end

/-- Columns and the number of an error. -/
def ColRes (w : World) (p : List (List Int) × Int) (e : Ending) (w' : World) : Prop :=
  ∃ A c, e = .returned (.tuple #[.slice A p.1.length c, .int .i64 p.2]) ∧ Sl Enc.u64.slice (fun b => w.heap.size ≤ b) w' A c p.1 ∧ Below w.heap.size w w'
theorem ColRes.none {w w' : World} {k : Int} {e : Ending} (he : e = .returned (.tuple #[.slice none 0 0, .int .i64 k])) (hb : Below w.heap.size w w') : ColRes w ([], k) e w' :=
  ⟨_, 0, he, Sl.nil_ _ _ _ _ (Nat.zero_le _), hb⟩

end Go.Proofs.YtmkpaolbejlodaaDoor
namespace Go.Proofs.YtmkpaolbejlodaaDoor
open Go.RowKit

def ropE : Enc ROp := (Enc.u8.pair (Enc.u8.pair (Enc.u8.pair Enc.bool))).via fun o => (o.b0, o.b1, o.b2, o.back)
theorem ropE_open {S : Nat → Prop} {w : World} {cs : List Value} {o : ROp} (h : ropE.rep S w cs o) : cs = [.int .u8 (o.b0.toNat : Int), .int .u8 (o.b1.toNat : Int), .int .u8 (o.b2.toNat : Int), .bool o.back] := by
  obtain ⟨c1, d1, rfl, h1, c2, d2, rfl, h2, c3, d3, rfl, h3, h4⟩ := h
  cases h1; cases h2; cases h3; cases h4
  rfl
theorem rop_at {S : Nat → Prop} {w : World} {A : Option Addr} {c i : Nat} {l : List ROp} {o : ROp} (h : Sl ropE S w A c l) (hi : l[i]? = some o) :
    ∃ b f, A = some ⟨b, f, none⟩ ∧ S b ∧ b < w.heap.size ∧ w.cell? ⟨b, f + i * 4, none⟩ = some (.int .u8 (o.b0.toNat : Int)) ∧ w.cell? ⟨b, f + i * 4 + 1, none⟩ = some (.int .u8 (o.b1.toNat : Int)) ∧
      w.cell? ⟨b, f + i * 4 + 2, none⟩ = some (.int .u8 (o.b2.toNat : Int)) ∧ w.cell? ⟨b, f + i * 4 + 3, none⟩ = some (.bool o.back) := by
  obtain ⟨b, f, cs, hA, hS, hb, hr, hc⟩ := h.at' hi (by decide)
  obtain rfl := ropE_open hr
  exact ⟨b, f, hA, hS, hb, hc 0 _ rfl, hc 1 _ rfl, hc 2 _ rfl, hc 3 _ rfl⟩

/-- Block g holds the stream s; its slices lie in blocks of G. -/
def StAt (G : Nat → Prop) (w : World) (g : Nat) (s : Str) : Prop :=
  ∃ A c B d, w.heap[g]? = some (.cells #[.slice A s.l.length c, .slice B s.g.length d] 31 (0, 0)) ∧ Sl rdE G w A c s.l ∧ Sl .bool G w B d s.g
section
variable {G : Nat → Prop} {w w' : World} {g : Nat} {s : Str}
theorem StAt.below (h : StAt G w g s) (hb : Below w.heap.size w w') : StAt G w' g s := by
  obtain ⟨A, c, B, d, hg, h1, h2⟩ := h
  exact ⟨A, c, B, d, (hb.block g (heap_lt hg)).trans hg, h1.keep (Below.agree hb), h2.keep (Below.agree hb)⟩
theorem StAt.lt (h : StAt G w g s) : g < w.heap.size := by obtain ⟨A, c, B, d, hg, _⟩ := h; exact heap_lt hg
theorem StAt.open_ (h : StAt G w g s) : ∃ A c B d, w.cell? ⟨g, 0, none⟩ = some (.slice A s.l.length c) ∧ w.cell? ⟨g, 1, none⟩ = some (.slice B s.g.length d) ∧ w.frozen? ⟨g, 0, none⟩ = false ∧ w.frozen? ⟨g, 1, none⟩ = false ∧ g < w.heap.size ∧ Sl rdE G w A c s.l ∧ Sl .bool G w B d s.g := by
  obtain ⟨A, c, B, d, hg, h1, h2⟩ := h
  exact ⟨A, c, B, d, cell_of_row _ _ 0 _ _ _ hg, cell_of_row _ _ 1 _ _ _ hg, by simp [World.frozen?, hg], by simp [World.frozen?, hg], heap_lt hg, h1, h2⟩
/-- Stored into an existing box of streams. -/
theorem StAt.put {S : Nat → Prop} {A B : Option Addr} {c d : Nat} (hg : ∃ u v, w.heap[g]? = some (.cells #[u, v] 31 (0, 0))) (h1 : Sl rdE S w A c s.l) (h2 : Sl .bool S w B d s.g) (hS : ∀ b, S b → b < w.heap.size → G b ∧ b ≠ g) :
    StAt G ((w.setCell ⟨g, 0, none⟩ (.slice A s.l.length c)).setCell ⟨g, 1, none⟩ (.slice B s.g.length d)) g s := by
  obtain ⟨u, v, hg⟩ := hg
  have k1 := h1.sub (T := fun b => G b ∧ b ≠ g) hS
  have k2 := h2.sub (T := fun b => G b ∧ b ≠ g) hS
  exact ⟨A, c, B, d, heap_set (i := 1) (heap_set (i := 0) hg), (((k1.keep ((Agree.refl _ _).set (fun h => h.2 rfl) _)).keep ((Agree.refl _ _).set (fun h => h.2 rfl) _)).sub fun b hb _ => hb.1), (((k2.keep ((Agree.refl _ _).set (fun h => h.2 rfl) _)).keep ((Agree.refl _ _).set (fun h => h.2 rfl) _)).sub fun b hb _ => hb.1)⟩
theorem StAt.made {S : Nat → Prop} {A B : Option Addr} {c d : Nat} (h1 : Sl rdE S w A c s.l) (h2 : Sl .bool S w B d s.g) (hS : ∀ b, S b → b < w.heap.size → G b) (hg : g = w.heap.size) :
    StAt G (w.alloc (.cells #[.slice A s.l.length c, .slice B s.g.length d] 31)) g s :=
  ⟨A, c, B, d, heap_alloc_at hg, (h1.sub hS).keep ((Agree.refl _ _).alloc _), (h2.sub hS).keep ((Agree.refl _ _).alloc _)⟩
theorem StAt.box (h : StAt G w g s) : ∃ u v, w.heap[g]? = some (.cells #[u, v] 31 (0, 0)) := by obtain ⟨A, c, B, d, hg, _⟩ := h; exact ⟨_, _, hg⟩
end

theorem takeR_any {s : Str} {A B : Option Addr} {c d : Nat} {S : Nat → Prop} (r : Rd) (w : World) (h : Sl rdE S w A c s.l) (k : Sl .bool S w B d s.g) (ok : OkStr s) (hl : s.l.length ≤ 1000) :
    Calls Tryd.prog 32 #[.agg #[.slice A s.l.length c, .slice B s.g.length d], .agg #[.int .i64 r.who, .int .i64 r.whn, .int .i64 r.knd, .int .i64 r.val]] w (StRes S w (takeF s r)) := by
  cases hv : validB r with
  | true => exact takeR_ok r w hv h k hl (by rw [ok.len]; exact hl)
  | false => exact takeR_bad r w hv
theorem retractR_nat {s : Str} {A B : Option Addr} {c d i : Nat} {S : Nat → Prop} (w : World) (h : Sl rdE S w A c s.l) (k : Sl .bool S w B d s.g) (ok : OkStr s) (hl : s.l.length ≤ 1000) (hi : i < s.l.length) :
    Calls Tryd.prog 21 #[.agg #[.slice A s.l.length c, .slice B s.g.length d], .int .i64 i] w (StRes S w (retractF s i)) := by
  obtain ⟨b, hb⟩ : ∃ b, s.g[i]? = some b := ⟨_, List.getElem?_eq_getElem (by rw [ok.len]; exact hi)⟩
  cases b with
  | true => exact retractR_gone w k hi ok.len hb
  | false => exact retractR_ok w h k hi ok.len hl hb
theorem retractR_mod {s : Str} {A B : Option Addr} {c d : Nat} {b : UInt8} {S : Nat → Prop} {p : Str × Int} (w : World) (h : Sl rdE S w A c s.l) (k : Sl .bool S w B d s.g) (ok : OkStr s) (hl : s.l.length ≤ 1000) (hi : b.toNat % s.l.length < s.l.length) (hp : retractF s ((b.toNat % s.l.length : Nat) : Int) = p) :
    Calls Tryd.prog 21 #[.agg #[.slice A s.l.length c, .slice B s.g.length d], .int .i64 ((b.toNat : Int).tmod (s.l.length : Int))] w (StRes S w p) := by
  rw [show ((b.toNat : Int).tmod (s.l.length : Int)) = ((b.toNat % s.l.length : Nat) : Int) from rfl, ← hp]
  exact retractR_nat w h k ok hl hi
theorem takeR_eq {s : Str} {A B : Option Addr} {c d : Nat} {S : Nat → Prop} {p : Str × Int} (r : Rd) (w : World) (h : Sl rdE S w A c s.l) (k : Sl .bool S w B d s.g) (ok : OkStr s) (hl : s.l.length ≤ 1000) (hp : takeF s r = p) :
    Calls Tryd.prog 32 #[.agg #[.slice A s.l.length c, .slice B s.g.length d], .agg #[.int .i64 r.who, .int .i64 r.whn, .int .i64 r.knd, .int .i64 r.val]] w (StRes S w p) := by
  rw [← hp]; exact takeR_any r w h k ok hl

set_option maxRecDepth 100000 in
set_option maxHeartbeats 4000000 in
theorem madeR {most : Nat} {l : List ROp} {A : Option Addr} {c : Nat} {S : Nat → Prop} (w : World) (h : Sl ropE S w A c l) (hmost : most ≤ 1000) :
    Calls Tryd.prog 12 #[.slice A l.length c, .int .i64 most] w fun e w' => ∃ A' c' B' d', e = .returned (.agg #[.slice A' (madeF most l).l.length c', .slice B' (madeF most l).g.length d']) ∧ Sl rdE (fun b => w.heap.size ≤ b) w' A' c' (madeF most l).l ∧ Sl .bool (fun b => w.heap.size ≤ b) w' B' d' (madeF most l).g ∧ Below w.heap.size w w' := by
  have hm := h.max
  have H := Lib.hid h.old
  clear h
  go_enter Tryd.func12, Tryd.ntmps12
  go_wp2_with fail
  go_loopw [6] (fun i wr => ∃ j : Nat, j ≤ l.length ∧ i = .int .i64 j ∧ StAt (fun b => w.heap.size + 1 < b) wr (w.heap.size + 1) (madeF most (l.take j)) ∧ Below (w.heap.size + 1) (w.alloc (.cells #[.slice none 0 0, .slice none 0 0] 31)) wr) (fun i _ => l.length - (intOf i).toNat)
  case atStart =>
    refine ⟨0, Nat.zero_le _, rfl, StAt.made (s := emptyStr) (S := fun _ => False) (Sl.nil_ _ _ _ _ (Nat.zero_le _)) (Sl.nil_ _ _ _ _ (Nat.zero_le _)) (fun _ h _ => h.elim) (by simp), (Below.refl _ _).alloc (by simp) _⟩
  case round =>
    obtain ⟨j, hj, rfl, hst, hb⟩ := hrel
    obtain ⟨ok, hln⟩ := madeF_ok most (l.take j)
    have b1 : Below w.heap.size w wr := ((Below.refl _ _).alloc (Nat.le_refl _) _).trans (hb.mono (by omega))
    by_cases hlt : j < l.length
    · obtain ⟨o, ho⟩ : ∃ o, l[j]? = some o := ⟨_, List.getElem?_eq_getElem hlt⟩
      have hT := Lib.hid (madeF_take (most := most) ho)
      obtain ⟨b0, f0, rfl, hS0, hb0, x0, x1, x2, x3⟩ := rop_at (H.out.keep (Below.agree b1)) ho
      generalize madeF most (l.take j) = s at *
      obtain ⟨A1, c1, B1, d1, y0, y1, z0, z1, hlt5, hs1, hs2⟩ := hst.open_
      have Hs1 := Lib.hid hs1
      have Hs2 := Lib.hid hs2
      have Hst := Lib.hid hst
      have Hb := Lib.hid hb
      have B1' := Lib.hid b1
      have Ho := Lib.hid ho
      have hj0 : (0 : Int) ≤ (j : Int) := by omega
      have hj1 : (j : Int) < (l.length : Int) := by omega
      have hb0' : b0 < w.heap.size := hS0.2
      have hne : b0 ≠ w.heap.size + 1 := by omega
      have hne' : w.heap.size + 1 ≠ b0 := by omega
      clear hs1 hs2 hst hb b1 ho
      cases hbk : o.back with
      | true =>
        rw [hbk] at x3
        by_cases hpos : 0 < s.l.length
        · have hpos' : (0 : Int) < (s.l.length : Int) := by omega
          have hmod : (o.b0.toNat : Int) % (s.l.length : Int) = ((o.b0.toNat % s.l.length : Nat) : Int) := by simp
          have hml : o.b0.toNat % s.l.length < s.l.length := Nat.mod_lt _ hpos
          have hw0 := (byte_words 0 o.b0 0).1.2.1
          have hne0 : ((s.l.length : Int) == 0) = false := by rw [beq_eq_false_iff_ne]; omega
          have hne1 : ¬ (s.l.length : Int) = 0 := by omega
          have hnil : (s.l = []) = False := by simp only [eq_iff_iff, iff_false]; intro e; rw [e] at hpos; simp at hpos
          have hnn : (0 : Int) ≤ (o.b0.toNat : Int) := by omega
          have Hmod := Lib.hid hmod
          obtain ⟨p, hp⟩ : ∃ p, retractF s ((o.b0.toNat % s.l.length : Nat) : Int) = p := ⟨_, rfl⟩
          have Hp := Lib.hid hp
          have hl1000 : s.l.length ≤ 1000 := by omega
          clear hmod hp
          go_upto_region 6 with fail
          go_cut [7, 8] (fun v7 v8 wx => ∃ g, v7 = .pointer (some ⟨g, 0, none⟩) ∧ v8 = .int .i64 p.2 ∧ wr.heap.size ≤ g ∧ StAt (fun b => (fun b => w.heap.size + 1 < b) b ∧ b ≠ g) wx g p.1 ∧ Below wr.heap.size wr wx)
          case first =>
            have br : Below wr.heap.size wr wr := Below.refl _ _
            have rc := fun W (hW : Below wr.heap.size wr W) b o (hb : b < wr.heap.size) => hW.cell (p := ⟨b, o, none⟩) hb
            have hzr : w.heap.size + 1 < wr.heap.size := hlt5
            go_region_held3 (fun X => Below wr.heap.size wr X) (repeat' (first | with_reducible assumption | with_reducible refine Below.drew ?_ | with_reducible refine Below.alloc ?_ ?_ _ | with_reducible refine Below.setCell ?_ ?_ _ | (simp; done) | omega | (simp <;> omega)))
              (first | (go_at_call 21; refine (retractR_mod (S := fun b => (fun b => w.heap.size + 1 < b) b ∧ b < wr.heap.size) _ (Hs1.out.old.keep (Below.agree (by assumption))) (Hs2.out.old.keep (Below.agree (by assumption))) ok hl1000 hml Hp.out).mono ?_; rintro e w3 ⟨A5, c5, B5, d5, rfl, hs5, hg5, hb5⟩; have hb6 := Below.trans (by assumption : Below wr.heap.size wr _) (Below.mono hb5 (Below.size (by assumption))); have hz6 := hb6.size; obtain ⟨hd5, hdf5⟩ := bcell hb5; have hl5 := fun (b : Nat) h => Nat.lt_of_lt_of_le (n := b) h hb5.size))
            · go_wp2_with fail
              go_meet
              exact ⟨_, rfl, rfl, hz6, StAt.made hs5 hg5 (fun b hb hl => ⟨by rcases hb with hb | hb; exact hb.1; simp at hb; omega, by omega⟩) rfl, hb6.alloc hz6 _⟩
            · go_wp2_with fail
              go_meet
              exact ⟨_, rfl, rfl, Nat.le_refl _, StAt.put ⟨_, _, (hb5.block _ (by simp)).trans (heap_alloc_at rfl)⟩ hs5 hg5 (fun b hb hl => by rcases hb with hb | hb; exact ⟨⟨hb.1, by omega⟩, by omega⟩; simp at hb; exact ⟨⟨by omega, by omega⟩, by omega⟩), (hb6.setCell (Nat.le_refl _) _).setCell (Nat.le_refl _) _⟩
          case rest =>
            obtain ⟨g7, rfl, rfl, hg7, hst7, hbx⟩ := hcut
            have hstx := Hst.out.below hbx
            clear y0 y1 z0 z1 x0 x1 x2 x3
            obtain ⟨A1, c1, B1, d1, y0, y1, z0, z1, hlt5x, -, -⟩ := hstx.open_
            obtain ⟨A7, c7, B7, d7, u0, u1, -, -, hlt7, hs7, hg7s⟩ := hst7.open_
            have hn57 : w.heap.size + 1 ≠ g7 := by omega
            have hn75 : g7 ≠ w.heap.size + 1 := by omega
            have Hstx := Lib.hid hstx
            have Hs7 := Lib.hid hs7
            have Hg7 := Lib.hid hg7s
            have Hbx := Lib.hid (Hb.out.trans (hbx.mono (by omega)))
            clear hstx hs7 hg7s hbx hst7
            by_cases hp2 : p.2 = 0
            · have e2 : (p.2 == 0) = true := by simpa using hp2
              have Hp2 := Lib.hid hp2
              clear hp2
              go_wp2_with fail
              go_roundw
              case rel =>
                refine ⟨j + 1, by omega, by go_num, ?_, (Hbx.out.setCell (by simp) _).setCell (by simp) _⟩
                have e : stepM most s o = p.1 := by unfold stepM; rw [if_pos ⟨hbk, hpos⟩, Hp.out, if_pos Hp2.out]
                rw [hT.out, e]
                exact StAt.put Hstx.out.box Hs7.out Hg7.out (fun b hb _ => ⟨hb.1, by have := hb.1; omega⟩)
              case measure => simp [intOf]; omega
            · have e2 : (p.2 == 0) = false := by simpa using hp2
              have Hp2 := Lib.hid hp2
              clear hp2
              go_wp2_with fail
              go_roundw
              case rel =>
                refine ⟨j + 1, by omega, by go_num, ?_, Hbx.out⟩
                have e : stepM most s o = s := by unfold stepM; rw [if_pos ⟨hbk, hpos⟩, Hp.out, if_neg Hp2.out]
                rw [hT.out, e]
                exact Hstx.out
              case measure => simp [intOf]; omega
        · have hpos' : ¬ (0 : Int) < (s.l.length : Int) := by omega
          have hnil : s.l = [] := List.eq_nil_of_length_eq_zero (by omega)
          have hl0 : s.l.length = 0 := by omega
          have Hpos := Lib.hid hpos
          have Hnil := Lib.hid hnil
          clear hpos hpos'
          rw [hl0] at y0
          clear hl0 hnil
          go_wp2_with fail
          go_roundw
          case rel =>
            refine ⟨j + 1, by omega, by go_num, ?_, Hb.out⟩
            have e : stepM most s o = s := by unfold stepM; rw [if_neg (fun h => Hpos.out h.2), if_neg (fun h => h.1 hbk)]
            rw [hT.out, e]
            exact Hst.out
          case measure => simp [intOf]; omega
      | false =>
        rw [hbk] at x3
        by_cases hroom : s.l.length < most
        · have hroom' : (s.l.length : Int) < (most : Int) := by omega
          obtain ⟨p, hp⟩ : ∃ p, takeF s (rdOf o.b0 o.b1 o.b2) = p := ⟨_, rfl⟩
          have Hp := Lib.hid hp
          have hl1000 : s.l.length ≤ 1000 := by omega
          clear hp
          go_wp2_with fail
          go_region_law (first
            | (go_simp; go_at_call 33; refine (readingR o.b0 o.b1 o.b2 _).mono ?_; rintro e w4 ⟨rfl, hb3⟩; obtain ⟨hc3, hf3⟩ := bcellk (k := wr.heap.size) hb3 (by simp))
            | (go_simp; go_at_call 32; refine (takeR_eq (S := fun b => (fun b => w.heap.size + 1 < b) b ∧ b < wr.heap.size) (rdOf o.b0 o.b1 o.b2) _ ((Hs1.out.old.keep (by repeat' (first | with_reducible exact Agree.refl _ _ | with_reducible assumption | with_reducible refine Agree.set ?_ ?_ _ | with_reducible refine Agree.alloc ?_ _ | with_reducible refine Agree.drew ?_ | with_reducible refine Agree.drewN ?_ _ | omega | (simp <;> omega)))).keep (Below.agree hb3)) ((Hs2.out.old.keep (by repeat' (first | with_reducible exact Agree.refl _ _ | with_reducible assumption | with_reducible refine Agree.set ?_ ?_ _ | with_reducible refine Agree.alloc ?_ _ | with_reducible refine Agree.drew ?_ | with_reducible refine Agree.drewN ?_ _ | omega | (simp <;> omega)))).keep (Below.agree hb3)) ok hl1000 Hp.out).mono ?_; rintro e w5 ⟨A4, c4, B4, d4, rfl, hs4, hg4, hb4⟩; obtain ⟨hc4, hf4⟩ := bcellk (k := wr.heap.size) hb4 (by have := hb3.size; simp at this; omega)))
          all_goals
            have hb34 : Below wr.heap.size wr w5 := ((Below.refl _ _).drew.trans hb3).trans (hb4.mono hb3.size)
            have hz3 : wr.heap.size ≤ w4.heap.size := hb3.size
            go_wp2_with fail
            go_roundw
            case rel =>
              refine ⟨j + 1, by omega, by go_num, ?_, ((Hb.out.trans (hb34.mono (by omega))).setCell (by simp) _).setCell (by simp) _⟩
              have e : stepM most s o = p.1 := by unfold stepM; rw [if_neg (fun h => by simp [hbk] at h), if_pos ⟨by simp [hbk], hroom⟩, Hp.out]
              rw [hT.out, e]
              exact StAt.put (Hst.out.below hb34).box hs4 hg4 (fun b hb hl => by rcases hb with hb | hb; exact ⟨hb.1, by have := hb.1; omega⟩; exact ⟨by omega, by omega⟩)
            case measure => simp [intOf]; omega
        · have hroom' : ¬ (s.l.length : Int) < (most : Int) := by omega
          go_wp2_with fail
          go_roundw
          case rel =>
            refine ⟨j + 1, by omega, by go_num, ?_, Hb.out⟩
            have e : stepM most s o = s := by unfold stepM; rw [if_neg (fun h => by simp [hbk] at h), if_neg (fun h => hroom h.2)]
            rw [hT.out, e]
            exact Hst.out
          case measure => simp [intOf]; omega
    · have hjl : j = l.length := by omega
      subst hjl
      have hj1 : ¬ (l.length : Int) < (l.length : Int) := by omega
      rw [List.take_of_length_le (Nat.le_refl _)] at *
      obtain ⟨A1, c1, B1, d1, y0, y1, z0, z1, hlt5, hs1, hs2⟩ := hst.open_
      have hg0 : wr.heap[w.heap.size]? = some (.cells #[.slice none 0 0, .slice none 0 0] 31 (0, 0)) := (hb.block _ (by omega)).trans (heap_alloc_at rfl)
      have v0 := cell_of_row _ _ 0 _ _ _ hg0
      have v1 := cell_of_row _ _ 1 _ _ _ hg0
      simp only [List.getElem?_toArray, List.getElem?_cons_zero, List.getElem?_cons_succ] at v0 v1
      have t0 : wr.frozen? ⟨w.heap.size, 0, none⟩ = false := by simp [World.frozen?, hg0]
      have t1 : wr.frozen? ⟨w.heap.size, 1, none⟩ = false := by simp [World.frozen?, hg0]
      have hn1 : w.heap.size ≠ w.heap.size + 1 := by omega
      have Hs1 := Lib.hid hs1
      have Hs2 := Lib.hid hs2
      have B1' := Lib.hid b1
      clear hs1 hs2 hst hb b1 hg0
      go_wp2_with fail
      refine bodyPost_ret (v := .agg #[.slice A1 (madeF most l).l.length c1, .slice B1 (madeF most l).g.length d1]) (by simp [results, Tryd.results12, go_sem, *]) rfl ⟨A1, c1, B1, d1, rfl, ?_, ?_, (B1'.out.setCell (by simp) _).setCell (by simp) _⟩
      · exact (Hs1.out.keep (((Agree.refl _ _).set (by simp) _).set (by simp) _)).sub fun b hb _ => by omega
      · exact (Hs2.out.keep (((Agree.refl _ _).set (by simp) _).set (by simp) _)).sub fun b hb _ => by omega
end Go.Proofs.YtmkpaolbejlodaaDoor
namespace Go.Proofs.YtmkpaolbejlodaaDoor
open Go.RowKit

theorem total_cons (q : Qy) (r : Rd) (l : List Rd) (v : Nat) : totalF q (r :: l) v = termF q v r + totalF q l v := by simp [totalF]
/-! Conditions. -/
theorem match_snoc (l : List Cd) (c : Cd) (r : Rd) : matchB (l ++ [c]) r = (matchB l r && matchT r c) := by simp [matchB]
theorem unit_nn (q : Qy) (v : Nat) {r : Rd} (hr : ValidR r) (hk : q.k ≤ 6 ∨ q.kind ≠ 3) : 0 ≤ unitF q v r := by
  have hf := fldI_255 hr q.col
  unfold unitF
  split
  · omega
  · split
    · omega
    · split
      · exact (pow_le_6 hf.1 hf.2 (by omega)).1
      · split <;> omega
theorem term_set {x : Qy} (hx : ValidQ x) (c : Cd) {r : Rd} (hr : ValidR r) (v : Nat) : 0 ≤ termF (setQ x (fl x 0 ++ [c])) v r ∧ termF (setQ x (fl x 0 ++ [c])) v r ≤ termF x v r := by
  have h0 : 0 < x.fs.length := by rw [hx.head.2.2.2.2.2.2]; unfold nFilF; split <;> omega
  have hf := setQ_filt h0 (fl x 0 ++ [c]) v
  have hu := unit_nn x v hr (k6_of hx)
  have e : unitF (setQ x (fl x 0 ++ [c])) v r = unitF x v r := rfl
  unfold termF
  rw [e, hf]
  by_cases h : x.kind = 7 ∧ v / 16 ≠ 0
  · rw [if_pos h]; split <;> omega
  · rw [if_neg h, filt_first h, match_snoc]
    cases matchB (fl x 0) r with
    | true => cases matchT r c <;> simp <;> omega
    | false => simp
theorem total_set {x : Qy} (hx : ValidQ x) (c : Cd) (v : Nat) : ∀ {l : List Rd}, (∀ r ∈ l, ValidR r) → 0 ≤ totalF (setQ x (fl x 0 ++ [c])) l v ∧ totalF (setQ x (fl x 0 ++ [c])) l v ≤ totalF x l v
  | [], _ => by simp [totalF]
  | r :: l, h => by
    have h1 := term_set hx c (h r (by simp)) v
    have h2 := total_set hx c v (l := l) fun y hy => h y (by simp [hy])
    rw [total_cons, total_cons]
    omega
def wholeC (col : Int) : Cd := ⟨col, 0, maxC col⟩
theorem whole_match {col : Int} {r : Rd} (hr : ValidR r) : matchT r (wholeC col) = true := by
  unfold matchT wholeC
  exact decide_eq_true (fldI_bd hr col)
theorem total_whole {x : Qy} (hx : ValidQ x) (col : Int) (v : Nat) : ∀ {l : List Rd}, (∀ r ∈ l, ValidR r) → totalF (setQ x (fl x 0 ++ [wholeC col])) l v = totalF x l v
  | [], _ => by simp [totalF]
  | r :: l, h => by
    have h2 := total_whole hx col v (l := l) fun y hy => h y (by simp [hy])
    have h0 : 0 < x.fs.length := by rw [hx.head.2.2.2.2.2.2]; unfold nFilF; split <;> omega
    have hf := setQ_filt h0 (fl x 0 ++ [wholeC col]) v
    have h1 : termF (setQ x (fl x 0 ++ [wholeC col])) v r = termF x v r := by
      have e : unitF (setQ x (fl x 0 ++ [wholeC col])) v r = unitF x v r := rfl
      unfold termF
      rw [e, hf]
      by_cases hh : x.kind = 7 ∧ v / 16 ≠ 0
      · rw [if_pos hh]
      · rw [if_neg hh, filt_first hh, match_snoc, whole_match (h r (by simp)), Bool.and_true]
    rw [total_cons, total_cons, h1, h2]

/-! Sums over ranges. -/
def sumTo (n : Nat) (f : Nat → Int) : Int := ((List.range n).map f).sum
theorem sumTo_succ (n : Nat) (f : Nat → Int) : sumTo (n + 1) f = sumTo n f + f n := by
  unfold sumTo
  rw [List.range_succ, List.map_append, List.map_singleton, sum_snoc]
theorem sumTo_add (n : Nat) (f g : Nat → Int) : sumTo n (fun v => f v + g v) = sumTo n f + sumTo n g := by
  induction n with
  | zero => rfl
  | succ n ih => rw [sumTo_succ, sumTo_succ, sumTo_succ, ih]; omega
theorem sumTo_zero (n : Nat) : sumTo n (fun _ => 0) = 0 := by
  induction n with
  | zero => rfl
  | succ n ih => rw [sumTo_succ, ih]; rfl
theorem sumTo_congr {n : Nat} {f g : Nat → Int} (h : ∀ v, v < n → f v = g v) : sumTo n f = sumTo n g := by
  unfold sumTo
  rw [List.map_congr_left fun v hv => h v (List.mem_range.1 hv)]
/-- One number alone. -/
theorem sumTo_one {n k : Nat} (hk : k < n) (x : Int) : sumTo n (fun v => if k = v then x else 0) = x := by
  induction n with
  | zero => omega
  | succ n ih =>
    rw [sumTo_succ]
    by_cases h : k = n
    · rw [if_pos h, sumTo_congr (g := fun _ => 0) (fun v hv => if_neg (by omega)), sumTo_zero]; omega
    · rw [if_neg h, ih (by omega)]; omega
/-! Moments. -/
theorem moment_one {c k : Int} {f : List Cd} (l : List Rd) : totalF ⟨3, c, 1, [f]⟩ l 0 = totalF ⟨2, c, k, [f]⟩ l 0 := by
  have h : ∀ r, termF ⟨3, c, 1, [f]⟩ 0 r = termF ⟨2, c, k, [f]⟩ 0 r := fun r => by
    show (if matchB f r then fldI r c ^ 1 else 0) = if matchB f r then fldI r c else 0
    rw [Int.pow_succ, Int.pow_zero, Int.one_mul]
  unfold totalF
  rw [List.map_congr_left fun r _ => h r]
theorem grp_term {n k : Int} {f : List Cd} {v : Nat} (r : Rd) : termF ⟨4, n, k, [f]⟩ v r = if matchB f r then (if fldI r n = ((v % 16 : Nat) : Int) then 1 else 0) else 0 := rfl
theorem grp_one {n k : Int} {f : List Cd} {v : Nat} (hv : v < 16) {r : Rd} (h0 : 0 ≤ fldI r n) : termF ⟨4, n, k, [f]⟩ v r = if matchB f r then (if (fldI r n).toNat = v then 1 else 0) else 0 := by
  rw [grp_term, Nat.mod_eq_of_lt hv]
  by_cases h : (fldI r n).toNat = v
  · rw [if_pos h, if_pos (show fldI r n = (v : Int) by omega)]
  · rw [if_neg h, if_neg (show ¬ fldI r n = (v : Int) by omega)]
theorem moment_two {n : Int} (hn : n = 0 ∨ n = 2) {k : Int} {f : List Cd} : ∀ {l : List Rd}, (∀ r ∈ l, ValidR r) → sumTo 16 (fun v => (v : Int) * v * totalF ⟨4, n, k, [f]⟩ l v) = totalF ⟨3, n, 2, [f]⟩ l 0
  | [], _ => by rw [totalF_nil, sumTo_congr (g := fun _ => 0) (fun v _ => by rw [totalF_nil, Int.mul_zero]), sumTo_zero]
  | r :: l, h => by
    have ih := moment_two hn (k := k) (f := f) (l := l) fun y hy => h y (by simp [hy])
    have hf := fldI_bd (h r (by simp)) n
    have hm : maxC n = 15 := by unfold maxC; rw [if_pos hn]
    have hone : sumTo 16 (fun v => (v : Int) * v * termF ⟨4, n, k, [f]⟩ v r) = termF ⟨3, n, 2, [f]⟩ 0 r := by
      show _ = if matchB f r then fldI r n ^ 2 else 0
      rw [sumTo_congr (g := fun v => if (fldI r n).toNat = v then (if matchB f r then fldI r n ^ 2 else 0) else 0), sumTo_one (by omega)]
      intro v hv
      rw [grp_one hv hf.1]
      by_cases he : (fldI r n).toNat = v
      · rw [if_pos he, if_pos he]
        have : (v : Int) = fldI r n := by omega
        rw [this, Int.pow_succ, Int.pow_succ, Int.pow_zero, Int.one_mul]
        split <;> simp
      · rw [if_neg he, if_neg he]; split <;> simp
    rw [total_cons, ← ih, ← hone, ← sumTo_add]
    exact sumTo_congr fun v _ => by rw [total_cons, Int.mul_add]
theorem moment_cnt {n : Int} (hn : n = 0 ∨ n = 2) {k c k' : Int} {f : List Cd} : ∀ {l : List Rd}, (∀ r ∈ l, ValidR r) → sumTo 16 (fun v => totalF ⟨4, n, k, [f]⟩ l v) = totalF ⟨1, c, k', [f]⟩ l 0
  | [], _ => by rw [totalF_nil, sumTo_congr (g := fun _ => 0) (fun v _ => by rw [totalF_nil]), sumTo_zero]
  | r :: l, h => by
    have ih := moment_cnt hn (k := k) (c := c) (k' := k') (f := f) (l := l) fun y hy => h y (by simp [hy])
    have hf := fldI_bd (h r (by simp)) n
    have hm : maxC n = 15 := by unfold maxC; rw [if_pos hn]
    have hone : sumTo 16 (fun v => termF ⟨4, n, k, [f]⟩ v r) = termF ⟨1, c, k', [f]⟩ 0 r := by
      show _ = if matchB f r then 1 else 0
      rw [sumTo_congr (g := fun v => if (fldI r n).toNat = v then (if matchB f r then 1 else 0) else 0), sumTo_one (by omega)]
      intro v hv
      rw [grp_one hv hf.1]
      by_cases he : (fldI r n).toNat = v
      · rw [if_pos he, if_pos he]
      · rw [if_neg he, if_neg he]; split <;> rfl
    rw [total_cons, ← ih, ← hone, ← sumTo_add]
    exact sumTo_congr fun v _ => by rw [total_cons]

/-! Pairs. -/
def pairB (a b : List Cd) (x y : Rd) : Bool := decide (x.who = y.who) && (matchB a x && matchB b y)
def rowN (a b : List Cd) (x : Rd) (l : List Rd) : Int := (l.map fun y => if pairB a b x y then 1 else 0).sum
def pairN (a b : List Cd) (m l : List Rd) : Int := (m.map fun x => rowN a b x l).sum
theorem pr_term {k c : Int} {a b : List Cd} {v : Nat} (r : Rd) : termF ⟨7, c, k, [a, b]⟩ v r = if matchB ([a, b].getD (v / 16) []) r then (if r.who = ((v % 16 : Nat) : Int) then 1 else 0) else 0 := rfl
theorem pr_lo {k c : Int} {a b : List Cd} {v : Nat} (hv : v < 16) {r : Rd} (h0 : 0 ≤ r.who) : termF ⟨7, c, k, [a, b]⟩ v r = if matchB a r then (if r.who.toNat = v then 1 else 0) else 0 := by
  rw [pr_term, Nat.mod_eq_of_lt hv, show v / 16 = 0 from by omega]
  show (if matchB a r then _ else _) = _
  by_cases h : r.who.toNat = v
  · rw [if_pos h, if_pos (show r.who = (v : Int) by omega)]
  · rw [if_neg h, if_neg (show ¬ r.who = (v : Int) by omega)]
theorem pr_hi {k c : Int} {a b : List Cd} {v : Nat} (hv : v < 16) {r : Rd} (h0 : 0 ≤ r.who) : termF ⟨7, c, k, [a, b]⟩ (16 + v) r = if matchB b r then (if r.who.toNat = v then 1 else 0) else 0 := by
  rw [pr_term, show (16 + v) % 16 = v from by omega, show (16 + v) / 16 = 1 from by omega]
  show (if matchB b r then _ else _) = _
  by_cases h : r.who.toNat = v
  · rw [if_pos h, if_pos (show r.who = (v : Int) by omega)]
  · rw [if_neg h, if_neg (show ¬ r.who = (v : Int) by omega)]
theorem row_hi {k c : Int} {a b : List Cd} {x : Rd} (hx : ValidR x) : ∀ {l : List Rd}, (∀ r ∈ l, ValidR r) → (if matchB a x then totalF ⟨7, c, k, [a, b]⟩ l (16 + x.who.toNat) else 0) = rowN a b x l
  | [], _ => by simp [rowN, totalF]
  | y :: l, h => by
    have ih := row_hi (k := k) (c := c) (a := a) (b := b) hx (l := l) fun z hz => h z (by simp [hz])
    have hw : 0 ≤ x.who ∧ x.who < 16 := hx.1
    have hy : 0 ≤ y.who ∧ y.who < 16 := (h y (by simp)).1
    have e : rowN a b x (y :: l) = (if pairB a b x y then 1 else 0) + rowN a b x l := by simp [rowN]
    rw [e, ← ih, total_cons, pr_hi (by omega) hy.1]
    unfold pairB
    cases matchB a x with
    | true =>
      simp only [if_true, Bool.true_and]
      cases matchB b y with
      | true =>
        by_cases he : x.who = y.who
        · rw [if_pos (show y.who.toNat = x.who.toNat by omega)]; simp [he]
        · rw [if_neg (show ¬ y.who.toNat = x.who.toNat by omega)]; simp [he]
      | false => simp
    | false => simp
theorem pairs_all {k c : Int} {a b : List Cd} {l : List Rd} (hl : ∀ r ∈ l, ValidR r) : ∀ {m : List Rd}, (∀ r ∈ m, ValidR r) →
    sumTo 16 (fun w => totalF ⟨7, c, k, [a, b]⟩ m w * totalF ⟨7, c, k, [a, b]⟩ l (16 + w)) = pairN a b m l
  | [], _ => by rw [sumTo_congr (g := fun _ => 0) (fun v _ => by rw [totalF_nil, Int.zero_mul]), sumTo_zero]; simp [pairN]
  | x :: m, h => by
    have ih := pairs_all (k := k) (c := c) (a := a) (b := b) hl (m := m) fun z hz => h z (by simp [hz])
    have hx := h x (by simp)
    have hw : 0 ≤ x.who ∧ x.who < 16 := hx.1
    have e : pairN a b (x :: m) l = rowN a b x l + pairN a b m l := by simp [pairN]
    have hone : sumTo 16 (fun w => termF ⟨7, c, k, [a, b]⟩ w x * totalF ⟨7, c, k, [a, b]⟩ l (16 + w)) = rowN a b x l := by
      rw [← row_hi (k := k) (c := c) hx hl, sumTo_congr (g := fun v => if x.who.toNat = v then (if matchB a x then totalF ⟨7, c, k, [a, b]⟩ l (16 + x.who.toNat) else 0) else 0), sumTo_one (by omega)]
      intro v hv
      rw [pr_lo hv hw.1]
      by_cases he : x.who.toNat = v
      · rw [if_pos he, if_pos he, he]; split <;> simp
      · rw [if_neg he, if_neg he]; split <;> simp
    rw [e, ← ih, ← hone, ← sumTo_add]
    exact sumTo_congr fun v _ => by rw [total_cons, Int.add_mul]
theorem pairK_sums {k c : Int} {a b : List Cd} (l : List Rd) : pairK (sumsF ⟨7, c, k, [a, b]⟩ l) 16 = sumTo 16 (fun w => totalF ⟨7, c, k, [a, b]⟩ l w * totalF ⟨7, c, k, [a, b]⟩ l (16 + w)) := by
  show sumTo 16 _ = _
  refine sumTo_congr fun v hv => ?_
  have hn : nSums ⟨7, c, k, [a, b]⟩ = 32 := rfl
  rw [List.getD_eq_getElem?_getD, List.getD_eq_getElem?_getD, sumsF_get (by omega), sumsF_get (by omega)]
  rfl

/-! Order. -/
end Go.Proofs.YtmkpaolbejlodaaDoor
namespace Go.Proofs.YtmkpaolbejlodaaDoor
open Go.RowKit

theorem Sl.belowE {α : Type} {E : Enc α} {S : Nat → Prop} {w w' : World} {A : Option Addr} {c N : Nat} {xs : List α} (h : Sl E S w A c xs) (hb : Below N w w') (hS : ∀ b, S b → b < N) : Sl E S w' A c xs :=
  h.keep ((Agree.refl S w).below hb (fun b hb _ => hS b hb))
theorem mvI {α : Type} {E : Enc α} {S : Nat → Prop} {w w' : World} {A : Option Addr} {c : Nat} {l : List α} (h : Hid (Sl E S w A c l)) (hb : Below w.heap.size w w') : Hid (Sl E S w' A c l) := Lib.hid (h.out.keep (Below.agree hb))
/-- Two rows of the call's own, apart from each other. -/
structure JJ (w1 : World) (b1 b2 : Nat) (v1 v2 : Value) (xs : List Rd) (ys : List Bool) (wx : World) : Prop where
  o1 : Own rdE (fun _ => False) wx b1 47 v1 xs
  o2 : Own .bool (fun _ => False) wx b2 4 v2 ys
  l1 : w1.heap.size ≤ b1
  l2 : w1.heap.size ≤ b2
  ne : ∀ k, v1.ownBlock = some k → v2.ownBlock ≠ some k
  bel : Below w1.heap.size w1 wx
  b1 : b1 ≤ wx.heap.size
  b2 : b2 ≤ wx.heap.size
theorem JJ.drew {w1 wx : World} {b1 b2 : Nat} {v1 v2 : Value} {xs : List Rd} {ys : List Bool} (h : JJ w1 b1 b2 v1 v2 xs ys wx) : JJ w1 b1 b2 v1 v2 xs ys wx.drew :=
  ⟨h.o1.drew, h.o2.drew, h.l1, h.l2, h.ne, h.bel.drew, h.b1, h.b2⟩
end Go.Proofs.YtmkpaolbejlodaaDoor
namespace Go.Proofs.YtmkpaolbejlodaaDoor
open Go.RowKit

set_option maxRecDepth 100000 in
set_option maxHeartbeats 4000000 in
theorem condsP {l : List Cd} {A : Option Addr} {c : Nat} {S : Nat → Prop} (w : World) (h : Sl cdE S w A c l) :
    Calls Tryd.prog 22 #[.slice A l.length c] w fun e w' => ∃ l', ValidFlt l' ∧ ∃ A' c', e = .returned (.slice A' l'.length c') ∧ Sl cdE (fun b => w.heap.size ≤ b) w' A' c' l' ∧ Below w.heap.size w w' := by
  have H := Lib.hid (h.sub (T := fun b => b < w.heap.size) fun _ _ h => h)
  have hm := h.max
  clear h
  go_enter Tryd.func22, Tryd.ntmps22
  go_wp2_with fail
  go_loopw [3, 4] (fun v i wr => ∃ (k : Nat) (A : Option Addr) (c : Nat) (ys : List Cd), k ≤ 3 ∧ k ≤ l.length ∧ i = .int .i64 k ∧ ys.length = k ∧ (∀ u ∈ ys, ValidCd u) ∧ v = .slice A k c ∧ Own cdE (fun _ => False) wr w.heap.size 58 (.slice A k c) ys ∧ Below w.heap.size w wr) (fun _ i _ => l.length - (intOf i).toNat)
  case atStart => exact ⟨0, some ⟨w.heap.size, 0, none⟩, 0, [], by omega, by omega, rfl, rfl, by simp, rfl, Own.litAt _ _ _ _ rfl (Nat.le_refl _), (Below.refl _ _).alloc (Nat.le_refl _) _⟩
  case round =>
    obtain ⟨k, B, d, ys, hk3, hkl, rfl, hyl, hyv, rfl, ho, hb⟩ := hrel
    have hk0 : (0 : Int) ≤ (k : Int) := by omega
    have HO := Lib.hid ho
    have HB := Lib.hid hb
    have HY := Lib.hid hyv
    have lo := ho.lt
    have lz := hb.size
    clear ho hb hyv
    by_cases c2 : k < l.length
    · have g2 : (k : Int) < (l.length : Int) := by omega
      by_cases c3 : k < 3
      · have g3 : (k : Int) < 3 := by omega
        obtain ⟨x, hx⟩ : ∃ x, l[k]? = some x := ⟨_, List.getElem?_eq_getElem c2⟩
        obtain ⟨b2, o2', rfl, -, l2, y0, y1, y2⟩ := cd_at (H.out.belowE HB.out (fun b h => h)) hx
        clear hx
        have lb2 := l2
        go_wp2_with (first
          | (go_at_call 26; refine (madeCdP x _).mono ?_; rintro e w4 ⟨x', hx', rfl, hb4⟩; have HX := Lib.hid hx'; have HB4 := Lib.hid hb4; have HO4 := Lib.hid (HO.out.call hb4); have lo4 := HO4.out.lt; have lz4 := hb4.size; clear hx' hb4)
          | (at_builtin; go_must ((refine wpList_append_E (S := fun b => b = w4.heap.size) rfl (.tmp 16) (.tmp 22) rfl cdsT (base := w.heap.size) (v := .slice B k d) (xs := ys) (ys := [x']) (by rfl) (by rfl) rfl (nz := k + 1) (by simp [hyl]) ((HO4.out.flat cdE_flat).alloc _) (Sl.litAt (S := fun b => b = w4.heap.size) rfl (.single cdE_shut) (by unfold maxLen; simp) (fun _ h _ => h) rfl) (by unfold maxLen; simp [hyl]; omega) (by simp [hyl]; omega) (by simp; omega) (fun g hg (hs : g = w4.heap.size) => absurd (lo4 g hg).2 (by omega)) ?_; intro A6 c6 w6 hown6 hg6 hor6))))
        go_roundw
        case rel => exact ⟨k + 1, A6, c6, ys ++ [x'], by omega, by omega, by go_num, by simp [hyl], fun u hu => (List.mem_append.1 hu).elim (HY.out u) (fun h => by simp at h; subst h; exact HX.out), rfl, hown6.flat cdE_flat, ((HB.out.trans (HB4.out.mono HB.out.size)).alloc (by omega) _).grown hg6 (by simp; omega) (fun g hg => (lo4 g hg).1)⟩
        case measure => simp [intOf]; omega
      · have g3 : ¬ (k : Int) < 3 := by omega
        (go_wp2_with fail; exact bodyPost_ret (v := .slice B k d) (by simp [results, Tryd.results22, go_sem, *]) rfl ⟨ys, ⟨by omega, HY.out⟩, B, d, by rw [hyl], HO.out.flatSl cdE_flat (fun _ h => h), HB.out⟩)
    · have g2 : ¬ (k : Int) < (l.length : Int) := by omega
      (go_wp2_with fail; exact bodyPost_ret (v := .slice B k d) (by simp [results, Tryd.results22, go_sem, *]) rfl ⟨ys, ⟨by omega, HY.out⟩, B, d, by rw [hyl], HO.out.flatSl cdE_flat (fun _ h => h), HB.out⟩)
theorem q1_valid {kd col k : Int} {f : List Cd} (hf : ValidFlt f) (hc : 0 ≤ col ∧ col ≤ 3) (h : (kd = 1 ∧ col = 0 ∧ k = 0) ∨ (kd = 2 ∧ k = 0) ∨ (kd = 3 ∧ 1 ≤ k ∧ k ≤ 6) ∨ (kd = 4 ∧ k = 0) ∨ (kd = 5 ∧ k = 0) ∨ (kd = 6 ∧ 1 ≤ k ∧ k ≤ 65536)) : ValidQ ⟨kd, col, k, [f]⟩ := by
  refine ⟨⟨⟨?_, ?_⟩, hc, ?_, ?_, ?_, ?_, ?_⟩, fun g hg => by rw [List.mem_singleton.1 hg]; exact hf⟩
  all_goals dsimp only
  · omega
  · omega
  · omega
  · omega
  · rcases h with ⟨rfl, -, rfl⟩ | ⟨rfl, rfl⟩ | ⟨rfl, h1, h2⟩ | ⟨rfl, rfl⟩ | ⟨rfl, rfl⟩ | ⟨rfl, h1, h2⟩
    all_goals (unfold maxKF; simp <;> omega)
  · omega
  · rcases h with ⟨rfl, -, rfl⟩ | ⟨rfl, rfl⟩ | ⟨rfl, h1, h2⟩ | ⟨rfl, rfl⟩ | ⟨rfl, rfl⟩ | ⟨rfl, h1, h2⟩ <;> rfl
theorem q1_narrow {kd col k : Int} {f : List Cd} (h : kd ≤ 3 ∨ col = 0 ∨ col = 2) : wideB ⟨kd, col, k, [f]⟩ = false := by
  unfold wideB
  refine decide_eq_false fun ⟨h1, h2, h3⟩ => ?_
  dsimp only at h1 h2 h3
  rcases h with h | h | h
  · omega
  · subst h; exact absurd h3 (by decide)
  · subst h; exact absurd h3 (by decide)
theorem q7_valid {f g : List Cd} (hf : ValidFlt f) (hg : ValidFlt g) : ValidQ ⟨7, 0, 0, [f, g]⟩ := by
  refine ⟨⟨⟨by dsimp only; decide, by dsimp only; decide⟩, ⟨by dsimp only; decide, by dsimp only; decide⟩, .inl rfl, by dsimp only; decide, by dsimp only; decide, by dsimp only; decide, rfl⟩, fun x hx => ?_⟩
  simp only [List.mem_cons, List.not_mem_nil, or_false] at hx
  rcases hx with h | h <;> rw [h]
  · exact hf
  · exact hg
theorem q7_narrow {f g : List Cd} : wideB ⟨7, 0, 0, [f, g]⟩ = false := by
  unfold wideB
  exact decide_eq_false fun ⟨h1, h2, h3⟩ => by dsimp only at h2; omega
theorem matchN {l : List Cd} {r : Rd} {b : Bool} {n : Nat} {A : Option Addr} {c : Nat} {S : Nat → Prop} (hb : matchB l r = b) (hn : l.length = n) (w : World) (h : Sl cdE S w A c l) (hv : ∀ x ∈ l, ValidCd x) :
    Calls Tryd.prog 23 #[.slice A n c, (.agg #[.int .i64 r.who, .int .i64 r.whn, .int .i64 r.knd, .int .i64 r.val])] w fun e w' => e = .returned (.bool b) ∧ Below w.heap.size w w' := by
  subst hb; subst hn
  exact matchRef w h hv
theorem liveN {s : Str} {A B : Option Addr} {c d n nl ng : Nat} {S T : Nat → Prop} {l : List Rd} (hp : liveF s = l) (hn : l.length = n) (hnl : s.l.length = nl) (hng : s.g.length = ng) (w : World) (h : Sl rdE S w A c s.l) (k : Sl .bool T w B d s.g) (hg : s.g.length = s.l.length) (hm : s.l.length ≤ 1000) :
    Calls Tryd.prog 25 #[.agg #[.slice A nl c, .slice B ng d]] w fun e w' => ∃ A' c', e = .returned (.slice A' n c') ∧ Sl rdE (fun _ => True) w' A' c' l ∧ Below w.heap.size w w' := by
  subst hp; subst hn; subst hnl; subst hng
  exact (liveR w (h.sub (T := fun _ => True) (fun _ _ _ => trivial)) (k.sub (T := fun _ => True) (fun _ _ _ => trivial)) hg hm).mono fun e w' ⟨A', c', h1, h2, h3⟩ => ⟨A', c', h1, h2.sub fun _ _ _ => trivial, h3⟩
theorem condsN {l : List Cd} {n : Nat} {A : Option Addr} {c : Nat} {S : Nat → Prop} (hn : l.length = n) (w : World) (h : Sl cdE S w A c l) :
    Calls Tryd.prog 22 #[.slice A n c] w fun e w' => ∃ l', ValidFlt l' ∧ ∃ A' c', e = .returned (.slice A' l'.length c') ∧ Sl cdE (fun _ => True) w' A' c' l' ∧ Below w.heap.size w w' := by
  subst hn
  exact (condsP w h).mono fun e w' ⟨l', h1, A', c', h2, h3, h4⟩ => ⟨l', h1, A', c', h2, h3.sub fun _ _ _ => trivial, h4⟩
end Go.Proofs.YtmkpaolbejlodaaDoor
