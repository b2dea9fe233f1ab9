/-
  Texts of this claim, merged: Rd11, Rd16, EvL, EvJ, EvC, EvO. Conditions: as each theorem says.
-/
import Derived.Deep.DeepCutAuto
import Derived.Lib.Mul64
import Derived.Laws.Bits64b
import Derived.Shelf.Bits.Mul64
import Derived.Test.YtmkpaolbejlodaaDoorD1
import Derived.Test.YtmkpaolbejlodaaDoorD2
import Derived.Test.YtmkpaolbejlodaaDoorD7
import Derived.Test.YtmkpaolbejlodaaDoorD3
import Derived.Test.YtmkpaolbejlodaaDoorD4
import Derived.Test.YtmkpaolbejlodaaDoorD5
import Derived.Test.YtmkpaolbejlodaaDoorD6
import Derived.Test.YtmkpaolbejlodaaDoorD8
import Derived.Test.YtmkpaolbejlodaaDoorD9
import Derived.Test.YtmkpaolbejlodaaDoorD10
set_option linter.unusedSimpArgs false
set_option linter.unusedVariables false
namespace Go.Proofs.YtmkpaolbejlodaaDoor
open Go.RowKit

section
variable {F : Nat → Prop} {w0 wr w2 w6 : World} {B : Nat} {xs : List (List Int)} {v v' : Value} {x : List Int} {A : Option Addr} {c : Nat}
end

/-- Columns and the number of an error. -/
def ColRes (w : World) (p : List (List Int) × Int) (e : Ending) (w' : World) : Prop :=
  ∃ A c, e = .returned (.tuple #[.slice A p.1.length c, .int .i64 p.2]) ∧ Sl Enc.u64.slice (fun b => w.heap.size ≤ b) w' A c p.1 ∧ Below w.heap.size w w'
theorem ColRes.none {w w' : World} {k : Int} {e : Ending} (he : e = .returned (.tuple #[.slice none 0 0, .int .i64 k])) (hb : Below w.heap.size w w') : ColRes w ([], k) e w' :=
  ⟨_, 0, he, Sl.nil_ _ _ _ _ (Nat.zero_le _), hb⟩

end Go.Proofs.YtmkpaolbejlodaaDoor
namespace Go.Proofs.YtmkpaolbejlodaaDoor
open Go.RowKit

def ropE : Enc ROp := (Enc.u8.pair (Enc.u8.pair (Enc.u8.pair Enc.bool))).via fun o => (o.b0, o.b1, o.b2, o.back)
theorem ropE_open {S : Nat → Prop} {w : World} {cs : List Value} {o : ROp} (h : ropE.rep S w cs o) : cs = [.int .u8 (o.b0.toNat : Int), .int .u8 (o.b1.toNat : Int), .int .u8 (o.b2.toNat : Int), .bool o.back] := by
  obtain ⟨c1, d1, rfl, h1, c2, d2, rfl, h2, c3, d3, rfl, h3, h4⟩ := h
  cases h1; cases h2; cases h3; cases h4
  rfl
theorem rop_at {S : Nat → Prop} {w : World} {A : Option Addr} {c i : Nat} {l : List ROp} {o : ROp} (h : Sl ropE S w A c l) (hi : l[i]? = some o) :
    ∃ b f, A = some ⟨b, f, none⟩ ∧ S b ∧ b < w.heap.size ∧ w.cell? ⟨b, f + i * 4, none⟩ = some (.int .u8 (o.b0.toNat : Int)) ∧ w.cell? ⟨b, f + i * 4 + 1, none⟩ = some (.int .u8 (o.b1.toNat : Int)) ∧
      w.cell? ⟨b, f + i * 4 + 2, none⟩ = some (.int .u8 (o.b2.toNat : Int)) ∧ w.cell? ⟨b, f + i * 4 + 3, none⟩ = some (.bool o.back) := by
  obtain ⟨b, f, cs, hA, hS, hb, hr, hc⟩ := h.at' hi (by decide)
  obtain rfl := ropE_open hr
  exact ⟨b, f, hA, hS, hb, hc 0 _ rfl, hc 1 _ rfl, hc 2 _ rfl, hc 3 _ rfl⟩

/-- Block g holds the stream s; its slices lie in blocks of G. -/
def StAt (G : Nat → Prop) (w : World) (g : Nat) (s : Str) : Prop :=
  ∃ A c B d, w.heap[g]? = some (.cells #[.slice A s.l.length c, .slice B s.g.length d] 31 (0, 0)) ∧ Sl rdE G w A c s.l ∧ Sl .bool G w B d s.g
section
variable {G : Nat → Prop} {w w' : World} {g : Nat} {s : Str}
theorem StAt.below (h : StAt G w g s) (hb : Below w.heap.size w w') : StAt G w' g s := by
  obtain ⟨A, c, B, d, hg, h1, h2⟩ := h
  exact ⟨A, c, B, d, (hb.block g (heap_lt hg)).trans hg, h1.keep (Below.agree hb), h2.keep (Below.agree hb)⟩
theorem StAt.lt (h : StAt G w g s) : g < w.heap.size := by obtain ⟨A, c, B, d, hg, _⟩ := h; exact heap_lt hg
theorem StAt.open_ (h : StAt G w g s) : ∃ A c B d, w.cell? ⟨g, 0, none⟩ = some (.slice A s.l.length c) ∧ w.cell? ⟨g, 1, none⟩ = some (.slice B s.g.length d) ∧ w.frozen? ⟨g, 0, none⟩ = false ∧ w.frozen? ⟨g, 1, none⟩ = false ∧ g < w.heap.size ∧ Sl rdE G w A c s.l ∧ Sl .bool G w B d s.g := by
  obtain ⟨A, c, B, d, hg, h1, h2⟩ := h
  exact ⟨A, c, B, d, cell_of_row _ _ 0 _ _ _ hg, cell_of_row _ _ 1 _ _ _ hg, by simp [World.frozen?, hg], by simp [World.frozen?, hg], heap_lt hg, h1, h2⟩
/-- Stored into an existing box of streams. -/
theorem StAt.put {S : Nat → Prop} {A B : Option Addr} {c d : Nat} (hg : ∃ u v, w.heap[g]? = some (.cells #[u, v] 31 (0, 0))) (h1 : Sl rdE S w A c s.l) (h2 : Sl .bool S w B d s.g) (hS : ∀ b, S b → b < w.heap.size → G b ∧ b ≠ g) :
    StAt G ((w.setCell ⟨g, 0, none⟩ (.slice A s.l.length c)).setCell ⟨g, 1, none⟩ (.slice B s.g.length d)) g s := by
  obtain ⟨u, v, hg⟩ := hg
  have k1 := h1.sub (T := fun b => G b ∧ b ≠ g) hS
  have k2 := h2.sub (T := fun b => G b ∧ b ≠ g) hS
  exact ⟨A, c, B, d, heap_set (i := 1) (heap_set (i := 0) hg), (((k1.keep ((Agree.refl _ _).set (fun h => h.2 rfl) _)).keep ((Agree.refl _ _).set (fun h => h.2 rfl) _)).sub fun b hb _ => hb.1), (((k2.keep ((Agree.refl _ _).set (fun h => h.2 rfl) _)).keep ((Agree.refl _ _).set (fun h => h.2 rfl) _)).sub fun b hb _ => hb.1)⟩
theorem StAt.made {S : Nat → Prop} {A B : Option Addr} {c d : Nat} (h1 : Sl rdE S w A c s.l) (h2 : Sl .bool S w B d s.g) (hS : ∀ b, S b → b < w.heap.size → G b) (hg : g = w.heap.size) :
    StAt G (w.alloc (.cells #[.slice A s.l.length c, .slice B s.g.length d] 31)) g s :=
  ⟨A, c, B, d, heap_alloc_at hg, (h1.sub hS).keep ((Agree.refl _ _).alloc _), (h2.sub hS).keep ((Agree.refl _ _).alloc _)⟩
theorem StAt.box (h : StAt G w g s) : ∃ u v, w.heap[g]? = some (.cells #[u, v] 31 (0, 0)) := by obtain ⟨A, c, B, d, hg, _⟩ := h; exact ⟨_, _, hg⟩
end

theorem takeR_any {s : Str} {A B : Option Addr} {c d : Nat} {S : Nat → Prop} (r : Rd) (w : World) (h : Sl rdE S w A c s.l) (k : Sl .bool S w B d s.g) (ok : OkStr s) (hl : s.l.length ≤ 1000) :
    Calls Tryd.prog 32 #[.agg #[.slice A s.l.length c, .slice B s.g.length d], .agg #[.int .i64 r.who, .int .i64 r.whn, .int .i64 r.knd, .int .i64 r.val]] w (StRes S w (takeF s r)) := by
  cases hv : validB r with
  | true => exact takeR_ok r w hv h k hl (by rw [ok.len]; exact hl)
  | false => exact takeR_bad r w hv
theorem retractR_nat {s : Str} {A B : Option Addr} {c d i : Nat} {S : Nat → Prop} (w : World) (h : Sl rdE S w A c s.l) (k : Sl .bool S w B d s.g) (ok : OkStr s) (hl : s.l.length ≤ 1000) (hi : i < s.l.length) :
    Calls Tryd.prog 21 #[.agg #[.slice A s.l.length c, .slice B s.g.length d], .int .i64 i] w (StRes S w (retractF s i)) := by
  obtain ⟨b, hb⟩ : ∃ b, s.g[i]? = some b := ⟨_, List.getElem?_eq_getElem (by rw [ok.len]; exact hi)⟩
  cases b with
  | true => exact retractR_gone w k hi ok.len hb
  | false => exact retractR_ok w h k hi ok.len hl hb
theorem retractR_mod {s : Str} {A B : Option Addr} {c d : Nat} {b : UInt8} {S : Nat → Prop} {p : Str × Int} (w : World) (h : Sl rdE S w A c s.l) (k : Sl .bool S w B d s.g) (ok : OkStr s) (hl : s.l.length ≤ 1000) (hi : b.toNat % s.l.length < s.l.length) (hp : retractF s ((b.toNat % s.l.length : Nat) : Int) = p) :
    Calls Tryd.prog 21 #[.agg #[.slice A s.l.length c, .slice B s.g.length d], .int .i64 ((b.toNat : Int).tmod (s.l.length : Int))] w (StRes S w p) := by
  rw [show ((b.toNat : Int).tmod (s.l.length : Int)) = ((b.toNat % s.l.length : Nat) : Int) from rfl, ← hp]
  exact retractR_nat w h k ok hl hi
theorem takeR_eq {s : Str} {A B : Option Addr} {c d : Nat} {S : Nat → Prop} {p : Str × Int} (r : Rd) (w : World) (h : Sl rdE S w A c s.l) (k : Sl .bool S w B d s.g) (ok : OkStr s) (hl : s.l.length ≤ 1000) (hp : takeF s r = p) :
    Calls Tryd.prog 32 #[.agg #[.slice A s.l.length c, .slice B s.g.length d], .agg #[.int .i64 r.who, .int .i64 r.whn, .int .i64 r.knd, .int .i64 r.val]] w (StRes S w p) := by
  rw [← hp]; exact takeR_any r w h k ok hl

set_option maxRecDepth 100000 in
set_option maxHeartbeats 4000000 in
theorem madeR {most : Nat} {l : List ROp} {A : Option Addr} {c : Nat} {S : Nat → Prop} (w : World) (h : Sl ropE S w A c l) (hmost : most ≤ 1000) :
    Calls Tryd.prog 12 #[.slice A l.length c, .int .i64 most] w fun e w' => ∃ A' c' B' d', e = .returned (.agg #[.slice A' (madeF most l).l.length c', .slice B' (madeF most l).g.length d']) ∧ Sl rdE (fun b => w.heap.size ≤ b) w' A' c' (madeF most l).l ∧ Sl .bool (fun b => w.heap.size ≤ b) w' B' d' (madeF most l).g ∧ Below w.heap.size w w' := by
  have hm := h.max
  have H := Lib.hid h.old
  clear h
  go_enter Tryd.func12, Tryd.ntmps12
  go_wp2_with fail
  go_loopw [6] (fun i wr => ∃ j : Nat, j ≤ l.length ∧ i = .int .i64 j ∧ StAt (fun b => w.heap.size + 1 < b) wr (w.heap.size + 1) (madeF most (l.take j)) ∧ Below (w.heap.size + 1) (w.alloc (.cells #[.slice none 0 0, .slice none 0 0] 31)) wr) (fun i _ => l.length - (intOf i).toNat)
  case atStart =>
    refine ⟨0, Nat.zero_le _, rfl, StAt.made (s := emptyStr) (S := fun _ => False) (Sl.nil_ _ _ _ _ (Nat.zero_le _)) (Sl.nil_ _ _ _ _ (Nat.zero_le _)) (fun _ h _ => h.elim) (by simp), (Below.refl _ _).alloc (by simp) _⟩
  case round =>
    obtain ⟨j, hj, rfl, hst, hb⟩ := hrel
    obtain ⟨ok, hln⟩ := madeF_ok most (l.take j)
    have b1 : Below w.heap.size w wr := ((Below.refl _ _).alloc (Nat.le_refl _) _).trans (hb.mono (by omega))
    by_cases hlt : j < l.length
    · obtain ⟨o, ho⟩ : ∃ o, l[j]? = some o := ⟨_, List.getElem?_eq_getElem hlt⟩
      have hT := Lib.hid (madeF_take (most := most) ho)
      obtain ⟨b0, f0, rfl, hS0, hb0, x0, x1, x2, x3⟩ := rop_at (H.out.keep (Below.agree b1)) ho
      generalize madeF most (l.take j) = s at *
      obtain ⟨A1, c1, B1, d1, y0, y1, z0, z1, hlt5, hs1, hs2⟩ := hst.open_
      have Hs1 := Lib.hid hs1
      have Hs2 := Lib.hid hs2
      have Hst := Lib.hid hst
      have Hb := Lib.hid hb
      have B1' := Lib.hid b1
      have Ho := Lib.hid ho
      have hj0 : (0 : Int) ≤ (j : Int) := by omega
      have hj1 : (j : Int) < (l.length : Int) := by omega
      have hb0' : b0 < w.heap.size := hS0.2
      have hne : b0 ≠ w.heap.size + 1 := by omega
      have hne' : w.heap.size + 1 ≠ b0 := by omega
      clear hs1 hs2 hst hb b1 ho
      cases hbk : o.back with
      | true =>
        rw [hbk] at x3
        by_cases hpos : 0 < s.l.length
        · have hpos' : (0 : Int) < (s.l.length : Int) := by omega
          have hmod : (o.b0.toNat : Int) % (s.l.length : Int) = ((o.b0.toNat % s.l.length : Nat) : Int) := by simp
          have hml : o.b0.toNat % s.l.length < s.l.length := Nat.mod_lt _ hpos
          have hw0 := (byte_words 0 o.b0 0).1.2.1
          have hne0 : ((s.l.length : Int) == 0) = false := by rw [beq_eq_false_iff_ne]; omega
          have hne1 : ¬ (s.l.length : Int) = 0 := by omega
          have hnil : (s.l = []) = False := by simp only [eq_iff_iff, iff_false]; intro e; rw [e] at hpos; simp at hpos
          have hnn : (0 : Int) ≤ (o.b0.toNat : Int) := by omega
          have Hmod := Lib.hid hmod
          obtain ⟨p, hp⟩ : ∃ p, retractF s ((o.b0.toNat % s.l.length : Nat) : Int) = p := ⟨_, rfl⟩
          have Hp := Lib.hid hp
          have hl1000 : s.l.length ≤ 1000 := by omega
          clear hmod hp
          go_upto_region 6 with fail
          go_cut [7, 8] (fun v7 v8 wx => ∃ g, v7 = .pointer (some ⟨g, 0, none⟩) ∧ v8 = .int .i64 p.2 ∧ wr.heap.size ≤ g ∧ StAt (fun b => (fun b => w.heap.size + 1 < b) b ∧ b ≠ g) wx g p.1 ∧ Below wr.heap.size wr wx)
          case first =>
            have br : Below wr.heap.size wr wr := Below.refl _ _
            have rc := fun W (hW : Below wr.heap.size wr W) b o (hb : b < wr.heap.size) => hW.cell (p := ⟨b, o, none⟩) hb
            have hzr : w.heap.size + 1 < wr.heap.size := hlt5
            go_region_held3 (fun X => Below wr.heap.size wr X) (repeat' (first | with_reducible assumption | with_reducible refine Below.drew ?_ | with_reducible refine Below.alloc ?_ ?_ _ | with_reducible refine Below.setCell ?_ ?_ _ | (simp; done) | omega | (simp <;> omega)))
              (first | (go_at_call 21; refine (retractR_mod (S := fun b => (fun b => w.heap.size + 1 < b) b ∧ b < wr.heap.size) _ (Hs1.out.old.keep (Below.agree (by assumption))) (Hs2.out.old.keep (Below.agree (by assumption))) ok hl1000 hml Hp.out).mono ?_; rintro e w3 ⟨A5, c5, B5, d5, rfl, hs5, hg5, hb5⟩; have hb6 := Below.trans (by assumption : Below wr.heap.size wr _) (Below.mono hb5 (Below.size (by assumption))); have hz6 := hb6.size; obtain ⟨hd5, hdf5⟩ := bcell hb5; have hl5 := fun (b : Nat) h => Nat.lt_of_lt_of_le (n := b) h hb5.size))
            · go_wp2_with fail
              go_meet
              exact ⟨_, rfl, rfl, hz6, StAt.made hs5 hg5 (fun b hb hl => ⟨by rcases hb with hb | hb; exact hb.1; simp at hb; omega, by omega⟩) rfl, hb6.alloc hz6 _⟩
            · go_wp2_with fail
              go_meet
              exact ⟨_, rfl, rfl, Nat.le_refl _, StAt.put ⟨_, _, (hb5.block _ (by simp)).trans (heap_alloc_at rfl)⟩ hs5 hg5 (fun b hb hl => by rcases hb with hb | hb; exact ⟨⟨hb.1, by omega⟩, by omega⟩; simp at hb; exact ⟨⟨by omega, by omega⟩, by omega⟩), (hb6.setCell (Nat.le_refl _) _).setCell (Nat.le_refl _) _⟩
          case rest =>
            obtain ⟨g7, rfl, rfl, hg7, hst7, hbx⟩ := hcut
            have hstx := Hst.out.below hbx
            clear y0 y1 z0 z1 x0 x1 x2 x3
            obtain ⟨A1, c1, B1, d1, y0, y1, z0, z1, hlt5x, -, -⟩ := hstx.open_
            obtain ⟨A7, c7, B7, d7, u0, u1, -, -, hlt7, hs7, hg7s⟩ := hst7.open_
            have hn57 : w.heap.size + 1 ≠ g7 := by omega
            have hn75 : g7 ≠ w.heap.size + 1 := by omega
            have Hstx := Lib.hid hstx
            have Hs7 := Lib.hid hs7
            have Hg7 := Lib.hid hg7s
            have Hbx := Lib.hid (Hb.out.trans (hbx.mono (by omega)))
            clear hstx hs7 hg7s hbx hst7
            by_cases hp2 : p.2 = 0
            · have e2 : (p.2 == 0) = true := by simpa using hp2
              have Hp2 := Lib.hid hp2
              clear hp2
              go_wp2_with fail
              go_roundw
              case rel =>
                refine ⟨j + 1, by omega, by go_num, ?_, (Hbx.out.setCell (by simp) _).setCell (by simp) _⟩
                have e : stepM most s o = p.1 := by unfold stepM; rw [if_pos ⟨hbk, hpos⟩, Hp.out, if_pos Hp2.out]
                rw [hT.out, e]
                exact StAt.put Hstx.out.box Hs7.out Hg7.out (fun b hb _ => ⟨hb.1, by have := hb.1; omega⟩)
              case measure => simp [intOf]; omega
            · have e2 : (p.2 == 0) = false := by simpa using hp2
              have Hp2 := Lib.hid hp2
              clear hp2
              go_wp2_with fail
              go_roundw
              case rel =>
                refine ⟨j + 1, by omega, by go_num, ?_, Hbx.out⟩
                have e : stepM most s o = s := by unfold stepM; rw [if_pos ⟨hbk, hpos⟩, Hp.out, if_neg Hp2.out]
                rw [hT.out, e]
                exact Hstx.out
              case measure => simp [intOf]; omega
        · have hpos' : ¬ (0 : Int) < (s.l.length : Int) := by omega
          have hnil : s.l = [] := List.eq_nil_of_length_eq_zero (by omega)
          have hl0 : s.l.length = 0 := by omega
          have Hpos := Lib.hid hpos
          have Hnil := Lib.hid hnil
          clear hpos hpos'
          rw [hl0] at y0
          clear hl0 hnil
          go_wp2_with fail
          go_roundw
          case rel =>
            refine ⟨j + 1, by omega, by go_num, ?_, Hb.out⟩
            have e : stepM most s o = s := by unfold stepM; rw [if_neg (fun h => Hpos.out h.2), if_neg (fun h => h.1 hbk)]
            rw [hT.out, e]
            exact Hst.out
          case measure => simp [intOf]; omega
      | false =>
        rw [hbk] at x3
        by_cases hroom : s.l.length < most
        · have hroom' : (s.l.length : Int) < (most : Int) := by omega
          obtain ⟨p, hp⟩ : ∃ p, takeF s (rdOf o.b0 o.b1 o.b2) = p := ⟨_, rfl⟩
          have Hp := Lib.hid hp
          have hl1000 : s.l.length ≤ 1000 := by omega
          clear hp
          go_wp2_with fail
          go_region_law (first
            | (go_simp; go_at_call 33; refine (readingR o.b0 o.b1 o.b2 _).mono ?_; rintro e w4 ⟨rfl, hb3⟩; obtain ⟨hc3, hf3⟩ := bcellk (k := wr.heap.size) hb3 (by simp))
            | (go_simp; go_at_call 32; refine (takeR_eq (S := fun b => (fun b => w.heap.size + 1 < b) b ∧ b < wr.heap.size) (rdOf o.b0 o.b1 o.b2) _ ((Hs1.out.old.keep (by repeat' (first | with_reducible exact Agree.refl _ _ | with_reducible assumption | with_reducible refine Agree.set ?_ ?_ _ | with_reducible refine Agree.alloc ?_ _ | with_reducible refine Agree.drew ?_ | with_reducible refine Agree.drewN ?_ _ | omega | (simp <;> omega)))).keep (Below.agree hb3)) ((Hs2.out.old.keep (by repeat' (first | with_reducible exact Agree.refl _ _ | with_reducible assumption | with_reducible refine Agree.set ?_ ?_ _ | with_reducible refine Agree.alloc ?_ _ | with_reducible refine Agree.drew ?_ | with_reducible refine Agree.drewN ?_ _ | omega | (simp <;> omega)))).keep (Below.agree hb3)) ok hl1000 Hp.out).mono ?_; rintro e w5 ⟨A4, c4, B4, d4, rfl, hs4, hg4, hb4⟩; obtain ⟨hc4, hf4⟩ := bcellk (k := wr.heap.size) hb4 (by have := hb3.size; simp at this; omega)))
          all_goals
            have hb34 : Below wr.heap.size wr w5 := ((Below.refl _ _).drew.trans hb3).trans (hb4.mono hb3.size)
            have hz3 : wr.heap.size ≤ w4.heap.size := hb3.size
            go_wp2_with fail
            go_roundw
            case rel =>
              refine ⟨j + 1, by omega, by go_num, ?_, ((Hb.out.trans (hb34.mono (by omega))).setCell (by simp) _).setCell (by simp) _⟩
              have e : stepM most s o = p.1 := by unfold stepM; rw [if_neg (fun h => by simp [hbk] at h), if_pos ⟨by simp [hbk], hroom⟩, Hp.out]
              rw [hT.out, e]
              exact StAt.put (Hst.out.below hb34).box hs4 hg4 (fun b hb hl => by rcases hb with hb | hb; exact ⟨hb.1, by have := hb.1; omega⟩; exact ⟨by omega, by omega⟩)
            case measure => simp [intOf]; omega
        · have hroom' : ¬ (s.l.length : Int) < (most : Int) := by omega
          go_wp2_with fail
          go_roundw
          case rel =>
            refine ⟨j + 1, by omega, by go_num, ?_, Hb.out⟩
            have e : stepM most s o = s := by unfold stepM; rw [if_neg (fun h => by simp [hbk] at h), if_neg (fun h => hroom h.2)]
            rw [hT.out, e]
            exact Hst.out
          case measure => simp [intOf]; omega
    · have hjl : j = l.length := by omega
      subst hjl
      have hj1 : ¬ (l.length : Int) < (l.length : Int) := by omega
      rw [List.take_of_length_le (Nat.le_refl _)] at *
      obtain ⟨A1, c1, B1, d1, y0, y1, z0, z1, hlt5, hs1, hs2⟩ := hst.open_
      have hg0 : wr.heap[w.heap.size]? = some (.cells #[.slice none 0 0, .slice none 0 0] 31 (0, 0)) := (hb.block _ (by omega)).trans (heap_alloc_at rfl)
      have v0 := cell_of_row _ _ 0 _ _ _ hg0
      have v1 := cell_of_row _ _ 1 _ _ _ hg0
      simp only [List.getElem?_toArray, List.getElem?_cons_zero, List.getElem?_cons_succ] at v0 v1
      have t0 : wr.frozen? ⟨w.heap.size, 0, none⟩ = false := by simp [World.frozen?, hg0]
      have t1 : wr.frozen? ⟨w.heap.size, 1, none⟩ = false := by simp [World.frozen?, hg0]
      have hn1 : w.heap.size ≠ w.heap.size + 1 := by omega
      have Hs1 := Lib.hid hs1
      have Hs2 := Lib.hid hs2
      have B1' := Lib.hid b1
      clear hs1 hs2 hst hb b1 hg0
      go_wp2_with fail
      refine bodyPost_ret (v := .agg #[.slice A1 (madeF most l).l.length c1, .slice B1 (madeF most l).g.length d1]) (by simp [results, Tryd.results12, go_sem, *]) rfl ⟨A1, c1, B1, d1, rfl, ?_, ?_, (B1'.out.setCell (by simp) _).setCell (by simp) _⟩
      · exact (Hs1.out.keep (((Agree.refl _ _).set (by simp) _).set (by simp) _)).sub fun b hb _ => by omega
      · exact (Hs2.out.keep (((Agree.refl _ _).set (by simp) _).set (by simp) _)).sub fun b hb _ => by omega
end Go.Proofs.YtmkpaolbejlodaaDoor
namespace Go.Proofs.YtmkpaolbejlodaaDoor
open Go.RowKit

theorem total_cons (q : Qy) (r : Rd) (l : List Rd) (v : Nat) : totalF q (r :: l) v = termF q v r + totalF q l v := by simp [totalF]
/-! Conditions. -/
/-! Sums over ranges. -/
/-! Moments. -/
theorem grp_term {n k : Int} {f : List Cd} {v : Nat} (r : Rd) : termF ⟨4, n, k, [f]⟩ v r = if matchB f r then (if fldI r n = ((v % 16 : Nat) : Int) then 1 else 0) else 0 := rfl
/-! Pairs. -/
/-! Order. -/
/-- Value s + i stands cs[i] times. -/
def vals (s : Nat) : List Nat → List Int
  | [] => []
  | c :: cs => List.replicate c (s : Int) ++ vals (s + 1) cs
theorem vals_app : ∀ (s : Nat) (cs ds : List Nat), vals s (cs ++ ds) = vals s cs ++ vals (s + cs.length) ds
  | s, [], ds => by simp [vals]
  | s, c :: cs, ds => by
    rw [List.cons_append, vals, vals, vals_app (s + 1) cs ds, List.append_assoc, List.length_cons]
    rw [show s + 1 + cs.length = s + (cs.length + 1) by omega]
theorem vals_len : ∀ (s : Nat) (cs : List Nat), ((vals s cs).length : Int) = (cs.map fun (c : Nat) => (c : Int)).sum
  | _, [] => rfl
  | s, c :: cs => by
    rw [vals, List.length_append, List.length_replicate, List.map_cons, List.sum_cons, ← vals_len (s + 1) cs]
    omega
/-- The first place at which the counts so far reach k. -/
theorem vals_at : ∀ (s : Nat) (cs : List Nat) (k : Nat), k < (vals s cs).length →
    ∃ v, v < cs.length ∧ (vals s cs)[k]? = some ((s + v : Nat) : Int) ∧ ((k : Int) + 1 ≤ ((cs.map fun (c : Nat) => (c : Int)).take (v + 1)).sum) ∧ ∀ u, u < v → ¬ (k : Int) + 1 ≤ ((cs.map fun (c : Nat) => (c : Int)).take (u + 1)).sum
  | s, [], k, h => by simp [vals] at h
  | s, c :: cs, k, h => by
    rw [vals, List.length_append, List.length_replicate] at h
    by_cases hk : k < c
    · refine ⟨0, by simp, ?_, by simp; omega, fun u hu => by omega⟩
      rw [vals, List.getElem?_append_left (by simpa using hk), List.getElem?_replicate, if_pos hk, Nat.add_zero]
    · obtain ⟨v, h1, h2, h3, h4⟩ := vals_at (s + 1) cs (k - c) (by omega)
      refine ⟨v + 1, by simp; omega, ?_, ?_, fun u hu => ?_⟩
      · rw [vals, List.getElem?_append_right (by simp; omega), List.length_replicate, h2]
        congr 2; omega
      · rw [List.map_cons, List.take_succ_cons, List.sum_cons]; omega
      · cases u with
        | zero => simp; omega
        | succ u =>
          have := h4 u (by omega)
          rw [List.map_cons, List.take_succ_cons, List.sum_cons]; omega
theorem vals_small {cs : List Nat} {k : Nat} (h : k < (vals 0 cs).length) : ∃ x, (vals 0 cs)[k]? = some x ∧ smallF (cs.map fun (c : Nat) => (c : Int)) ((k : Int) + 1) = [x] := by
  obtain ⟨v, h1, h2, h3, h4⟩ := vals_at 0 cs k h
  exact ⟨_, h2, by rw [small_some (v := v) (by simpa using h1) h3 h4, Nat.zero_add]⟩
theorem vals_big {cs : List Nat} {k : Nat} (h : ¬ k < (vals 0 cs).length) : smallF (cs.map fun (c : Nat) => (c : Int)) ((k : Int) + 1) = [] := by
  refine small_none fun v _ => ?_
  have h1 := vals_len 0 cs
  have h2 : (((cs.map fun (c : Nat) => (c : Int)).take (v + 1)).sum) ≤ (cs.map fun (c : Nat) => (c : Int)).sum := by
    have h5 : ∀ x ∈ (cs.map fun (c : Nat) => (c : Int)).drop (v + 1), 0 ≤ x := fun x hx => by
      obtain ⟨y, -, rfl⟩ := List.mem_map.1 (List.mem_of_mem_drop hx)
      omega
    have h6 : ∀ (l : List Int), (∀ x ∈ l, 0 ≤ x) → 0 ≤ l.sum := by
      intro l
      induction l with
      | nil => intro _; simp
      | cons x l ih => intro h; rw [List.sum_cons]; have := h x (by simp); have := ih fun y hy => h y (by simp [hy]); omega
    have h7 := h6 _ h5
    have h8 : (cs.map fun (c : Nat) => (c : Int)).sum = ((cs.map fun (c : Nat) => (c : Int)).take (v + 1)).sum + ((cs.map fun (c : Nat) => (c : Int)).drop (v + 1)).sum := by
      rw [← List.sum_append, List.take_append_drop]
    omega
  omega
/-- How often a list's next element differs. -/
def chg : Option Int → List Int → Int
  | _, [] => 0
  | p, x :: xs => (if p = some x then 0 else 1) + chg (some x) xs
theorem chg_rep (s : Int) (xs : List Int) : ∀ (c : Nat) (p : Option Int), chg p (List.replicate c s ++ xs) = if c = 0 then chg p xs else (if p = some s then 0 else 1) + chg (some s) xs
  | 0, p => by simp
  | 1, p => by simp [chg]
  | c + 2, p => by
    rw [List.replicate_succ, List.cons_append, chg, chg_rep s xs (c + 1) (some s), if_neg (show ¬ c + 1 = 0 by omega), if_pos rfl, if_neg (show ¬ c + 2 = 0 by omega)]
    omega
theorem chg_vals : ∀ (cs : List Nat) (s : Nat) (p : Option Int), (∀ x, p = some x → x < (s : Int)) → chg p (vals s cs) = nzF (cs.map fun (c : Nat) => (c : Int))
  | [], _, _, _ => rfl
  | c :: cs, s, p, hp => by
    rw [vals, chg_rep]
    have hps : p ≠ some (s : Int) := fun h => by have := hp _ h; omega
    have e : nzF ((c :: cs).map fun (c : Nat) => (c : Int)) = (if (c : Int) = 0 then 0 else 1) + nzF (cs.map fun (c : Nat) => (c : Int)) := by
      unfold nzF
      by_cases h : c = 0
      · subst h; simp
      · rw [if_neg (by omega)]; simp [h]; omega
    rw [e]
    by_cases h : c = 0
    · rw [if_pos h, if_pos (show (c : Int) = 0 by omega), chg_vals cs (s + 1) p (fun x hx => by have := hp x hx; omega)]; omega
    · rw [if_neg h, if_neg (show ¬ (c : Int) = 0 by omega), if_neg hps, chg_vals cs (s + 1) (some s) (fun x hx => by injection hx with hx; omega)]
/-- The same, step by step. -/
theorem chg_snoc : ∀ (xs : List Int) (p : Option Int) (x : Int), chg p (xs ++ [x]) = chg p xs + if (xs.getLast?.or p) = some x then 0 else 1
  | [], p, x => by
    simp only [List.nil_append, chg, List.getLast?_nil, Option.none_or, Int.add_zero, Int.zero_add]
    by_cases h : p = some x <;> simp [h]
  | y :: xs, p, x => by
    have e : xs.getLast?.or (some y) = (y :: xs).getLast?.or p := by
      cases xs with
      | nil => rfl
      | cons z xs =>
        rw [List.getLast?_cons_cons, List.getLast?_eq_some_getLast (l := z :: xs) (by simp)]
        rfl
    rw [List.cons_append, chg, chg, chg_snoc xs (some y) x, Int.add_assoc, e]
theorem chg_step {xs : List Int} {j : Nat} {x : Int} (h : xs[j]? = some x) : chg none (xs.take (j + 1)) = chg none (xs.take j) + if j = 0 ∨ xs[j - 1]? ≠ some x then 1 else 0 := by
  have hj : j < xs.length := (List.getElem?_eq_some_iff.1 h).1
  rw [take_snocR h, chg_snoc]
  congr 1
  rcases Nat.eq_zero_or_pos j with h0 | h0
  · subst h0; simp
  · have e : (xs.take j).getLast? = xs[j - 1]? := by
      rw [List.getLast?_eq_getElem?, List.length_take, Nat.min_eq_left (by omega), List.getElem?_take, if_pos (by omega)]
    rw [e, Option.or_none]
    by_cases hh : xs[j - 1]? = some x
    · rw [if_pos hh, if_neg (by rintro (h1 | h1); omega; exact h1 hh)]
    · rw [if_neg hh, if_pos (.inr hh)]
theorem chg_bd : ∀ (xs : List Int) (p : Option Int), 0 ≤ chg p xs ∧ chg p xs ≤ xs.length
  | [], _ => by simp [chg]
  | x :: xs, p => by
    have := chg_bd xs (some x)
    rw [chg, List.length_cons]
    split <;> omega
end Go.Proofs.YtmkpaolbejlodaaDoor
namespace Go.Proofs.YtmkpaolbejlodaaDoor
open Go.RowKit

theorem Sl.belowE {α : Type} {E : Enc α} {S : Nat → Prop} {w w' : World} {A : Option Addr} {c N : Nat} {xs : List α} (h : Sl E S w A c xs) (hb : Below N w w') (hS : ∀ b, S b → b < N) : Sl E S w' A c xs :=
  h.keep ((Agree.refl S w).below hb (fun b hb _ => hS b hb))
theorem mvI {α : Type} {E : Enc α} {S : Nat → Prop} {w w' : World} {A : Option Addr} {c : Nat} {l : List α} (h : Hid (Sl E S w A c l)) (hb : Below w.heap.size w w') : Hid (Sl E S w' A c l) := Lib.hid (h.out.keep (Below.agree hb))
/-- Two rows of the call's own, apart from each other. -/
structure JJ (w1 : World) (b1 b2 : Nat) (v1 v2 : Value) (xs : List Rd) (ys : List Bool) (wx : World) : Prop where
  o1 : Own rdE (fun _ => False) wx b1 47 v1 xs
  o2 : Own .bool (fun _ => False) wx b2 4 v2 ys
  l1 : w1.heap.size ≤ b1
  l2 : w1.heap.size ≤ b2
  ne : ∀ k, v1.ownBlock = some k → v2.ownBlock ≠ some k
  bel : Below w1.heap.size w1 wx
  b1 : b1 ≤ wx.heap.size
  b2 : b2 ≤ wx.heap.size
theorem JJ.drew {w1 wx : World} {b1 b2 : Nat} {v1 v2 : Value} {xs : List Rd} {ys : List Bool} (h : JJ w1 b1 b2 v1 v2 xs ys wx) : JJ w1 b1 b2 v1 v2 xs ys wx.drew :=
  ⟨h.o1.drew, h.o2.drew, h.l1, h.l2, h.ne, h.bel.drew, h.b1, h.b2⟩
end Go.Proofs.YtmkpaolbejlodaaDoor
namespace Go.Proofs.YtmkpaolbejlodaaDoor
open Go.RowKit

set_option maxRecDepth 100000 in
set_option maxHeartbeats 4000000 in
theorem condsP {l : List Cd} {A : Option Addr} {c : Nat} {S : Nat → Prop} (w : World) (h : Sl cdE S w A c l) :
    Calls Tryd.prog 22 #[.slice A l.length c] w fun e w' => ∃ l', ValidFlt l' ∧ ∃ A' c', e = .returned (.slice A' l'.length c') ∧ Sl cdE (fun b => w.heap.size ≤ b) w' A' c' l' ∧ Below w.heap.size w w' := by
  have H := Lib.hid (h.sub (T := fun b => b < w.heap.size) fun _ _ h => h)
  have hm := h.max
  clear h
  go_enter Tryd.func22, Tryd.ntmps22
  go_wp2_with fail
  go_loopw [3, 4] (fun v i wr => ∃ (k : Nat) (A : Option Addr) (c : Nat) (ys : List Cd), k ≤ 3 ∧ k ≤ l.length ∧ i = .int .i64 k ∧ ys.length = k ∧ (∀ u ∈ ys, ValidCd u) ∧ v = .slice A k c ∧ Own cdE (fun _ => False) wr w.heap.size 58 (.slice A k c) ys ∧ Below w.heap.size w wr) (fun _ i _ => l.length - (intOf i).toNat)
  case atStart => exact ⟨0, some ⟨w.heap.size, 0, none⟩, 0, [], by omega, by omega, rfl, rfl, by simp, rfl, Own.litAt _ _ _ _ rfl (Nat.le_refl _), (Below.refl _ _).alloc (Nat.le_refl _) _⟩
  case round =>
    obtain ⟨k, B, d, ys, hk3, hkl, rfl, hyl, hyv, rfl, ho, hb⟩ := hrel
    have hk0 : (0 : Int) ≤ (k : Int) := by omega
    have HO := Lib.hid ho
    have HB := Lib.hid hb
    have HY := Lib.hid hyv
    have lo := ho.lt
    have lz := hb.size
    clear ho hb hyv
    by_cases c2 : k < l.length
    · have g2 : (k : Int) < (l.length : Int) := by omega
      by_cases c3 : k < 3
      · have g3 : (k : Int) < 3 := by omega
        obtain ⟨x, hx⟩ : ∃ x, l[k]? = some x := ⟨_, List.getElem?_eq_getElem c2⟩
        obtain ⟨b2, o2', rfl, -, l2, y0, y1, y2⟩ := cd_at (H.out.belowE HB.out (fun b h => h)) hx
        clear hx
        have lb2 := l2
        go_wp2_with (first
          | (go_at_call 26; refine (madeCdP x _).mono ?_; rintro e w4 ⟨x', hx', rfl, hb4⟩; have HX := Lib.hid hx'; have HB4 := Lib.hid hb4; have HO4 := Lib.hid (HO.out.call hb4); have lo4 := HO4.out.lt; have lz4 := hb4.size; clear hx' hb4)
          | (at_builtin; go_must ((refine wpList_append_E (S := fun b => b = w4.heap.size) rfl (.tmp 16) (.tmp 22) rfl cdsT (base := w.heap.size) (v := .slice B k d) (xs := ys) (ys := [x']) (by rfl) (by rfl) rfl (nz := k + 1) (by simp [hyl]) ((HO4.out.flat cdE_flat).alloc _) (Sl.litAt (S := fun b => b = w4.heap.size) rfl (.single cdE_shut) (by unfold maxLen; simp) (fun _ h _ => h) rfl) (by unfold maxLen; simp [hyl]; omega) (by simp [hyl]; omega) (by simp; omega) (fun g hg (hs : g = w4.heap.size) => absurd (lo4 g hg).2 (by omega)) ?_; intro A6 c6 w6 hown6 hg6 hor6))))
        go_roundw
        case rel => exact ⟨k + 1, A6, c6, ys ++ [x'], by omega, by omega, by go_num, by simp [hyl], fun u hu => (List.mem_append.1 hu).elim (HY.out u) (fun h => by simp at h; subst h; exact HX.out), rfl, hown6.flat cdE_flat, ((HB.out.trans (HB4.out.mono HB.out.size)).alloc (by omega) _).grown hg6 (by simp; omega) (fun g hg => (lo4 g hg).1)⟩
        case measure => simp [intOf]; omega
      · have g3 : ¬ (k : Int) < 3 := by omega
        (go_wp2_with fail; exact bodyPost_ret (v := .slice B k d) (by simp [results, Tryd.results22, go_sem, *]) rfl ⟨ys, ⟨by omega, HY.out⟩, B, d, by rw [hyl], HO.out.flatSl cdE_flat (fun _ h => h), HB.out⟩)
    · have g2 : ¬ (k : Int) < (l.length : Int) := by omega
      (go_wp2_with fail; exact bodyPost_ret (v := .slice B k d) (by simp [results, Tryd.results22, go_sem, *]) rfl ⟨ys, ⟨by omega, HY.out⟩, B, d, by rw [hyl], HO.out.flatSl cdE_flat (fun _ h => h), HB.out⟩)
theorem q1_valid {kd col k : Int} {f : List Cd} (hf : ValidFlt f) (hc : 0 ≤ col ∧ col ≤ 3) (h : (kd = 1 ∧ col = 0 ∧ k = 0) ∨ (kd = 2 ∧ k = 0) ∨ (kd = 3 ∧ 1 ≤ k ∧ k ≤ 6) ∨ (kd = 4 ∧ k = 0) ∨ (kd = 5 ∧ k = 0) ∨ (kd = 6 ∧ 1 ≤ k ∧ k ≤ 65536)) : ValidQ ⟨kd, col, k, [f]⟩ := by
  refine ⟨⟨⟨?_, ?_⟩, hc, ?_, ?_, ?_, ?_, ?_⟩, fun g hg => by rw [List.mem_singleton.1 hg]; exact hf⟩
  all_goals dsimp only
  · omega
  · omega
  · omega
  · omega
  · rcases h with ⟨rfl, -, rfl⟩ | ⟨rfl, rfl⟩ | ⟨rfl, h1, h2⟩ | ⟨rfl, rfl⟩ | ⟨rfl, rfl⟩ | ⟨rfl, h1, h2⟩
    all_goals (unfold maxKF; simp <;> omega)
  · omega
  · rcases h with ⟨rfl, -, rfl⟩ | ⟨rfl, rfl⟩ | ⟨rfl, h1, h2⟩ | ⟨rfl, rfl⟩ | ⟨rfl, rfl⟩ | ⟨rfl, h1, h2⟩ <;> rfl
theorem q1_narrow {kd col k : Int} {f : List Cd} (h : kd ≤ 3 ∨ col = 0 ∨ col = 2) : wideB ⟨kd, col, k, [f]⟩ = false := by
  unfold wideB
  refine decide_eq_false fun ⟨h1, h2, h3⟩ => ?_
  dsimp only at h1 h2 h3
  rcases h with h | h | h
  · omega
  · subst h; exact absurd h3 (by decide)
  · subst h; exact absurd h3 (by decide)
theorem matchN {l : List Cd} {r : Rd} {b : Bool} {n : Nat} {A : Option Addr} {c : Nat} {S : Nat → Prop} (hb : matchB l r = b) (hn : l.length = n) (w : World) (h : Sl cdE S w A c l) (hv : ∀ x ∈ l, ValidCd x) :
    Calls Tryd.prog 23 #[.slice A n c, (.agg #[.int .i64 r.who, .int .i64 r.whn, .int .i64 r.knd, .int .i64 r.val])] w fun e w' => e = .returned (.bool b) ∧ Below w.heap.size w w' := by
  subst hb; subst hn
  exact matchRef w h hv
end Go.Proofs.YtmkpaolbejlodaaDoor
namespace Go.Proofs.YtmkpaolbejlodaaDoor
open Go.RowKit

/-- A pair counts: it is live, it matches, its field is v. -/
def prB (f : List Cd) (c : Int) (v : Nat) (p : Rd × Bool) : Bool := !p.2 && (matchB f p.1 && decide (fldI p.1 c = (v : Int)))
def cntP (f : List Cd) (c : Int) (v : Nat) (ps : List (Rd × Bool)) : Nat := (ps.filter (prB f c v)).length
theorem cnt_step {f : List Cd} {c : Int} {v i : Nat} {ps : List (Rd × Bool)} {p : Rd × Bool} (h : ps[i]? = some p) : cntP f c v (ps.take (i + 1)) = cntP f c v (ps.take i) + if prB f c v p then 1 else 0 := by
  have e : ps.take (i + 1) = ps.take i ++ [p] := by rw [List.take_add_one, h]; rfl
  unfold cntP
  rw [e, List.filter_append, List.length_append]
  cases hp : prB f c v p with
  | true => rw [List.filter_cons_of_pos hp]; rfl
  | false => rw [List.filter_cons_of_neg (by rw [hp]; simp)]; rfl
theorem cnt_le (f : List Cd) (c : Int) (v : Nat) (ps : List (Rd × Bool)) : cntP f c v ps ≤ ps.length := List.length_filter_le _ _
theorem cnt_total {f : List Cd} {c : Int} {v : Nat} (hv : v < 16) : ∀ ps : List (Rd × Bool), totalF ⟨4, c, 0, [f]⟩ ((ps.filter fun p => !p.2).map (·.1)) v = (cntP f c v ps : Int)
  | [] => by simp [totalF, cntP]
  | (r, true) :: ps => by
    have ih := cnt_total (f := f) (c := c) hv ps
    have e1 : (((r, true) :: ps).filter fun p => !p.2) = ps.filter fun p => !p.2 := by simp
    have e2 : cntP f c v ((r, true) :: ps) = cntP f c v ps := by unfold cntP; rw [List.filter_cons_of_neg (by simp [prB])]
    rw [e1, e2, ih]
  | (r, false) :: ps => by
    have ih := cnt_total (f := f) (c := c) hv ps
    have e1 : (((r, false) :: ps).filter fun p => !p.2) = (r, false) :: ps.filter fun p => !p.2 := by simp
    rw [e1, List.map_cons, total_cons, ih, grp_term, Nat.mod_eq_of_lt hv]
    cases hm : matchB f r with
    | false =>
      have e2 : cntP f c v ((r, false) :: ps) = cntP f c v ps := by unfold cntP; rw [List.filter_cons_of_neg (by simp [prB, hm])]
      rw [e2]; simp
    | true =>
      by_cases he : fldI r c = (v : Int)
      · have e2 : cntP f c v ((r, false) :: ps) = cntP f c v ps + 1 := by unfold cntP; rw [List.filter_cons_of_pos (by simp [prB, hm, he]), List.length_cons]
        rw [e2]; simp [he]; omega
      · have e2 : cntP f c v ((r, false) :: ps) = cntP f c v ps := by unfold cntP; rw [List.filter_cons_of_neg (by simp [prB, hm, he])]
        rw [e2]; simp [he]
def csF (f : List Cd) (c : Int) (ps : List (Rd × Bool)) (n : Nat) : List Nat := (List.range n).map fun v => cntP f c v ps
/-- The values below v, in order. -/
def valTo (f : List Cd) (c : Int) (ps : List (Rd × Bool)) (v : Nat) : List Int := vals 0 (csF f c ps v)
theorem valTo_succ (f : List Cd) (c : Int) (ps : List (Rd × Bool)) (v : Nat) : valTo f c ps (v + 1) = valTo f c ps v ++ List.replicate (cntP f c v ps) (v : Int) := by
  unfold valTo csF
  rw [List.range_succ, List.map_append, List.map_singleton, vals_app, List.length_map, List.length_range, Nat.zero_add]
  simp [vals]
theorem valTo_zero (f : List Cd) (c : Int) (ps : List (Rd × Bool)) : valTo f c ps 0 = [] := rfl
theorem valTo_len (f : List Cd) (c : Int) (ps : List (Rd × Bool)) : ∀ v, (valTo f c ps v).length ≤ v * ps.length
  | 0 => by simp [valTo_zero]
  | v + 1 => by
    have h1 := valTo_len f c ps v
    have h2 := cnt_le f c v ps
    rw [valTo_succ, List.length_append, List.length_replicate, Nat.add_mul, Nat.one_mul]
    omega
theorem sums_cs {f : List Cd} {c : Int} {s : Str} : sumsF ⟨4, c, 0, [f]⟩ (liveF s) = (csF f c (s.l.zip s.g) 16).map fun (n : Nat) => (n : Int) := by
  have e : nSums ⟨4, c, 0, [f]⟩ = 16 := by kernel_rfl
  unfold sumsF csF
  rw [e, List.map_map]
  refine List.map_congr_left fun v hv => ?_
  exact cnt_total (List.mem_range.1 hv) _
theorem sums_k {kd c k : Int} {f : List Cd} (hq : ValidQ ⟨kd, c, k, [f]⟩) (h4 : 4 ≤ kd) (h6 : kd ≤ 6) {s : Str} : sumsF ⟨kd, c, k, [f]⟩ (liveF s) = sumsF ⟨4, c, 0, [f]⟩ (liveF s) := by
  have hn := nSums_16 hq (by dsimp only; omega) h6
  have e : nSums ⟨4, c, 0, [f]⟩ = 16 := by kernel_rfl
  unfold sumsF
  rw [hn, e]
  refine List.map_congr_left fun v _ => ?_
  unfold totalF
  rw [List.map_congr_left fun r _ => ?_]
  have e1 : termF ⟨kd, c, k, [f]⟩ v r = if matchB f r then unitF ⟨kd, c, k, [f]⟩ v r else 0 := by
    unfold termF filtF
    rw [if_neg (show ¬ (⟨kd, c, k, [f]⟩ : Qy).kind = 7 by dsimp only; omega)]
    rfl
  have e2 : unitF ⟨kd, c, k, [f]⟩ v r = if fldI r c = ((v % 16 : Nat) : Int) then 1 else 0 := by
    unfold unitF colQ
    rw [if_neg (show ¬ (⟨kd, c, k, [f]⟩ : Qy).kind = 1 by dsimp only; omega), if_neg (show ¬ (⟨kd, c, k, [f]⟩ : Qy).kind = 2 by dsimp only; omega), if_neg (show ¬ (⟨kd, c, k, [f]⟩ : Qy).kind = 3 by dsimp only; omega), if_neg (show ¬ (⟨kd, c, k, [f]⟩ : Qy).kind = 7 by dsimp only; omega)]
  rw [e1, e2]
  exact (grp_term r).symm
end Go.Proofs.YtmkpaolbejlodaaDoor
