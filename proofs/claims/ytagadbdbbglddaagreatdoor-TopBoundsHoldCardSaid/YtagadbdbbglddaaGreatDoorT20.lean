/-
  Texts of this claim, merged: Rd16, Read, Card, Card6, Rd18, RdRow. Conditions: as each theorem says.
-/
import Derived.Deep.DeepCutAuto
import Derived.Deep.Slices
import Derived.Deep.Fields
import Derived.ChangeArms
import Derived.ChangeSame
import Derived.Test.YtagadbdbbglddaaGreatDoorRows
import Derived.ProofKit
import Derived.LaidMore
import Derived.OpenShut
import Derived.Stop.Joined
import Derived.Maps.Keyed
import Derived.Lib.LaidTab
import Derived.Lib.ItoaNum
import Derived.Test.YtagadbdbbglddaaGreatDoorT1
import Derived.Test.YtagadbdbbglddaaGreatDoorT2
import Derived.Test.YtagadbdbbglddaaGreatDoorT17
import Derived.Test.YtagadbdbbglddaaGreatDoorT19
import Derived.Test.YtagadbdbbglddaaGreatDoorT3
import Derived.Test.YtagadbdbbglddaaGreatDoorT4
set_option linter.unusedSimpArgs false
set_option linter.unusedVariables false
namespace Go.Proofs.YtagadbdbbglddaaGreatDoor
open Go.RowKit

def ropE : Enc ROp := (Enc.u8.pair (Enc.u8.pair (Enc.u8.pair Enc.bool))).via fun o => (o.b0, o.b1, o.b2, o.back)
theorem ropE_open {S : Nat → Prop} {w : World} {cs : List Value} {o : ROp} (h : ropE.rep S w cs o) : cs = [.int .u8 (o.b0.toNat : Int), .int .u8 (o.b1.toNat : Int), .int .u8 (o.b2.toNat : Int), .bool o.back] := by
  obtain ⟨c1, d1, rfl, h1, c2, d2, rfl, h2, c3, d3, rfl, h3, h4⟩ := h
  cases h1; cases h2; cases h3; cases h4
  rfl
theorem rop_at {S : Nat → Prop} {w : World} {A : Option Addr} {c i : Nat} {l : List ROp} {o : ROp} (h : Sl ropE S w A c l) (hi : l[i]? = some o) :
    ∃ b f, A = some ⟨b, f, none⟩ ∧ S b ∧ b < w.heap.size ∧ w.cell? ⟨b, f + i * 4, none⟩ = some (.int .u8 (o.b0.toNat : Int)) ∧ w.cell? ⟨b, f + i * 4 + 1, none⟩ = some (.int .u8 (o.b1.toNat : Int)) ∧
      w.cell? ⟨b, f + i * 4 + 2, none⟩ = some (.int .u8 (o.b2.toNat : Int)) ∧ w.cell? ⟨b, f + i * 4 + 3, none⟩ = some (.bool o.back) := by
  obtain ⟨b, f, cs, hA, hS, hb, hr, hc⟩ := h.at' hi (by decide)
  obtain rfl := ropE_open hr
  exact ⟨b, f, hA, hS, hb, hc 0 _ rfl, hc 1 _ rfl, hc 2 _ rfl, hc 3 _ rfl⟩

/-- Block g holds the stream s; its slices lie in blocks of G. -/
def StAt (G : Nat → Prop) (w : World) (g : Nat) (s : Str) : Prop :=
  ∃ A c B d, w.heap[g]? = some (.cells #[.slice A s.l.length c, .slice B s.g.length d] 31 (0, 0)) ∧ Sl rdE G w A c s.l ∧ Sl .bool G w B d s.g
section
variable {G : Nat → Prop} {w w' : World} {g : Nat} {s : Str}
theorem StAt.below (h : StAt G w g s) (hb : Below w.heap.size w w') : StAt G w' g s := by
  obtain ⟨A, c, B, d, hg, h1, h2⟩ := h
  exact ⟨A, c, B, d, (hb.block g (heap_lt hg)).trans hg, h1.keep (Below.agree hb), h2.keep (Below.agree hb)⟩
theorem StAt.lt (h : StAt G w g s) : g < w.heap.size := by obtain ⟨A, c, B, d, hg, _⟩ := h; exact heap_lt hg
theorem StAt.open_ (h : StAt G w g s) : ∃ A c B d, w.cell? ⟨g, 0, none⟩ = some (.slice A s.l.length c) ∧ w.cell? ⟨g, 1, none⟩ = some (.slice B s.g.length d) ∧ w.frozen? ⟨g, 0, none⟩ = false ∧ w.frozen? ⟨g, 1, none⟩ = false ∧ g < w.heap.size ∧ Sl rdE G w A c s.l ∧ Sl .bool G w B d s.g := by
  obtain ⟨A, c, B, d, hg, h1, h2⟩ := h
  exact ⟨A, c, B, d, cell_of_row _ _ 0 _ _ _ hg, cell_of_row _ _ 1 _ _ _ hg, by simp [World.frozen?, hg], by simp [World.frozen?, hg], heap_lt hg, h1, h2⟩
/-- Stored into an existing box of streams. -/
theorem StAt.put {S : Nat → Prop} {A B : Option Addr} {c d : Nat} (hg : ∃ u v, w.heap[g]? = some (.cells #[u, v] 31 (0, 0))) (h1 : Sl rdE S w A c s.l) (h2 : Sl .bool S w B d s.g) (hS : ∀ b, S b → b < w.heap.size → G b ∧ b ≠ g) :
    StAt G ((w.setCell ⟨g, 0, none⟩ (.slice A s.l.length c)).setCell ⟨g, 1, none⟩ (.slice B s.g.length d)) g s := by
  obtain ⟨u, v, hg⟩ := hg
  have k1 := h1.sub (T := fun b => G b ∧ b ≠ g) hS
  have k2 := h2.sub (T := fun b => G b ∧ b ≠ g) hS
  exact ⟨A, c, B, d, heap_set (i := 1) (heap_set (i := 0) hg), (((k1.keep ((Agree.refl _ _).set (fun h => h.2 rfl) _)).keep ((Agree.refl _ _).set (fun h => h.2 rfl) _)).sub fun b hb _ => hb.1), (((k2.keep ((Agree.refl _ _).set (fun h => h.2 rfl) _)).keep ((Agree.refl _ _).set (fun h => h.2 rfl) _)).sub fun b hb _ => hb.1)⟩
theorem StAt.made {S : Nat → Prop} {A B : Option Addr} {c d : Nat} (h1 : Sl rdE S w A c s.l) (h2 : Sl .bool S w B d s.g) (hS : ∀ b, S b → b < w.heap.size → G b) (hg : g = w.heap.size) :
    StAt G (w.alloc (.cells #[.slice A s.l.length c, .slice B s.g.length d] 31)) g s :=
  ⟨A, c, B, d, heap_alloc_at hg, (h1.sub hS).keep ((Agree.refl _ _).alloc _), (h2.sub hS).keep ((Agree.refl _ _).alloc _)⟩
theorem StAt.box (h : StAt G w g s) : ∃ u v, w.heap[g]? = some (.cells #[u, v] 31 (0, 0)) := by obtain ⟨A, c, B, d, hg, _⟩ := h; exact ⟨_, _, hg⟩
end

theorem takeR_any {s : Str} {A B : Option Addr} {c d : Nat} {S : Nat → Prop} (r : Rd) (w : World) (h : Sl rdE S w A c s.l) (k : Sl .bool S w B d s.g) (ok : OkStr s) (hl : s.l.length ≤ 1000) :
    Calls Tryz.prog 20 #[.agg #[.slice A s.l.length c, .slice B s.g.length d], .agg #[.int .i64 r.who, .int .i64 r.whn, .int .i64 r.knd, .int .i64 r.val]] w (StRes S w (takeF s r)) := by
  cases hv : validB r with
  | true => exact takeR_ok r w hv h k hl (by rw [ok.len]; exact hl)
  | false => exact takeR_bad r w hv
theorem retractR_nat {s : Str} {A B : Option Addr} {c d i : Nat} {S : Nat → Prop} (w : World) (h : Sl rdE S w A c s.l) (k : Sl .bool S w B d s.g) (ok : OkStr s) (hl : s.l.length ≤ 1000) (hi : i < s.l.length) :
    Calls Tryz.prog 19 #[.agg #[.slice A s.l.length c, .slice B s.g.length d], .int .i64 i] w (StRes S w (retractF s i)) := by
  obtain ⟨b, hb⟩ : ∃ b, s.g[i]? = some b := ⟨_, List.getElem?_eq_getElem (by rw [ok.len]; exact hi)⟩
  cases b with
  | true => exact retractR_gone w k hi ok.len hb
  | false => exact retractR_ok w h k hi ok.len hl hb
theorem retractR_mod {s : Str} {A B : Option Addr} {c d : Nat} {b : UInt8} {S : Nat → Prop} {p : Str × Int} (w : World) (h : Sl rdE S w A c s.l) (k : Sl .bool S w B d s.g) (ok : OkStr s) (hl : s.l.length ≤ 1000) (hi : b.toNat % s.l.length < s.l.length) (hp : retractF s ((b.toNat % s.l.length : Nat) : Int) = p) :
    Calls Tryz.prog 19 #[.agg #[.slice A s.l.length c, .slice B s.g.length d], .int .i64 ((b.toNat : Int).tmod (s.l.length : Int))] w (StRes S w p) := by
  rw [show ((b.toNat : Int).tmod (s.l.length : Int)) = ((b.toNat % s.l.length : Nat) : Int) from rfl, ← hp]
  exact retractR_nat w h k ok hl hi
theorem takeR_eq {s : Str} {A B : Option Addr} {c d : Nat} {S : Nat → Prop} {p : Str × Int} (r : Rd) (w : World) (h : Sl rdE S w A c s.l) (k : Sl .bool S w B d s.g) (ok : OkStr s) (hl : s.l.length ≤ 1000) (hp : takeF s r = p) :
    Calls Tryz.prog 20 #[.agg #[.slice A s.l.length c, .slice B s.g.length d], .agg #[.int .i64 r.who, .int .i64 r.whn, .int .i64 r.knd, .int .i64 r.val]] w (StRes S w p) := by
  rw [← hp]; exact takeR_any r w h k ok hl

set_option maxRecDepth 100000 in
set_option maxHeartbeats 4000000 in
theorem madeR {most : Nat} {l : List ROp} {A : Option Addr} {c : Nat} {S : Nat → Prop} (w : World) (h : Sl ropE S w A c l) (hmost : most ≤ 1000) :
    Calls Tryz.prog 7 #[.slice A l.length c, .int .i64 most] w fun e w' => ∃ A' c' B' d', e = .returned (.agg #[.slice A' (madeF most l).l.length c', .slice B' (madeF most l).g.length d']) ∧ Sl rdE (fun b => w.heap.size ≤ b) w' A' c' (madeF most l).l ∧ Sl .bool (fun b => w.heap.size ≤ b) w' B' d' (madeF most l).g ∧ Below w.heap.size w w' := by
  have hm := h.max
  have H := Lib.hid h.old
  clear h
  go_enter Tryz.func7, Tryz.ntmps7
  go_wp2_with fail
  go_loopw [6] (fun i wr => ∃ j : Nat, j ≤ l.length ∧ i = .int .i64 j ∧ StAt (fun b => w.heap.size + 1 < b) wr (w.heap.size + 1) (madeF most (l.take j)) ∧ Below (w.heap.size + 1) (w.alloc (.cells #[.slice none 0 0, .slice none 0 0] 31)) wr) (fun i _ => l.length - (intOf i).toNat)
  case atStart =>
    refine ⟨0, Nat.zero_le _, rfl, StAt.made (s := emptyStr) (S := fun _ => False) (Sl.nil_ _ _ _ _ (Nat.zero_le _)) (Sl.nil_ _ _ _ _ (Nat.zero_le _)) (fun _ h _ => h.elim) (by simp), (Below.refl _ _).alloc (by simp) _⟩
  case round =>
    obtain ⟨j, hj, rfl, hst, hb⟩ := hrel
    obtain ⟨ok, hln⟩ := madeF_ok most (l.take j)
    have b1 : Below w.heap.size w wr := ((Below.refl _ _).alloc (Nat.le_refl _) _).trans (hb.mono (by omega))
    by_cases hlt : j < l.length
    · obtain ⟨o, ho⟩ : ∃ o, l[j]? = some o := ⟨_, List.getElem?_eq_getElem hlt⟩
      have hT := Lib.hid (madeF_take (most := most) ho)
      obtain ⟨b0, f0, rfl, hS0, hb0, x0, x1, x2, x3⟩ := rop_at (H.out.keep (Below.agree b1)) ho
      generalize madeF most (l.take j) = s at *
      obtain ⟨A1, c1, B1, d1, y0, y1, z0, z1, hlt5, hs1, hs2⟩ := hst.open_
      have Hs1 := Lib.hid hs1
      have Hs2 := Lib.hid hs2
      have Hst := Lib.hid hst
      have Hb := Lib.hid hb
      have B1' := Lib.hid b1
      have Ho := Lib.hid ho
      have hj0 : (0 : Int) ≤ (j : Int) := by omega
      have hj1 : (j : Int) < (l.length : Int) := by omega
      have hb0' : b0 < w.heap.size := hS0.2
      have hne : b0 ≠ w.heap.size + 1 := by omega
      have hne' : w.heap.size + 1 ≠ b0 := by omega
      clear hs1 hs2 hst hb b1 ho
      cases hbk : o.back with
      | true =>
        rw [hbk] at x3
        by_cases hpos : 0 < s.l.length
        · have hpos' : (0 : Int) < (s.l.length : Int) := by omega
          have hmod : (o.b0.toNat : Int) % (s.l.length : Int) = ((o.b0.toNat % s.l.length : Nat) : Int) := by simp
          have hml : o.b0.toNat % s.l.length < s.l.length := Nat.mod_lt _ hpos
          have hw0 := (byte_words 0 o.b0 0).1.2.1
          have hne0 : ((s.l.length : Int) == 0) = false := by rw [beq_eq_false_iff_ne]; omega
          have hne1 : ¬ (s.l.length : Int) = 0 := by omega
          have hnil : (s.l = []) = False := by simp only [eq_iff_iff, iff_false]; intro e; rw [e] at hpos; simp at hpos
          have hnn : (0 : Int) ≤ (o.b0.toNat : Int) := by omega
          have Hmod := Lib.hid hmod
          obtain ⟨p, hp⟩ : ∃ p, retractF s ((o.b0.toNat % s.l.length : Nat) : Int) = p := ⟨_, rfl⟩
          have Hp := Lib.hid hp
          have hl1000 : s.l.length ≤ 1000 := by omega
          clear hmod hp
          go_upto_region 6 with fail
          go_cut [7, 8] (fun v7 v8 wx => ∃ g, v7 = .pointer (some ⟨g, 0, none⟩) ∧ v8 = .int .i64 p.2 ∧ wr.heap.size ≤ g ∧ StAt (fun b => (fun b => w.heap.size + 1 < b) b ∧ b ≠ g) wx g p.1 ∧ Below wr.heap.size wr wx)
          case first =>
            have br : Below wr.heap.size wr wr := Below.refl _ _
            have rc := fun W (hW : Below wr.heap.size wr W) b o (hb : b < wr.heap.size) => hW.cell (p := ⟨b, o, none⟩) hb
            have hzr : w.heap.size + 1 < wr.heap.size := hlt5
            go_region_held3 (fun X => Below wr.heap.size wr X) (repeat' (first | with_reducible assumption | with_reducible refine Below.drew ?_ | with_reducible refine Below.alloc ?_ ?_ _ | with_reducible refine Below.setCell ?_ ?_ _ | (simp; done) | omega | (simp <;> omega)))
              (first | (go_at_call 19; refine (retractR_mod (S := fun b => (fun b => w.heap.size + 1 < b) b ∧ b < wr.heap.size) _ (Hs1.out.old.keep (Below.agree (by assumption))) (Hs2.out.old.keep (Below.agree (by assumption))) ok hl1000 hml Hp.out).mono ?_; rintro e w3 ⟨A5, c5, B5, d5, rfl, hs5, hg5, hb5⟩; have hb6 := Below.trans (by assumption : Below wr.heap.size wr _) (Below.mono hb5 (Below.size (by assumption))); have hz6 := hb6.size; obtain ⟨hd5, hdf5⟩ := bcell hb5; have hl5 := fun (b : Nat) h => Nat.lt_of_lt_of_le (n := b) h hb5.size))
            · go_wp2_with fail
              go_meet
              exact ⟨_, rfl, rfl, hz6, StAt.made hs5 hg5 (fun b hb hl => ⟨by rcases hb with hb | hb; exact hb.1; simp at hb; omega, by omega⟩) rfl, hb6.alloc hz6 _⟩
            · go_wp2_with fail
              go_meet
              exact ⟨_, rfl, rfl, Nat.le_refl _, StAt.put ⟨_, _, (hb5.block _ (by simp)).trans (heap_alloc_at rfl)⟩ hs5 hg5 (fun b hb hl => by rcases hb with hb | hb; exact ⟨⟨hb.1, by omega⟩, by omega⟩; simp at hb; exact ⟨⟨by omega, by omega⟩, by omega⟩), (hb6.setCell (Nat.le_refl _) _).setCell (Nat.le_refl _) _⟩
          case rest =>
            obtain ⟨g7, rfl, rfl, hg7, hst7, hbx⟩ := hcut
            have hstx := Hst.out.below hbx
            clear y0 y1 z0 z1 x0 x1 x2 x3
            obtain ⟨A1, c1, B1, d1, y0, y1, z0, z1, hlt5x, -, -⟩ := hstx.open_
            obtain ⟨A7, c7, B7, d7, u0, u1, -, -, hlt7, hs7, hg7s⟩ := hst7.open_
            have hn57 : w.heap.size + 1 ≠ g7 := by omega
            have hn75 : g7 ≠ w.heap.size + 1 := by omega
            have Hstx := Lib.hid hstx
            have Hs7 := Lib.hid hs7
            have Hg7 := Lib.hid hg7s
            have Hbx := Lib.hid (Hb.out.trans (hbx.mono (by omega)))
            clear hstx hs7 hg7s hbx hst7
            by_cases hp2 : p.2 = 0
            · have e2 : (p.2 == 0) = true := by simpa using hp2
              have Hp2 := Lib.hid hp2
              clear hp2
              go_wp2_with fail
              go_roundw
              case rel =>
                refine ⟨j + 1, by omega, by go_num, ?_, (Hbx.out.setCell (by simp) _).setCell (by simp) _⟩
                have e : stepM most s o = p.1 := by unfold stepM; rw [if_pos ⟨hbk, hpos⟩, Hp.out, if_pos Hp2.out]
                rw [hT.out, e]
                exact StAt.put Hstx.out.box Hs7.out Hg7.out (fun b hb _ => ⟨hb.1, by have := hb.1; omega⟩)
              case measure => simp [intOf]; omega
            · have e2 : (p.2 == 0) = false := by simpa using hp2
              have Hp2 := Lib.hid hp2
              clear hp2
              go_wp2_with fail
              go_roundw
              case rel =>
                refine ⟨j + 1, by omega, by go_num, ?_, Hbx.out⟩
                have e : stepM most s o = s := by unfold stepM; rw [if_pos ⟨hbk, hpos⟩, Hp.out, if_neg Hp2.out]
                rw [hT.out, e]
                exact Hstx.out
              case measure => simp [intOf]; omega
        · have hpos' : ¬ (0 : Int) < (s.l.length : Int) := by omega
          have hnil : s.l = [] := List.eq_nil_of_length_eq_zero (by omega)
          have hl0 : s.l.length = 0 := by omega
          have Hpos := Lib.hid hpos
          have Hnil := Lib.hid hnil
          clear hpos hpos'
          rw [hl0] at y0
          clear hl0 hnil
          go_wp2_with fail
          go_roundw
          case rel =>
            refine ⟨j + 1, by omega, by go_num, ?_, Hb.out⟩
            have e : stepM most s o = s := by unfold stepM; rw [if_neg (fun h => Hpos.out h.2), if_neg (fun h => h.1 hbk)]
            rw [hT.out, e]
            exact Hst.out
          case measure => simp [intOf]; omega
      | false =>
        rw [hbk] at x3
        by_cases hroom : s.l.length < most
        · have hroom' : (s.l.length : Int) < (most : Int) := by omega
          obtain ⟨p, hp⟩ : ∃ p, takeF s (rdOf o.b0 o.b1 o.b2) = p := ⟨_, rfl⟩
          have Hp := Lib.hid hp
          have hl1000 : s.l.length ≤ 1000 := by omega
          clear hp
          go_wp2_with fail
          go_region_law (first
            | (go_simp; go_at_call 21; refine (readingR o.b0 o.b1 o.b2 _).mono ?_; rintro e w4 ⟨rfl, hb3⟩; obtain ⟨hc3, hf3⟩ := bcellk (k := wr.heap.size) hb3 (by simp))
            | (go_simp; go_at_call 20; refine (takeR_eq (S := fun b => (fun b => w.heap.size + 1 < b) b ∧ b < wr.heap.size) (rdOf o.b0 o.b1 o.b2) _ ((Hs1.out.old.keep (by repeat' (first | with_reducible exact Agree.refl _ _ | with_reducible assumption | with_reducible refine Agree.set ?_ ?_ _ | with_reducible refine Agree.alloc ?_ _ | with_reducible refine Agree.drew ?_ | with_reducible refine Agree.drewN ?_ _ | omega | (simp <;> omega)))).keep (Below.agree hb3)) ((Hs2.out.old.keep (by repeat' (first | with_reducible exact Agree.refl _ _ | with_reducible assumption | with_reducible refine Agree.set ?_ ?_ _ | with_reducible refine Agree.alloc ?_ _ | with_reducible refine Agree.drew ?_ | with_reducible refine Agree.drewN ?_ _ | omega | (simp <;> omega)))).keep (Below.agree hb3)) ok hl1000 Hp.out).mono ?_; rintro e w5 ⟨A4, c4, B4, d4, rfl, hs4, hg4, hb4⟩; obtain ⟨hc4, hf4⟩ := bcellk (k := wr.heap.size) hb4 (by have := hb3.size; simp at this; omega)))
          all_goals
            have hb34 : Below wr.heap.size wr w5 := ((Below.refl _ _).drew.trans hb3).trans (hb4.mono hb3.size)
            have hz3 : wr.heap.size ≤ w4.heap.size := hb3.size
            go_wp2_with fail
            go_roundw
            case rel =>
              refine ⟨j + 1, by omega, by go_num, ?_, ((Hb.out.trans (hb34.mono (by omega))).setCell (by simp) _).setCell (by simp) _⟩
              have e : stepM most s o = p.1 := by unfold stepM; rw [if_neg (fun h => by simp [hbk] at h), if_pos ⟨by simp [hbk], hroom⟩, Hp.out]
              rw [hT.out, e]
              exact StAt.put (Hst.out.below hb34).box hs4 hg4 (fun b hb hl => by rcases hb with hb | hb; exact ⟨hb.1, by have := hb.1; omega⟩; exact ⟨by omega, by omega⟩)
            case measure => simp [intOf]; omega
        · have hroom' : ¬ (s.l.length : Int) < (most : Int) := by omega
          go_wp2_with fail
          go_roundw
          case rel =>
            refine ⟨j + 1, by omega, by go_num, ?_, Hb.out⟩
            have e : stepM most s o = s := by unfold stepM; rw [if_neg (fun h => by simp [hbk] at h), if_neg (fun h => hroom h.2)]
            rw [hT.out, e]
            exact Hst.out
          case measure => simp [intOf]; omega
    · have hjl : j = l.length := by omega
      subst hjl
      have hj1 : ¬ (l.length : Int) < (l.length : Int) := by omega
      rw [List.take_of_length_le (Nat.le_refl _)] at *
      obtain ⟨A1, c1, B1, d1, y0, y1, z0, z1, hlt5, hs1, hs2⟩ := hst.open_
      have hg0 : wr.heap[w.heap.size]? = some (.cells #[.slice none 0 0, .slice none 0 0] 31 (0, 0)) := (hb.block _ (by omega)).trans (heap_alloc_at rfl)
      have v0 := cell_of_row _ _ 0 _ _ _ hg0
      have v1 := cell_of_row _ _ 1 _ _ _ hg0
      simp only [List.getElem?_toArray, List.getElem?_cons_zero, List.getElem?_cons_succ] at v0 v1
      have t0 : wr.frozen? ⟨w.heap.size, 0, none⟩ = false := by simp [World.frozen?, hg0]
      have t1 : wr.frozen? ⟨w.heap.size, 1, none⟩ = false := by simp [World.frozen?, hg0]
      have hn1 : w.heap.size ≠ w.heap.size + 1 := by omega
      have Hs1 := Lib.hid hs1
      have Hs2 := Lib.hid hs2
      have B1' := Lib.hid b1
      clear hs1 hs2 hst hb b1 hg0
      go_wp2_with fail
      refine bodyPost_ret (v := .agg #[.slice A1 (madeF most l).l.length c1, .slice B1 (madeF most l).g.length d1]) (by simp [results, Tryz.results7, go_sem, *]) rfl ⟨A1, c1, B1, d1, rfl, ?_, ?_, (B1'.out.setCell (by simp) _).setCell (by simp) _⟩
      · exact (Hs1.out.keep (((Agree.refl _ _).set (by simp) _).set (by simp) _)).sub fun b hb _ => by omega
      · exact (Hs2.out.keep (((Agree.refl _ _).set (by simp) _).set (by simp) _)).sub fun b hb _ => by omega
end Go.Proofs.YtagadbdbbglddaaGreatDoor
namespace Go.Proofs.YtagadbdbbglddaaGreatDoor
open Go.RowKit Go.ChangeShapes Go.WideShapes Go.Deep

theorem cell_lt {w : World} {a : Addr} {u : Value} (h : w.cell? a = some u) : a.block < w.heap.size := by
  rcases Nat.lt_or_ge a.block w.heap.size with h' | h'
  · exact h'
  · unfold World.cell? at h
    rw [Array.getElem?_eq_none h'] at h
    simp at h

/-- Whatever reads as a value of type t is a value of E's. -/
def Reads {α : Type} (P : Program) (t : TypeId) (E : Enc α) : Prop :=
  ∀ (H : Type) (enc : TypeId × Value → H) (w : World) (base : Nat) (sp : Nat → Bool) (held : Bool) (n : Nat) (cs : List Value) (y : DataW H × List MemPlace),
    DataW.trod enc P w base sp held n t cs = some y → ∃ x, E.rep (fun _ => True) w cs x

section
variable {α β : Type} {P : Program} {t e : TypeId} {E : Enc α} {F : Enc β}

theorem Reads.i64 (ht : P.underlying t = some (.int .i64)) : Reads P t Enc.i64 := by
  intro H enc w base sp held n cs y h
  obtain ⟨k, rfl, _, _⟩ := DataW.trod_int ht h
  exact ⟨k, rfl⟩
theorem Reads.bool (ht : P.underlying t = some .bool) : Reads P t Enc.bool := by
  intro H enc w base sp held n cs y h
  obtain ⟨k, rfl, _⟩ := DataW.trod_bool ht h
  exact ⟨k, rfl⟩
theorem Reads.u8 (ht : P.underlying t = some (.int .u8)) : Reads P t Enc.u8 := by
  intro H enc w base sp held n cs y h
  obtain ⟨k, rfl, _, hw⟩ := DataW.trod_int ht h
  have hk : 0 ≤ k ∧ k < 256 := by
    have h1 : IntKind.u8.min = 0 := by decide
    have h2 : IntKind.u8.max = 255 := by decide
    simp only [Lit.wf, h1, h2, Bool.and_eq_true, decide_eq_true_eq] at hw
    omega
  exact ⟨UInt8.ofNat k.toNat, by
    show [Value.int .u8 k] = [Value.int .u8 _]
    have : ((UInt8.ofNat k.toNat).toNat : Int) = k := by simp; omega
    rw [this]⟩
theorem Reads.via {f : β → α} (g : α → β) (hg : ∀ x, f (g x) = x) (h : Reads P t E) : Reads P t (E.via f) := by
  intro H enc w base sp held n cs y hh
  obtain ⟨x, hx⟩ := h H enc w base sp held n cs y hh
  exact ⟨g x, by show E.rep _ _ _ (f (g x)); rw [hg]; exact hx⟩

/-- The fields from offset 'off' on lie as E says. -/
inductive ReadsFrom (P : Program) : List Field → Nat → {α : Type} → Enc α → Prop
  | last {f : Field} {off : Nat} {α : Type} {E : Enc α} (ho : f.offset = off) (hr : Reads P f.type E) (hc : P.cellsOf f.type = E.size) : ReadsFrom P [f] off E
  | cons {f : Field} {fs : List Field} {off : Nat} {α β : Type} {E : Enc α} {F : Enc β} (ho : f.offset = off) (hr : Reads P f.type E) (hc : P.cellsOf f.type = E.size) (h : ReadsFrom P fs (off + E.size) F) : ReadsFrom P (f :: fs) off (E.pair F)

theorem ReadsFrom.get {fs : List Field} {off : Nat} {α : Type} {E : Enc α} (h : ReadsFrom P fs off E) {H : Type} {enc : TypeId × Value → H} {w : World} {base : Nat} {sp : Nat → Bool} {held : Bool} {cs : List Value}
    (hf : ∀ f ∈ fs, ∃ n y, DataW.trod enc P w base sp held n f.type ((cs.drop f.offset).take (P.cellsOf f.type)) = some y) (hl : off + E.size = cs.length) : ∃ x, E.rep (fun _ => True) w (cs.drop off) x := by
  induction h with
  | @last f off α E ho hr hc =>
    obtain ⟨n, y, hy⟩ := hf f (by simp)
    obtain ⟨x, hx⟩ := hr _ _ _ _ _ _ _ _ _ hy
    rw [ho, hc, List.take_of_length_le (by rw [List.length_drop]; omega)] at hx
    exact ⟨x, hx⟩
  | @cons f fs off α β E F ho hr hc _ ih =>
    obtain ⟨n, y, hy⟩ := hf f (by simp)
    obtain ⟨x, hx⟩ := hr _ _ _ _ _ _ _ _ _ hy
    have hs : off + E.size + F.size = cs.length := by rw [← hl]; exact Nat.add_assoc _ _ _
    obtain ⟨z, hz⟩ := ih (fun g hg => hf g (by simp [hg])) hs
    rw [ho, hc] at hx
    exact ⟨(x, z), _, _, by rw [← List.drop_drop, List.take_append_drop], hx, hz⟩
theorem Reads.struct {fs : Array Field} (ht : P.underlying t = some (.struct fs)) (hs : P.cellsOf t = E.size) (h : ReadsFrom P fs.toList 0 E) : Reads P t E := by
  intro H enc w base sp held n cs y hh
  obtain ⟨xs, m, _, _, hcl, hxl, hf⟩ := DataW.trod_struct ht hh
  have := h.get (enc := enc) (w := w) (base := base) (sp := sp) (held := held) (cs := cs) (fun f hfm => by
    obtain ⟨i, hi⟩ := List.mem_iff_getElem?.1 hfm
    have hi' : fs[i]? = some f := by simpa using hi
    have h1 := hf i f hi'
    have hlt : i < xs.length := by rw [hxl]; exact (Array.getElem?_eq_some_iff.1 hi').1
    rw [List.getElem?_eq_getElem hlt] at h1
    exact ⟨m, _, h1⟩) (by rw [hcl, hs]; omega)
  simpa using this

theorem Reads.slice (ht : P.underlying t = some (.slice e)) (hC : P.cellsOf e = E.size) (he : Reads P e E) : Reads P t E.slice := by
  intro H enc w base sp held n cs y hh
  rcases open_slice ht hh with ⟨rfl, _⟩ | ⟨a, len, cap, m, n, D, Pl, rfl, hb, hl, hm, hmm, _, hi⟩
  · exact ⟨[], none, 0, rfl, Sl.nil_ _ _ _ _ (Nat.zero_le _)⟩
  · have hlm : len ≤ m := by rw [hmm]; split <;> omega
    have build : ∀ k, k ≤ len → ∃ (cs : List Value) (xs : List α), xs.length = k ∧ Elems E (fun _ => True) w cs xs ∧ ∀ j u, cs[j]? = some u → w.cell? (a.add j) = some u := by
      intro k
      induction k with
      | zero => exact fun _ => ⟨[], [], rfl, rfl, by simp⟩
      | succ k ih =>
        intro hk
        obtain ⟨cs, xs, hxl, hel, hc⟩ := ih (by omega)
        obtain ⟨cs', hcs', htr⟩ := hi k (by omega)
        obtain ⟨x, hx⟩ := he _ _ _ _ _ _ _ _ _ htr
        obtain ⟨_, hcl, hat⟩ := World.cells?_some hcs'
        have hcl' : cs'.length = E.size := E.len hx
        refine ⟨cs ++ cs', xs ++ [x], by simp [hxl], hel.snoc hx, fun j u hu => ?_⟩
        have hlen : cs.length = k * E.size := by rw [hel.len, hxl]
        rcases Nat.lt_or_ge j cs.length with hj | hj
        · rw [List.getElem?_append_left hj] at hu
          exact hc j u hu
        · rw [List.getElem?_append_right hj] at hu
          have hjl := (List.getElem?_eq_some_iff.1 hu).1
          have h1 := hat (i := j - cs.length) (by omega)
          rw [add_add', hC, hu] at h1
          rw [show k * E.size + (j - cs.length) = j from by omega] at h1
          exact h1
    obtain ⟨cs, xs, hxl, hel, hc⟩ := build len (Nat.le_refl _)
    refine ⟨xs, some a, cap, by rw [hxl], by rw [hxl]; exact hl, hm, cs, fun hne => ⟨a, rfl, trivial, ?_, hc⟩, hel⟩
    obtain ⟨v, vs, rfl⟩ := List.exists_cons_of_ne_nil hne
    have h1 := cell_lt (hc 0 v rfl)
    rwa [block_add] at h1

/-- An argument. -/
theorem Reads.arg (he : Reads P t E) {H : Type} {enc : TypeId × Value → H} {w : World} {base : Nat} {sp : Nat → Bool} {held : Bool} {v : Value} {d : DataW H} {p : List MemPlace}
    (h : DataW.Trod enc P w base sp held t v d p) : ∃ x, E.rep (fun _ => True) w v.cells.toList x := by
  obtain ⟨n, hn⟩ := h
  exact he _ _ _ _ _ _ _ _ _ hn
end
end Go.Proofs.YtagadbdbbglddaaGreatDoor
namespace Go.Proofs.YtagadbdbbglddaaGreatDoor
open Go.ChangeShapes Go.WideShapes Go.ChangeAt Go.WideMaps Go.WideElems Go.RowKit Go.Maps
set_option maxRecDepth 100000

theorem gWid : Tryz.prog.globalNamed "attestor/typecheck.widths" = some 0 := by kernel_rfl
theorem tWid : (Tryz.prog.globals[0]?).map (·.type) = some 106 := by kernel_rfl
theorem wid_key {H : Type} (k : Int) (zd : DataW H) : (Rows.laid_attestor_typecheck_widths (H := H)).atKey (.int .i64 k) zd = if 0 ≤ k ∧ k ≤ 4 then .lit (.int .i64 (bitsC k)) else zd := by
  by_cases h : 0 ≤ k ∧ k ≤ 4
  · rw [if_pos h]
    rcases (by omega : k = 0 ∨ k = 1 ∨ k = 2 ∨ k = 3 ∨ k = 4) with rfl | rfl | rfl | rfl | rfl <;> rfl
  · rw [if_neg h]
    have f : ∀ a : Int, (0 ≤ a ∧ a ≤ 4) → (Lit.int .i64 a).sameKey (.int .i64 k) = false := fun a ha => by
      show decide (IntKind.i64 = IntKind.i64 ∧ a = k) = false
      exact decide_eq_false fun e => h (by rw [← e.2]; exact ha)
    unfold Rows.laid_attestor_typecheck_widths DataW.atKey
    simp only [List.find?, f 0 (by omega), f 1 (by omega), f 2 (by omega), f 3 (by omega), f 4 (by omega)]
def Enc.i64r : Enc Int := ⟨1, fun _ _ cs x => cs = [.int .i64 x] ∧ -9223372036854775808 ≤ x ∧ x ≤ 9223372036854775807, by rintro _ _ _ _ ⟨rfl, _⟩; rfl, fun h _ => h, fun h _ => h, by rintro _ _ _ _ ⟨rfl, _⟩ u hu; simp at hu; subst hu; rfl⟩
theorem Reads.i64r {P : Program} {t : TypeId} (ht : P.underlying t = some (.int .i64)) : Reads P t Enc.i64r := by
  intro H enc w base sp held n cs y h
  obtain ⟨k, rfl, _, hw⟩ := DataW.trod_int ht h
  have e1 : IntKind.i64.min = -9223372036854775808 := by decide
  have e2 : IntKind.i64.max = 9223372036854775807 := by decide
  simp [Lit.wf, e1, e2] at hw
  exact ⟨k, rfl, hw⟩
theorem cd_reads : Reads Tryz.prog 90 cdE :=
  Reads.via (fun x => ⟨x.1, x.2.1, x.2.2⟩) (fun _ => rfl) (Reads.struct Tryz.underlying90 (by kernel_rfl) (.cons rfl (Reads.i64 Tryz.underlying3) (by kernel_rfl) (.cons rfl (Reads.i64 Tryz.underlying3) (by kernel_rfl) (.last rfl (Reads.i64 Tryz.underlying3) (by kernel_rfl)))))
theorem cds_reads : Reads Tryz.prog 55 cdE.slice := Reads.slice Tryz.underlying55 (by kernel_rfl) cd_reads
def qyE : Enc Qy := (Enc.i64r.pair (Enc.i64r.pair (Enc.i64r.pair cdE.slice.slice))).via fun q => (q.kind, q.col, q.k, q.fs)
theorem qy_reads : Reads Tryz.prog 24 qyE :=
  Reads.via (fun x => ⟨x.1, x.2.1, x.2.2.1, x.2.2.2⟩) (fun _ => rfl) (Reads.struct Tryz.underlying24 (by kernel_rfl)
    (.cons rfl (Reads.i64r Tryz.underlying3) (by kernel_rfl) (.cons rfl (Reads.i64r Tryz.underlying3) (by kernel_rfl) (.cons rfl (Reads.i64r Tryz.underlying3) (by kernel_rfl) (.last rfl (Reads.slice Tryz.underlying22 (by kernel_rfl) cds_reads) (by kernel_rfl))))))
theorem qy_arg {H : Type} {enc : TypeId × Value → H} {W : World} {base b0 : Nat} {sp : Nat → Bool} {held : Bool} {r : Reach} {v : Value} {d : DataW H} {p : List MemPlace}
    (hv : Value.okWide Tryz.prog W r b0 24 v) (h : DataW.Trod enc Tryz.prog W base sp held 24 v d p) :
    ∃ (x : Qy) (A : Option Addr) (c : Nat), v = .agg #[.int .i64 x.kind, .int .i64 x.col, .int .i64 x.k, .slice A x.fs.length c] ∧ (-9223372036854775808 ≤ x.col ∧ x.col ≤ 9223372036854775807) ∧ Sl cdE.slice (fun _ => True) W A c x.fs := by
  obtain ⟨cs, rfl, _⟩ := okWide_struct Tryz.underlying24 hv
  obtain ⟨x, c1, d1, he, ⟨rfl, _⟩, c2, d2, rfl, ⟨rfl, hr⟩, c3, d3, rfl, ⟨rfl, _⟩, A, c, rfl, hs⟩ := qy_reads.arg h
  exact ⟨x, A, c, congrArg Value.agg (Array.ext' (by simpa [Value.cells] using he)), hr, hs⟩
end Go.Proofs.YtagadbdbbglddaaGreatDoor
namespace Go.Proofs.YtagadbdbbglddaaGreatDoor
open Go.ChangeShapes Go.WideShapes Go.ChangeAt Go.WideMaps Go.WideElems Go.RowKit Go.Maps
set_option maxRecDepth 100000

def laid6 : List (String × DataW Unit) := [("math/bits.deBruijn32tab", Rows.laid_math_bits_deBruijn32tab), ("math/bits.deBruijn64tab", Rows.laid_math_bits_deBruijn64tab), ("internal/strconv.uint64pow10", Rows.laid_internal_strconv_uint64pow10), ("strconv.ErrRange", Rows.laid_strconv_ErrRange), ("strconv.ErrSyntax", Rows.laid_strconv_ErrSyntax), ("attestor/typecheck.widths", Rows.laid_attestor_typecheck_widths)]
theorem tab10 {H : Type} : (Rows.laid_internal_strconv_uint64pow10 (H := H)) = Go.Lib.tabData .u64 Go.Lib.pow10Tab := by kernel_rfl
theorem gTab : Tryz.prog.globalNamed "internal/strconv.uint64pow10" = some 2 := by kernel_rfl
theorem tTab : (Tryz.prog.globals[2]?).map (·.type) = some 169 := by kernel_rfl
/-- What a walk takes from the row. -/
structure Laid6 (W : World) : Prop where
  wid : WidOk W
  tab : Go.Lib.TabIs Tryz.prog W "internal/strconv.uint64pow10" .u64 Go.Lib.pow10Tab
theorem of_laid6 {W : World} (h : laidMetH Tryz.prog laid6 W) : Laid6 W := by
  rw [MakeChecks.laidMetH_plain _ _ _ (by kernel_rfl)] at h
  obtain ⟨ps, ⟨-, -, -, -, -, -, -, -, -, -, ⟨-, -, -, -, -, -, -, -, -, -, ⟨g3, t3, cs3, f3, p3, q3, hg3, ht3, hv3, hd3, ⟨-, -, -, -, -, -, -, -, -, -, ⟨-, -, -, -, -, -, -, -, -, -, ⟨g0, t0, cs0, f0, p0, q0, hg0, ht0, hv0, hd0, -, -⟩, -⟩, -⟩, -⟩, -⟩, -⟩, -, -⟩ := h
  obtain rfl := Option.some.inj (gTab.symm.trans hg3)
  obtain rfl := Option.some.inj (tTab.symm.trans ht3)
  rw [tab10] at hd3
  have hT : Go.Lib.TabIs Tryz.prog W "internal/strconv.uint64pow10" .u64 Go.Lib.pow10Tab := by
    unfold Go.Lib.TabIs
    rw [hv3, ← Go.Lib.cells_of_tab Tryz.underlying169 Tryz.underlying151 (by kernel_rfl) (by kernel_rfl) hd3]
  clear hd3 hv3 ht3 hg3
  refine ⟨?_, hT⟩
  clear hT
  obtain rfl := Option.some.inj (gWid.symm.trans hg0)
  obtain rfl := Option.some.inj (tWid.symm.trans ht0)
  rcases open_map Tryz.underlying106 hd0 with ⟨_, hx⟩ | ⟨bm, es, clock, m, rfl, hcs, hb, _, F, hx⟩
  · simp [Rows.laid_attestor_typecheck_widths] at hx
  simp only [Prod.mk.injEq] at hx
  have hcell : W.cell? ⟨0, 0, none⟩ = some (.map (some bm)) := by
    have := World.var?_cell hg0 hv0 0
    rw [Array.eq_one_of_toList hcs] at this
    simpa using this
  refine ⟨bm, es, clock, hcell, hb, fun W' hb' k h0 h1 => ?_⟩
  have zero : (zeroValue 3).run Tryz.prog W' = .ok (.int .i64 0) W' := by kernel_rfl
  have hw : (Lit.int .i64 k).wf = true := by
    have e1 : IntKind.i64.min = -9223372036854775808 := by decide
    have e2 : IntKind.i64.max = 9223372036854775807 := by decide
    simp [Lit.wf, e1, e2, h0, h1]
  rcases fit_look (w := W') false (int_keyed Tryz.underlying3) Tryz.underlying106 zero hb' F (keyOf_int_mk Tryz.underlying3 hw) with ⟨hrun, _, hat⟩ | ⟨e0, y, _, _, hrun, hR, hat, _⟩
  · have ha := hat .nil
    rw [← hx.1, wid_key] at ha
    have hno : ¬ (0 ≤ k ∧ k ≤ 4) := fun hk => by rw [if_pos hk] at ha; cases ha
    have hz : bitsC k = 0 := by unfold bitsC; rw [if_neg (by omega), if_neg (by omega), if_neg (by omega)]
    rw [hz]
    exact hrun
  · obtain ⟨r, hv, rfl, _⟩ := elemAt_int Tryz.underlying3 hR
    have ha := hat .nil
    rw [← hx.1, wid_key] at ha
    have hk : 0 ≤ k ∧ k ≤ 4 := by
      rcases Decidable.em (0 ≤ k ∧ k ≤ 4) with hk | hk
      · exact hk
      · rw [if_neg hk] at ha; cases ha
    rw [if_pos hk] at ha
    simp only [DataW.lit.injEq, Lit.int.injEq, true_and] at ha
    have hr : bitsC k = r := ha
    rw [hv] at hrun
    rw [hr]
    exact hrun
/-- The door's own heap meets the condition. -/
theorem door_met6 (os : Os) (args : Array Value) : laidMetH Tryz.prog laid6 ((World.doorLaid Tryz.prog 400 os).forCall (fun _ _ => 0) ⟨#[], args, []⟩).memory :=
  laidMetH_of_parts3 (fuel := 8) (laidMet_of_run' 8 (by kernel_rfl) (by kernel_rfl)) (by kernel_rfl) (by kernel_rfl)
end Go.Proofs.YtagadbdbbglddaaGreatDoor
namespace Go.Proofs.YtagadbdbbglddaaGreatDoor
open Go.RowKit

/-- A slice of numbers and the number of an error. -/
def TabRes (w : World) (p : List Int × Int) (e : Ending) (w' : World) : Prop :=
  ∃ A c, e = .returned (.tuple #[.slice A p.1.length c, .int .i64 p.2]) ∧ Sl .u64 (fun b => w.heap.size ≤ b) w' A c p.1 ∧ Below w.heap.size w w'
theorem TabRes.none {w w' : World} {k : Int} {e : Ending} (he : e = .returned (.tuple #[.slice none 0 0, .int .i64 k])) (hb : Below w.heap.size w w') : TabRes w ([], k) e w' :=
  ⟨_, 0, he, Sl.nil_ _ _ _ _ (Nat.zero_le _), hb⟩

end Go.Proofs.YtagadbdbbglddaaGreatDoor
namespace Go.Proofs.YtagadbdbbglddaaGreatDoor
open Go.RowKit Go.ChangeShapes Go.WideShapes Go.Deep
set_option maxRecDepth 100000

theorem Reads.u64 {P : Program} {t : TypeId} (ht : P.underlying t = some (.int .u64)) : Reads P t Enc.u64 := by
  intro H enc w base sp held n cs y h
  obtain ⟨k, rfl, _, _⟩ := DataW.trod_int ht h
  exact ⟨k, rfl⟩
theorem Reads.array3 {P : Program} {t e : TypeId} {α : Type} {E : Enc α} (ht : P.underlying t = some (.array 3 e)) (hC : P.cellsOf t = E.size + (E.size + E.size)) (hc : P.cellsOf e = E.size) (he : Reads P e E) : Reads P t (E.pair (E.pair E)) := by
  intro H enc w base sp held n cs y h
  obtain ⟨xs, m, _, _, hcl, hxl, hf⟩ := DataW.trod_array ht h
  have get : ∀ i, i < 3 → ∃ x, E.rep (fun _ => True) w ((cs.drop (i * E.size)).take E.size) x := by
    intro i hi
    have h1 := hf i hi
    rw [List.getElem?_eq_getElem (by omega), hc] at h1
    exact he _ _ _ _ _ _ _ _ _ h1
  obtain ⟨x, hx⟩ := get 0 (by omega)
  obtain ⟨y', hy⟩ := get 1 (by omega)
  obtain ⟨z, hz⟩ := get 2 (by omega)
  rw [Nat.zero_mul, List.drop_zero] at hx
  rw [Nat.one_mul] at hy
  refine ⟨(x, y', z), cs.take E.size, cs.drop E.size, (List.take_append_drop _ _).symm, hx, (cs.drop E.size).take E.size, (cs.drop E.size).drop E.size, (List.take_append_drop _ _).symm, hy, ?_⟩
  rw [List.take_of_length_le (by rw [List.length_drop, hcl, hC]; omega)] at hz
  rw [List.drop_drop, show E.size + E.size = 2 * E.size from by omega]
  exact hz
theorem rop_reads : Reads Tryz.prog 58 ropE := by
  intro H enc w base sp held n cs y h
  obtain ⟨x, us, bs, hab, ha, hb⟩ := (Reads.struct (E := (Enc.u8.pair (Enc.u8.pair Enc.u8)).pair Enc.bool) Tryz.underlying58 (by kernel_rfl)
    (.cons rfl (Reads.array3 Tryz.underlying56 (by kernel_rfl) (by kernel_rfl) (Reads.u8 Tryz.underlying5)) (by kernel_rfl) (.last rfl (Reads.bool Tryz.underlying4) (by kernel_rfl)))) _ _ _ _ _ _ _ _ _ h
  obtain ⟨c0, c1, h0, r0, c2, c3, h1, r1, r2⟩ := ha
  exact ⟨⟨x.1.1, x.1.2.1, x.1.2.2, x.2⟩, c0, c1 ++ bs, by rw [hab, h0, List.append_assoc], r0, c2, c3 ++ bs, by rw [h1, List.append_assoc], r1, c3, bs, rfl, r2, hb⟩
theorem rops_reads : Reads Tryz.prog 25 ropE.slice := Reads.slice Tryz.underlying25 (by kernel_rfl) rop_reads
end Go.Proofs.YtagadbdbbglddaaGreatDoor
