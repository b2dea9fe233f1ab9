/-
  Texts of this claim, merged: Rd11, Rd16. Conditions: as each theorem says.
-/
import Derived.Deep.DeepCutAuto
import Derived.Test.YtmkpaolbejlodaaDoorB1
import Derived.Test.YtmkpaolbejlodaaDoorB2
import Derived.Test.YtmkpaolbejlodaaDoorB10
set_option linter.unusedSimpArgs false
set_option linter.unusedVariables false
namespace Go.Proofs.YtmkpaolbejlodaaDoor
open Go.RowKit

section
variable {F : Nat → Prop} {w0 wr w2 w6 : World} {B : Nat} {xs : List (List Int)} {v v' : Value} {x : List Int} {A : Option Addr} {c : Nat}
end

/-- Columns and the number of an error. -/
def ColRes (w : World) (p : List (List Int) × Int) (e : Ending) (w' : World) : Prop :=
  ∃ A c, e = .returned (.tuple #[.slice A p.1.length c, .int .i64 p.2]) ∧ Sl Enc.u64.slice (fun b => w.heap.size ≤ b) w' A c p.1 ∧ Below w.heap.size w w'
theorem ColRes.none {w w' : World} {k : Int} {e : Ending} (he : e = .returned (.tuple #[.slice none 0 0, .int .i64 k])) (hb : Below w.heap.size w w') : ColRes w ([], k) e w' :=
  ⟨_, 0, he, Sl.nil_ _ _ _ _ (Nat.zero_le _), hb⟩

end Go.Proofs.YtmkpaolbejlodaaDoor
namespace Go.Proofs.YtmkpaolbejlodaaDoor
open Go.RowKit

def ropE : Enc ROp := (Enc.u8.pair (Enc.u8.pair (Enc.u8.pair Enc.bool))).via fun o => (o.b0, o.b1, o.b2, o.back)
theorem ropE_open {S : Nat → Prop} {w : World} {cs : List Value} {o : ROp} (h : ropE.rep S w cs o) : cs = [.int .u8 (o.b0.toNat : Int), .int .u8 (o.b1.toNat : Int), .int .u8 (o.b2.toNat : Int), .bool o.back] := by
  obtain ⟨c1, d1, rfl, h1, c2, d2, rfl, h2, c3, d3, rfl, h3, h4⟩ := h
  cases h1; cases h2; cases h3; cases h4
  rfl
theorem rop_at {S : Nat → Prop} {w : World} {A : Option Addr} {c i : Nat} {l : List ROp} {o : ROp} (h : Sl ropE S w A c l) (hi : l[i]? = some o) :
    ∃ b f, A = some ⟨b, f, none⟩ ∧ S b ∧ b < w.heap.size ∧ w.cell? ⟨b, f + i * 4, none⟩ = some (.int .u8 (o.b0.toNat : Int)) ∧ w.cell? ⟨b, f + i * 4 + 1, none⟩ = some (.int .u8 (o.b1.toNat : Int)) ∧
      w.cell? ⟨b, f + i * 4 + 2, none⟩ = some (.int .u8 (o.b2.toNat : Int)) ∧ w.cell? ⟨b, f + i * 4 + 3, none⟩ = some (.bool o.back) := by
  obtain ⟨b, f, cs, hA, hS, hb, hr, hc⟩ := h.at' hi (by decide)
  obtain rfl := ropE_open hr
  exact ⟨b, f, hA, hS, hb, hc 0 _ rfl, hc 1 _ rfl, hc 2 _ rfl, hc 3 _ rfl⟩

/-- Block g holds the stream s; its slices lie in blocks of G. -/
def StAt (G : Nat → Prop) (w : World) (g : Nat) (s : Str) : Prop :=
  ∃ A c B d, w.heap[g]? = some (.cells #[.slice A s.l.length c, .slice B s.g.length d] 31 (0, 0)) ∧ Sl rdE G w A c s.l ∧ Sl .bool G w B d s.g
section
variable {G : Nat → Prop} {w w' : World} {g : Nat} {s : Str}
theorem StAt.below (h : StAt G w g s) (hb : Below w.heap.size w w') : StAt G w' g s := by
  obtain ⟨A, c, B, d, hg, h1, h2⟩ := h
  exact ⟨A, c, B, d, (hb.block g (heap_lt hg)).trans hg, h1.keep (Below.agree hb), h2.keep (Below.agree hb)⟩
theorem StAt.lt (h : StAt G w g s) : g < w.heap.size := by obtain ⟨A, c, B, d, hg, _⟩ := h; exact heap_lt hg
theorem StAt.open_ (h : StAt G w g s) : ∃ A c B d, w.cell? ⟨g, 0, none⟩ = some (.slice A s.l.length c) ∧ w.cell? ⟨g, 1, none⟩ = some (.slice B s.g.length d) ∧ w.frozen? ⟨g, 0, none⟩ = false ∧ w.frozen? ⟨g, 1, none⟩ = false ∧ g < w.heap.size ∧ Sl rdE G w A c s.l ∧ Sl .bool G w B d s.g := by
  obtain ⟨A, c, B, d, hg, h1, h2⟩ := h
  exact ⟨A, c, B, d, cell_of_row _ _ 0 _ _ _ hg, cell_of_row _ _ 1 _ _ _ hg, by simp [World.frozen?, hg], by simp [World.frozen?, hg], heap_lt hg, h1, h2⟩
/-- Stored into an existing box of streams. -/
theorem StAt.put {S : Nat → Prop} {A B : Option Addr} {c d : Nat} (hg : ∃ u v, w.heap[g]? = some (.cells #[u, v] 31 (0, 0))) (h1 : Sl rdE S w A c s.l) (h2 : Sl .bool S w B d s.g) (hS : ∀ b, S b → b < w.heap.size → G b ∧ b ≠ g) :
    StAt G ((w.setCell ⟨g, 0, none⟩ (.slice A s.l.length c)).setCell ⟨g, 1, none⟩ (.slice B s.g.length d)) g s := by
  obtain ⟨u, v, hg⟩ := hg
  have k1 := h1.sub (T := fun b => G b ∧ b ≠ g) hS
  have k2 := h2.sub (T := fun b => G b ∧ b ≠ g) hS
  exact ⟨A, c, B, d, heap_set (i := 1) (heap_set (i := 0) hg), (((k1.keep ((Agree.refl _ _).set (fun h => h.2 rfl) _)).keep ((Agree.refl _ _).set (fun h => h.2 rfl) _)).sub fun b hb _ => hb.1), (((k2.keep ((Agree.refl _ _).set (fun h => h.2 rfl) _)).keep ((Agree.refl _ _).set (fun h => h.2 rfl) _)).sub fun b hb _ => hb.1)⟩
theorem StAt.made {S : Nat → Prop} {A B : Option Addr} {c d : Nat} (h1 : Sl rdE S w A c s.l) (h2 : Sl .bool S w B d s.g) (hS : ∀ b, S b → b < w.heap.size → G b) (hg : g = w.heap.size) :
    StAt G (w.alloc (.cells #[.slice A s.l.length c, .slice B s.g.length d] 31)) g s :=
  ⟨A, c, B, d, heap_alloc_at hg, (h1.sub hS).keep ((Agree.refl _ _).alloc _), (h2.sub hS).keep ((Agree.refl _ _).alloc _)⟩
theorem StAt.box (h : StAt G w g s) : ∃ u v, w.heap[g]? = some (.cells #[u, v] 31 (0, 0)) := by obtain ⟨A, c, B, d, hg, _⟩ := h; exact ⟨_, _, hg⟩
end

theorem takeR_any {s : Str} {A B : Option Addr} {c d : Nat} {S : Nat → Prop} (r : Rd) (w : World) (h : Sl rdE S w A c s.l) (k : Sl .bool S w B d s.g) (ok : OkStr s) (hl : s.l.length ≤ 1000) :
    Calls Tryd.prog 32 #[.agg #[.slice A s.l.length c, .slice B s.g.length d], .agg #[.int .i64 r.who, .int .i64 r.whn, .int .i64 r.knd, .int .i64 r.val]] w (StRes S w (takeF s r)) := by
  cases hv : validB r with
  | true => exact takeR_ok r w hv h k hl (by rw [ok.len]; exact hl)
  | false => exact takeR_bad r w hv
theorem retractR_nat {s : Str} {A B : Option Addr} {c d i : Nat} {S : Nat → Prop} (w : World) (h : Sl rdE S w A c s.l) (k : Sl .bool S w B d s.g) (ok : OkStr s) (hl : s.l.length ≤ 1000) (hi : i < s.l.length) :
    Calls Tryd.prog 21 #[.agg #[.slice A s.l.length c, .slice B s.g.length d], .int .i64 i] w (StRes S w (retractF s i)) := by
  obtain ⟨b, hb⟩ : ∃ b, s.g[i]? = some b := ⟨_, List.getElem?_eq_getElem (by rw [ok.len]; exact hi)⟩
  cases b with
  | true => exact retractR_gone w k hi ok.len hb
  | false => exact retractR_ok w h k hi ok.len hl hb
theorem retractR_any {s : Str} {A B : Option Addr} {c d : Nat} {i : Int} {S : Nat → Prop} (w : World) (h : Sl rdE S w A c s.l) (k : Sl .bool S w B d s.g) (ok : OkStr s) (hl : s.l.length ≤ 1000) :
    Calls Tryd.prog 21 #[.agg #[.slice A s.l.length c, .slice B s.g.length d], .int .i64 i] w (StRes S w (retractF s i)) := by
  by_cases hi : i < 0 ∨ (s.l.length : Int) ≤ i
  · exact retractR_none i w hi
  · obtain ⟨n, hn⟩ : ∃ n : Nat, i = n := ⟨i.toNat, by omega⟩
    rw [hn] at hi ⊢
    exact retractR_nat w h k ok hl (by omega)
theorem retractR_mod {s : Str} {A B : Option Addr} {c d : Nat} {b : UInt8} {S : Nat → Prop} {p : Str × Int} (w : World) (h : Sl rdE S w A c s.l) (k : Sl .bool S w B d s.g) (ok : OkStr s) (hl : s.l.length ≤ 1000) (hi : b.toNat % s.l.length < s.l.length) (hp : retractF s ((b.toNat % s.l.length : Nat) : Int) = p) :
    Calls Tryd.prog 21 #[.agg #[.slice A s.l.length c, .slice B s.g.length d], .int .i64 ((b.toNat : Int).tmod (s.l.length : Int))] w (StRes S w p) := by
  rw [show ((b.toNat : Int).tmod (s.l.length : Int)) = ((b.toNat % s.l.length : Nat) : Int) from rfl, ← hp]
  exact retractR_nat w h k ok hl hi
theorem takeR_eq {s : Str} {A B : Option Addr} {c d : Nat} {S : Nat → Prop} {p : Str × Int} (r : Rd) (w : World) (h : Sl rdE S w A c s.l) (k : Sl .bool S w B d s.g) (ok : OkStr s) (hl : s.l.length ≤ 1000) (hp : takeF s r = p) :
    Calls Tryd.prog 32 #[.agg #[.slice A s.l.length c, .slice B s.g.length d], .agg #[.int .i64 r.who, .int .i64 r.whn, .int .i64 r.knd, .int .i64 r.val]] w (StRes S w p) := by
  rw [← hp]; exact takeR_any r w h k ok hl

set_option maxRecDepth 100000 in
set_option maxHeartbeats 4000000 in
theorem madeR {most : Nat} {l : List ROp} {A : Option Addr} {c : Nat} {S : Nat → Prop} (w : World) (h : Sl ropE S w A c l) (hmost : most ≤ 1000) :
    Calls Tryd.prog 12 #[.slice A l.length c, .int .i64 most] w fun e w' => ∃ A' c' B' d', e = .returned (.agg #[.slice A' (madeF most l).l.length c', .slice B' (madeF most l).g.length d']) ∧ Sl rdE (fun b => w.heap.size ≤ b) w' A' c' (madeF most l).l ∧ Sl .bool (fun b => w.heap.size ≤ b) w' B' d' (madeF most l).g ∧ Below w.heap.size w w' := by
  have hm := h.max
  have H := Lib.hid h.old
  clear h
  go_enter Tryd.func12, Tryd.ntmps12
  go_wp2_with fail
  go_loopw [6] (fun i wr => ∃ j : Nat, j ≤ l.length ∧ i = .int .i64 j ∧ StAt (fun b => w.heap.size + 1 < b) wr (w.heap.size + 1) (madeF most (l.take j)) ∧ Below (w.heap.size + 1) (w.alloc (.cells #[.slice none 0 0, .slice none 0 0] 31)) wr) (fun i _ => l.length - (intOf i).toNat)
  case atStart =>
    refine ⟨0, Nat.zero_le _, rfl, StAt.made (s := emptyStr) (S := fun _ => False) (Sl.nil_ _ _ _ _ (Nat.zero_le _)) (Sl.nil_ _ _ _ _ (Nat.zero_le _)) (fun _ h _ => h.elim) (by simp), (Below.refl _ _).alloc (by simp) _⟩
  case round =>
    obtain ⟨j, hj, rfl, hst, hb⟩ := hrel
    obtain ⟨ok, hln⟩ := madeF_ok most (l.take j)
    have b1 : Below w.heap.size w wr := ((Below.refl _ _).alloc (Nat.le_refl _) _).trans (hb.mono (by omega))
    by_cases hlt : j < l.length
    · obtain ⟨o, ho⟩ : ∃ o, l[j]? = some o := ⟨_, List.getElem?_eq_getElem hlt⟩
      have hT := Lib.hid (madeF_take (most := most) ho)
      obtain ⟨b0, f0, rfl, hS0, hb0, x0, x1, x2, x3⟩ := rop_at (H.out.keep (Below.agree b1)) ho
      generalize madeF most (l.take j) = s at *
      obtain ⟨A1, c1, B1, d1, y0, y1, z0, z1, hlt5, hs1, hs2⟩ := hst.open_
      have Hs1 := Lib.hid hs1
      have Hs2 := Lib.hid hs2
      have Hst := Lib.hid hst
      have Hb := Lib.hid hb
      have B1' := Lib.hid b1
      have Ho := Lib.hid ho
      have hj0 : (0 : Int) ≤ (j : Int) := by omega
      have hj1 : (j : Int) < (l.length : Int) := by omega
      have hb0' : b0 < w.heap.size := hS0.2
      have hne : b0 ≠ w.heap.size + 1 := by omega
      have hne' : w.heap.size + 1 ≠ b0 := by omega
      clear hs1 hs2 hst hb b1 ho
      cases hbk : o.back with
      | true =>
        rw [hbk] at x3
        by_cases hpos : 0 < s.l.length
        · have hpos' : (0 : Int) < (s.l.length : Int) := by omega
          have hmod : (o.b0.toNat : Int) % (s.l.length : Int) = ((o.b0.toNat % s.l.length : Nat) : Int) := by simp
          have hml : o.b0.toNat % s.l.length < s.l.length := Nat.mod_lt _ hpos
          have hw0 := (byte_words 0 o.b0 0).1.2.1
          have hne0 : ((s.l.length : Int) == 0) = false := by rw [beq_eq_false_iff_ne]; omega
          have hne1 : ¬ (s.l.length : Int) = 0 := by omega
          have hnil : (s.l = []) = False := by simp only [eq_iff_iff, iff_false]; intro e; rw [e] at hpos; simp at hpos
          have hnn : (0 : Int) ≤ (o.b0.toNat : Int) := by omega
          have Hmod := Lib.hid hmod
          obtain ⟨p, hp⟩ : ∃ p, retractF s ((o.b0.toNat % s.l.length : Nat) : Int) = p := ⟨_, rfl⟩
          have Hp := Lib.hid hp
          have hl1000 : s.l.length ≤ 1000 := by omega
          clear hmod hp
          go_upto_region 6 with fail
          go_cut [7, 8] (fun v7 v8 wx => ∃ g, v7 = .pointer (some ⟨g, 0, none⟩) ∧ v8 = .int .i64 p.2 ∧ wr.heap.size ≤ g ∧ StAt (fun b => (fun b => w.heap.size + 1 < b) b ∧ b ≠ g) wx g p.1 ∧ Below wr.heap.size wr wx)
          case first =>
            have br : Below wr.heap.size wr wr := Below.refl _ _
            have rc := fun W (hW : Below wr.heap.size wr W) b o (hb : b < wr.heap.size) => hW.cell (p := ⟨b, o, none⟩) hb
            have hzr : w.heap.size + 1 < wr.heap.size := hlt5
            go_region_held3 (fun X => Below wr.heap.size wr X) (repeat' (first | with_reducible assumption | with_reducible refine Below.drew ?_ | with_reducible refine Below.alloc ?_ ?_ _ | with_reducible refine Below.setCell ?_ ?_ _ | (simp; done) | omega | (simp <;> omega)))
              (first | (go_at_call 21; refine (retractR_mod (S := fun b => (fun b => w.heap.size + 1 < b) b ∧ b < wr.heap.size) _ (Hs1.out.old.keep (Below.agree (by assumption))) (Hs2.out.old.keep (Below.agree (by assumption))) ok hl1000 hml Hp.out).mono ?_; rintro e w3 ⟨A5, c5, B5, d5, rfl, hs5, hg5, hb5⟩; have hb6 := Below.trans (by assumption : Below wr.heap.size wr _) (Below.mono hb5 (Below.size (by assumption))); have hz6 := hb6.size; obtain ⟨hd5, hdf5⟩ := bcell hb5; have hl5 := fun (b : Nat) h => Nat.lt_of_lt_of_le (n := b) h hb5.size))
            · go_wp2_with fail
              go_meet
              exact ⟨_, rfl, rfl, hz6, StAt.made hs5 hg5 (fun b hb hl => ⟨by rcases hb with hb | hb; exact hb.1; simp at hb; omega, by omega⟩) rfl, hb6.alloc hz6 _⟩
            · go_wp2_with fail
              go_meet
              exact ⟨_, rfl, rfl, Nat.le_refl _, StAt.put ⟨_, _, (hb5.block _ (by simp)).trans (heap_alloc_at rfl)⟩ hs5 hg5 (fun b hb hl => by rcases hb with hb | hb; exact ⟨⟨hb.1, by omega⟩, by omega⟩; simp at hb; exact ⟨⟨by omega, by omega⟩, by omega⟩), (hb6.setCell (Nat.le_refl _) _).setCell (Nat.le_refl _) _⟩
          case rest =>
            obtain ⟨g7, rfl, rfl, hg7, hst7, hbx⟩ := hcut
            have hstx := Hst.out.below hbx
            clear y0 y1 z0 z1 x0 x1 x2 x3
            obtain ⟨A1, c1, B1, d1, y0, y1, z0, z1, hlt5x, -, -⟩ := hstx.open_
            obtain ⟨A7, c7, B7, d7, u0, u1, -, -, hlt7, hs7, hg7s⟩ := hst7.open_
            have hn57 : w.heap.size + 1 ≠ g7 := by omega
            have hn75 : g7 ≠ w.heap.size + 1 := by omega
            have Hstx := Lib.hid hstx
            have Hs7 := Lib.hid hs7
            have Hg7 := Lib.hid hg7s
            have Hbx := Lib.hid (Hb.out.trans (hbx.mono (by omega)))
            clear hstx hs7 hg7s hbx hst7
            by_cases hp2 : p.2 = 0
            · have e2 : (p.2 == 0) = true := by simpa using hp2
              have Hp2 := Lib.hid hp2
              clear hp2
              go_wp2_with fail
              go_roundw
              case rel =>
                refine ⟨j + 1, by omega, by go_num, ?_, (Hbx.out.setCell (by simp) _).setCell (by simp) _⟩
                have e : stepM most s o = p.1 := by unfold stepM; rw [if_pos ⟨hbk, hpos⟩, Hp.out, if_pos Hp2.out]
                rw [hT.out, e]
                exact StAt.put Hstx.out.box Hs7.out Hg7.out (fun b hb _ => ⟨hb.1, by have := hb.1; omega⟩)
              case measure => simp [intOf]; omega
            · have e2 : (p.2 == 0) = false := by simpa using hp2
              have Hp2 := Lib.hid hp2
              clear hp2
              go_wp2_with fail
              go_roundw
              case rel =>
                refine ⟨j + 1, by omega, by go_num, ?_, Hbx.out⟩
                have e : stepM most s o = s := by unfold stepM; rw [if_pos ⟨hbk, hpos⟩, Hp.out, if_neg Hp2.out]
                rw [hT.out, e]
                exact Hstx.out
              case measure => simp [intOf]; omega
        · have hpos' : ¬ (0 : Int) < (s.l.length : Int) := by omega
          have hnil : s.l = [] := List.eq_nil_of_length_eq_zero (by omega)
          have hl0 : s.l.length = 0 := by omega
          have Hpos := Lib.hid hpos
          have Hnil := Lib.hid hnil
          clear hpos hpos'
          rw [hl0] at y0
          clear hl0 hnil
          go_wp2_with fail
          go_roundw
          case rel =>
            refine ⟨j + 1, by omega, by go_num, ?_, Hb.out⟩
            have e : stepM most s o = s := by unfold stepM; rw [if_neg (fun h => Hpos.out h.2), if_neg (fun h => h.1 hbk)]
            rw [hT.out, e]
            exact Hst.out
          case measure => simp [intOf]; omega
      | false =>
        rw [hbk] at x3
        by_cases hroom : s.l.length < most
        · have hroom' : (s.l.length : Int) < (most : Int) := by omega
          obtain ⟨p, hp⟩ : ∃ p, takeF s (rdOf o.b0 o.b1 o.b2) = p := ⟨_, rfl⟩
          have Hp := Lib.hid hp
          have hl1000 : s.l.length ≤ 1000 := by omega
          clear hp
          go_wp2_with fail
          go_region_law (first
            | (go_simp; go_at_call 33; refine (readingR o.b0 o.b1 o.b2 _).mono ?_; rintro e w4 ⟨rfl, hb3⟩; obtain ⟨hc3, hf3⟩ := bcellk (k := wr.heap.size) hb3 (by simp))
            | (go_simp; go_at_call 32; refine (takeR_eq (S := fun b => (fun b => w.heap.size + 1 < b) b ∧ b < wr.heap.size) (rdOf o.b0 o.b1 o.b2) _ ((Hs1.out.old.keep (by repeat' (first | with_reducible exact Agree.refl _ _ | with_reducible assumption | with_reducible refine Agree.set ?_ ?_ _ | with_reducible refine Agree.alloc ?_ _ | with_reducible refine Agree.drew ?_ | with_reducible refine Agree.drewN ?_ _ | omega | (simp <;> omega)))).keep (Below.agree hb3)) ((Hs2.out.old.keep (by repeat' (first | with_reducible exact Agree.refl _ _ | with_reducible assumption | with_reducible refine Agree.set ?_ ?_ _ | with_reducible refine Agree.alloc ?_ _ | with_reducible refine Agree.drew ?_ | with_reducible refine Agree.drewN ?_ _ | omega | (simp <;> omega)))).keep (Below.agree hb3)) ok hl1000 Hp.out).mono ?_; rintro e w5 ⟨A4, c4, B4, d4, rfl, hs4, hg4, hb4⟩; obtain ⟨hc4, hf4⟩ := bcellk (k := wr.heap.size) hb4 (by have := hb3.size; simp at this; omega)))
          all_goals
            have hb34 : Below wr.heap.size wr w5 := ((Below.refl _ _).drew.trans hb3).trans (hb4.mono hb3.size)
            have hz3 : wr.heap.size ≤ w4.heap.size := hb3.size
            go_wp2_with fail
            go_roundw
            case rel =>
              refine ⟨j + 1, by omega, by go_num, ?_, ((Hb.out.trans (hb34.mono (by omega))).setCell (by simp) _).setCell (by simp) _⟩
              have e : stepM most s o = p.1 := by unfold stepM; rw [if_neg (fun h => by simp [hbk] at h), if_pos ⟨by simp [hbk], hroom⟩, Hp.out]
              rw [hT.out, e]
              exact StAt.put (Hst.out.below hb34).box hs4 hg4 (fun b hb hl => by rcases hb with hb | hb; exact ⟨hb.1, by have := hb.1; omega⟩; exact ⟨by omega, by omega⟩)
            case measure => simp [intOf]; omega
        · have hroom' : ¬ (s.l.length : Int) < (most : Int) := by omega
          go_wp2_with fail
          go_roundw
          case rel =>
            refine ⟨j + 1, by omega, by go_num, ?_, Hb.out⟩
            have e : stepM most s o = s := by unfold stepM; rw [if_neg (fun h => by simp [hbk] at h), if_neg (fun h => hroom h.2)]
            rw [hT.out, e]
            exact Hst.out
          case measure => simp [intOf]; omega
    · have hjl : j = l.length := by omega
      subst hjl
      have hj1 : ¬ (l.length : Int) < (l.length : Int) := by omega
      rw [List.take_of_length_le (Nat.le_refl _)] at *
      obtain ⟨A1, c1, B1, d1, y0, y1, z0, z1, hlt5, hs1, hs2⟩ := hst.open_
      have hg0 : wr.heap[w.heap.size]? = some (.cells #[.slice none 0 0, .slice none 0 0] 31 (0, 0)) := (hb.block _ (by omega)).trans (heap_alloc_at rfl)
      have v0 := cell_of_row _ _ 0 _ _ _ hg0
      have v1 := cell_of_row _ _ 1 _ _ _ hg0
      simp only [List.getElem?_toArray, List.getElem?_cons_zero, List.getElem?_cons_succ] at v0 v1
      have t0 : wr.frozen? ⟨w.heap.size, 0, none⟩ = false := by simp [World.frozen?, hg0]
      have t1 : wr.frozen? ⟨w.heap.size, 1, none⟩ = false := by simp [World.frozen?, hg0]
      have hn1 : w.heap.size ≠ w.heap.size + 1 := by omega
      have Hs1 := Lib.hid hs1
      have Hs2 := Lib.hid hs2
      have B1' := Lib.hid b1
      clear hs1 hs2 hst hb b1 hg0
      go_wp2_with fail
      refine bodyPost_ret (v := .agg #[.slice A1 (madeF most l).l.length c1, .slice B1 (madeF most l).g.length d1]) (by simp [results, Tryd.results12, go_sem, *]) rfl ⟨A1, c1, B1, d1, rfl, ?_, ?_, (B1'.out.setCell (by simp) _).setCell (by simp) _⟩
      · exact (Hs1.out.keep (((Agree.refl _ _).set (by simp) _).set (by simp) _)).sub fun b hb _ => by omega
      · exact (Hs2.out.keep (((Agree.refl _ _).set (by simp) _).set (by simp) _)).sub fun b hb _ => by omega
end Go.Proofs.YtmkpaolbejlodaaDoor
