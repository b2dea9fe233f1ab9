/-
  Contracts of the network chapter (XNet12).
-/
import Derived.Test.YtmaaniogcmlfbaaNet10
namespace Go.Proofs.Ytmaaniogcmlfbaa
open Go.RowKit

set_option maxRecDepth 100000 in
set_option maxHeartbeats 800000 in
theorem altered_no {S : Nat → Prop} {i : Nat} {n : Nt} {p : Pk} {A : Option Addr} {c : Nat} (by_ : Int) (w : World)
    (h : Sl pkE S w A c n.way) (hi : n.way[i]? = some p) (hno : p.b.length = 0 ∨ by_ < 0) :
    Calls Try.prog 31 #[.agg #[.int .i64 n.now, .slice A n.way.length c], .int .i64 i, .int .i64 by_] w fun e w' =>
      e = .returned (.agg #[.int .i64 n.now, .slice A n.way.length c]) ∧ Below w.heap.size w w' := by
  have hil := (List.getElem?_eq_some_iff.1 hi).1
  obtain ⟨b1, o1, B1, d1, rfl, hSb, hb1, x0, x1, x2, x3, hs1⟩ := pk_at h hi
  clear h hi hs1
  have hj0 : (0 : Int) ≤ (i : Int) := by omega
  have hj1 : (i : Int) < (n.way.length : Int) := by omega
  by_cases h0 : p.b.length = 0
  · have h0' : ((p.b.length : Int) == 0) = true := by rw [h0]; rfl
    clear h0 hno
    go_enter Try.func31, Try.ntmps31
    go_wp2_with fail
    exact bodyPost_ret (v := .agg #[.int .i64 n.now, .slice (some ⟨b1, o1, none⟩) n.way.length c]) (by simp [results, Try.results31, go_sem]) rfl ⟨rfl, (by repeat' (first | with_reducible exact Below.refl _ _ | with_reducible assumption | with_reducible refine Below.setCell ?_ ?_ _ | with_reducible refine Below.drew ?_ | with_reducible refine below_drewN ?_ _ | with_reducible refine Below.alloc ?_ ?_ _ | (rintro _ ⟨⟩; simp <;> omega) | omega | (simp <;> omega)))⟩
  · have hby : by_ < 0 := by omega
    have h0' : ((p.b.length : Int) == 0) = false := by rw [beq_eq_false_iff_ne]; omega
    clear h0 hno
    go_enter Try.func31, Try.ntmps31
    go_wp2_with fail
    exact bodyPost_ret (v := .agg #[.int .i64 n.now, .slice (some ⟨b1, o1, none⟩) n.way.length c]) (by simp [results, Try.results31, go_sem]) rfl ⟨rfl, (by repeat' (first | with_reducible exact Below.refl _ _ | with_reducible assumption | with_reducible refine Below.setCell ?_ ?_ _ | with_reducible refine Below.drew ?_ | with_reducible refine below_drewN ?_ _ | with_reducible refine Below.alloc ?_ ?_ _ | (rintro _ ⟨⟩; simp <;> omega) | omega | (simp <;> omega)))⟩

theorem setCell_same {w : World} {b o : Nat} {u : Value} (h : w.cell? ⟨b, o, none⟩ = some u) : w.setCell ⟨b, o, none⟩ u = w := by
  have hh : (w.setCell ⟨b, o, none⟩ u).heap = w.heap := by
    apply Array.ext_getElem?
    intro j
    simp only [World.setCell, Array.getElem?_modify]
    by_cases hj : b = j
    · subst hj
      rw [if_pos rfl]
      unfold World.cell? at h
      cases hb : w.heap[b]? with
      | none => rw [hb] at h; cases h
      | some ob =>
        rw [hb] at h
        cases ob <;> simp at h ⊢
        rename_i cs e f
        apply Array.ext_getElem?
        intro k
        rw [Array.getElem?_setIfInBounds]
        split
        · rename_i hk
          subst hk
          split
          · exact h.symm
          · rename_i hlt; rw [Array.getElem?_eq_none (by omega)]
        · rfl
    · rw [if_neg hj]
  show { w with heap := (w.setCell ⟨b, o, none⟩ u).heap } = w
  rw [hh]

set_option maxRecDepth 100000 in
set_option maxHeartbeats 800000 in
theorem altered_do {S : Nat → Prop} {i : Nat} {n : Nt} {p : Pk} {A : Option Addr} {c : Nat} (by_ : Int) (w : World)
    (h : Sl pkE S w A c n.way) (hi : n.way[i]? = some p) (hl : p.b.length ≤ 4294967296) (hlw : n.way.length ≤ 4294967296) (hpos : 0 < p.b.length) (hby : 0 ≤ by_) :
    Calls Try.prog 31 #[.agg #[.int .i64 n.now, .slice A n.way.length c], .int .i64 i, .int .i64 by_] w fun e w' =>
      ∃ A' c', e = .returned (.agg #[.int .i64 n.now, .slice A' (alterF n i p by_).way.length c']) ∧ Sl pkE (Fresh S w) w' A' c' (alterF n i p by_).way ∧ Below w.heap.size w w' := by
  have hil := (List.getElem?_eq_some_iff.1 hi).1
  obtain ⟨b1, o1, B1, d1, rfl, hSb, hb1, x0, x1, x2, x3, hs1⟩ := pk_at h hi
  have Hs1 := Lib.hid hs1
  have H := Lib.hid h
  have Hi := Lib.hid hi
  clear h hi hs1
  have hj0 : (0 : Int) ≤ (i : Int) := by omega
  have hj1 : (i : Int) < (n.way.length : Int) := by omega
  have h0' : ((p.b.length : Int) == 0) = false := by rw [beq_eq_false_iff_ne]; omega
  have hby' : ¬ by_ < 0 := by omega
  have hr1 : (0 : Int) ≤ by_ % (p.b.length : Int) := Int.emod_nonneg _ (by omega)
  have hr2 : by_ % (p.b.length : Int) < (p.b.length : Int) := Int.emod_lt_of_pos _ (by omega)
  obtain ⟨k, hk⟩ : ∃ k : Nat, by_ % (p.b.length : Int) = k := ⟨(by_ % (p.b.length : Int)).toNat, by omega⟩
  have hkl : k < p.b.length := by omega
  have k0 : Keep (w.heap.size + 2) [(w.heap.size + 1, 2)] ((w.alloc (.cells #[.int .i64 n.now, .slice (some ⟨b1, o1, none⟩) n.way.length c] 26)).alloc (.cells #[.int .i64 0, .slice none 0 0] 26)) ((w.alloc (.cells #[.int .i64 n.now, .slice (some ⟨b1, o1, none⟩) n.way.length c] 26)).alloc (.cells #[.int .i64 0, .slice none 0 0] 26)) := Keep.start1 (by simp) rfl rfl
  have hb0 : Below w.heap.size w ((w.alloc (.cells #[.int .i64 n.now, .slice (some ⟨b1, o1, none⟩) n.way.length c] 26)).alloc (.cells #[.int .i64 0, .slice none 0 0] 26)) := (by repeat' (first | with_reducible exact Below.refl _ _ | with_reducible assumption | with_reducible refine Below.setCell ?_ ?_ _ | with_reducible refine Below.drew ?_ | with_reducible refine below_drewN ?_ _ | with_reducible refine Below.alloc ?_ ?_ _ | (rintro _ ⟨⟩; simp <;> omega) | omega | (simp <;> omega)))
  have K0 := Lib.hid k0
  have Hb0 := Lib.hid hb0
  clear k0 hb0
  go_enter Try.func31, Try.ntmps31
  go_wp2_with (go_at_call 30; refine (copied_any (S := fun b => S b ∧ b < w.heap.size) _ _ _ _ (Hs1.out.old.keep (Below.agree Hb0.out)) hl).mono ?_; rintro e w1 ⟨A3, c3, rfl, hown1, hb1'⟩; obtain ⟨g3, rfl, hg3, hg3lt, -⟩ := hown1.block hpos)
  simp at hg3
  have hcell := u8_cell hown1 hkl
  have hfr := hown1.frozen k
  have Hk := Lib.hid hk
  have Hown1 := Lib.hid hown1
  have H1 := Lib.hid hb1'
  have hmod : by_ % (p.b.length : Int) = (k : Int) := hk
  clear hown1 hb1' hk
  go_region
  rw [← altU_val]
  have hzV : w1.heap.size = (w1.setCell ⟨g3, k, none⟩ (.int .u8 ((altU p.b[k] by_ p.b.length).toNat : Int))).heap.size := by simp [World.setCell]
  have hz1 : w.heap.size + 2 ≤ w1.heap.size := by have := H1.out.size; simp at this; omega
  have kV : Keep (w.heap.size + 2) [(w.heap.size + 1, 2)] ((w.alloc (.cells #[.int .i64 n.now, .slice (some ⟨b1, o1, none⟩) n.way.length c] 26)).alloc (.cells #[.int .i64 0, .slice none 0 0] 26)) (w1.setCell ⟨g3, k, none⟩ (.int .u8 ((altU p.b[k] by_ p.b.length).toNat : Int))) := (K0.out.call H1.out).setFar ⟨by simp; omega, by simp; omega⟩ _
  have k4 : Keep (w.heap.size + 2) [(w.heap.size + 1, 2)] ((w.alloc (.cells #[.int .i64 n.now, .slice (some ⟨b1, o1, none⟩) n.way.length c] 26)).alloc (.cells #[.int .i64 0, .slice none 0 0] 26)) ((w1.setCell ⟨g3, k, none⟩ (.int .u8 ((altU p.b[k] by_ p.b.length).toNat : Int))).alloc (.cells #[.int .i64 p.fr, .int .i64 p.to_, .int .i64 p.at_, .slice (some ⟨g3, 0, none⟩) p.b.length c3] 32)) := kV.alloc _
  have own4 : Own .u8 (fun _ => False) ((w1.setCell ⟨g3, k, none⟩ (.int .u8 ((altU p.b[k] by_ p.b.length).toNat : Int))).alloc (.cells #[.int .i64 p.fr, .int .i64 p.to_, .int .i64 p.at_, .slice (some ⟨g3, 0, none⟩) p.b.length c3] 32)) (w.heap.size + 2) 5 (.slice (some ⟨g3, 0, none⟩) p.b.length c3) (altB by_ p.b) := by
    have h1 := (u8_store (k := k) Hown1.out (altU p.b[k] by_ p.b.length)).u8any (T := fun _ => False)
    have h2 : altB by_ p.b = p.b.set k (altU p.b[k] by_ p.b.length) := by
      unfold altB
      rw [Hk.out, Int.toNat_natCast, List.getD_eq_getElem?_getD, List.getElem?_eq_getElem hkl]
      rfl
    rw [h2]
    exact (h1.lower (by simp)).alloc _
  have hb4 : Below w.heap.size w ((w1.setCell ⟨g3, k, none⟩ (.int .u8 ((altU p.b[k] by_ p.b.length).toNat : Int))).alloc (.cells #[.int .i64 p.fr, .int .i64 p.to_, .int .i64 p.at_, .slice (some ⟨g3, 0, none⟩) p.b.length c3] 32)) := ((Hb0.out.trans (H1.out.mono (by simp <;> omega))).setCell (by simp; omega) _).alloc (by simp [World.setCell]; omega) _
  have hbox := heap_alloc_at (o := .cells #[.int .i64 p.fr, .int .i64 p.to_, .int .i64 p.at_, .slice (some ⟨g3, 0, none⟩) p.b.length c3] 32) hzV
  have y0 := cell_of_row _ _ 0 _ _ _ hbox
  have y1 := cell_of_row _ _ 1 _ _ _ hbox
  have y2 := cell_of_row _ _ 2 _ _ _ hbox
  have y3 := cell_of_row _ _ 3 _ _ _ hbox
  have hz4 : w1.heap.size < ((w1.setCell ⟨g3, k, none⟩ (.int .u8 ((altU p.b[k] by_ p.b.length).toNat : Int))).alloc (.cells #[.int .i64 p.fr, .int .i64 p.to_, .int .i64 p.at_, .slice (some ⟨g3, 0, none⟩) p.b.length c3] 32)).heap.size := heap_lt hbox
  simp only [List.getElem?_toArray, List.getElem?_cons_zero, List.getElem?_cons_succ] at y0 y1 y2 y3
  clear kV hbox hzV
  generalize ((w1.setCell ⟨g3, k, none⟩ (.int .u8 ((altU p.b[k] by_ p.b.length).toNat : Int))).alloc (.cells #[.int .i64 p.fr, .int .i64 p.to_, .int .i64 p.at_, .slice (some ⟨g3, 0, none⟩) p.b.length c3] 32)) = W4 at *
  have HbW4 := Lib.hid hb4
  have Own4 := Lib.hid own4
  have hz40 : w.heap.size < W4.heap.size := by have := k4.le; omega
  have hz41 : w.heap.size + 1 < W4.heap.size := by have := k4.le; omega
  clear hb4 own4 hcell hfr
  generalize w1.heap.size = gb at *
  have hlw0 : 0 < n.way.length := by omega
  have r1 := Keep.cell (w.heap.size + 2) [(w.heap.size + 1, 2)] ((w.alloc (.cells #[.int .i64 n.now, .slice (some ⟨b1, o1, none⟩) n.way.length c] 26)).alloc (.cells #[.int .i64 0, .slice none 0 0] 26))
  have r2 := Keep.frozen (w.heap.size + 2) [(w.heap.size + 1, 2)] ((w.alloc (.cells #[.int .i64 n.now, .slice (some ⟨b1, o1, none⟩) n.way.length c] 26)).alloc (.cells #[.int .i64 0, .slice none 0 0] 26))
  have r3 := Keep.boxCell (w.heap.size + 2) [(w.heap.size + 1, 2)] ((w.alloc (.cells #[.int .i64 n.now, .slice (some ⟨b1, o1, none⟩) n.way.length c] 26)).alloc (.cells #[.int .i64 0, .slice none 0 0] 26))
  have r4 := Keep.boxFrozen (w.heap.size + 2) [(w.heap.size + 1, 2)] ((w.alloc (.cells #[.int .i64 n.now, .slice (some ⟨b1, o1, none⟩) n.way.length c] 26)).alloc (.cells #[.int .i64 0, .slice none 0 0] 26))
  have hab : (altB by_ p.b).length = p.b.length := by simp [altB]
  have Hab := Lib.hid hab
  clear hab
  have hg3W : g3 < W4.heap.size := by have := (Own4.out.lt g3 rfl).2; omega
  have hs4 : pkE.rep (fun b => (S b ∧ b < w.heap.size) ∨ b = g3) W4 [.int .i64 p.fr, .int .i64 p.to_, .int .i64 p.at_, .slice (some ⟨g3, 0, none⟩) p.b.length c3] { p with b := altB by_ p.b } := by
    have h1 := pkE_shut (p := { p with b := altB by_ p.b }) (Own.toSl Own4.out (T := fun b => (S b ∧ b < w.heap.size) ∨ b = g3) (fun _ h _ => False.elim h) (fun b _ _ hb => .inr (by simp [Value.ownBlock] at hb; exact hb.symm)))
    simp only [Hab.out] at h1
    exact h1
  have Hs4 := Lib.hid hs4
  clear hs4
  go_wp2_with (first
    | (at_builtin; (refine wpList_append_E rfl (.tmp 50) (.tmp 52) rfl pksT (base := W4.heap.size) (v := .slice (some ⟨W4.heap.size, 0, none⟩) 0 0) rfl rfl rfl (nz := n.way.length) rfl (Own.litAt pkE _ _ _ rfl (Nat.le_refl _)).drew ((H.out.old.keep (Below.agree HbW4.out)).keep (((Agree.refl _ _).alloc _).drew)) (by unfold maxLen; simp; omega) (by simp; omega) (by simp) (by rintro g ⟨⟩ hg; have h2 : W4.heap.size < w.heap.size := hg.2; omega) ?_); intro A5 c5 w5 hown5 hg5 _; ( obtain ⟨g5, rfl, hge5, hlt5, -⟩ := hown5.block hlw0; have k5 : Keep (w.heap.size + 2) [(w.heap.size + 1, 2)] ((w.alloc (.cells #[.int .i64 n.now, .slice (some ⟨b1, o1, none⟩) n.way.length c] 26)).alloc (.cells #[.int .i64 0, .slice none 0 0] 26)) w5 := ((k4.alloc _).drew).grown hg5 (by rintro _ ⟨⟩; simp; omega); obtain ⟨hc5, hf5⟩ := gcell hg5 (by simp); have ag5 : Agree (fun b => (S b ∧ b < w.heap.size) ∨ b = g3) W4 w5 := (((Agree.refl _ _).alloc _).drew).grown hg5 (by rintro _ ⟨⟩ (⟨_, h⟩ | h) <;> simp at h <;> omega); have Hown5 := Lib.hid hown5; have Hg5 := Lib.hid hg5; clear hown5 hg5))
    | (refine wpList_store_E (S := fun b => (S b ∧ b < w.heap.size) ∨ b = g3) rfl (.tmp 57) (.tmp 56) rfl pksT (Hown5.out.sub fun _ hb _ => .inl hb) hil rfl rfl rfl rfl (pkE.keep Hs4.out ag5) (by rintro (⟨_, h⟩ | h) <;> omega) ?_; intro w6 hown6 hg6; have k6 : Keep (w.heap.size + 2) [(w.heap.size + 1, 2)] ((w.alloc (.cells #[.int .i64 n.now, .slice (some ⟨b1, o1, none⟩) n.way.length c] 26)).alloc (.cells #[.int .i64 0, .slice none 0 0] 26)) w6 := k5.grown hg6 (by rintro _ ⟨⟩; simp; omega)))
  have hlen : (alterF n i p by_).way.length = n.way.length := by simp [alterF]
  have hb5 : Below W4.heap.size W4 w5 := (((Below.refl W4.heap.size W4).alloc (Nat.le_refl _) _).drew).grown Hg5.out (by simp) (by rintro _ ⟨⟩; exact Nat.le_refl _)
  have hb6 : Below w.heap.size w w6 := (HbW4.out.trans (hb5.mono (by omega))).grown hg6 (by have := hb5.size; omega) (by rintro _ ⟨⟩; omega)
  refine bodyPost_ret (v := .agg #[.int .i64 n.now, .slice (some ⟨g5, 0, none⟩) n.way.length c5]) (by simp [results, Try.results31, go_sem, r3, k6]) rfl ⟨some ⟨g5, 0, none⟩, c5, by rw [hlen], ?_, ?_⟩
  · refine Own.toSl (xs := (alterF n i p by_).way) (hown6.only (g := w.heap.size + 1) (by repeat' (first | with_reducible exact Agree.refl _ _ | with_reducible assumption | with_reducible refine Agree.set ?_ ?_ _ | with_reducible refine Agree.alloc ?_ _ | with_reducible refine Agree.drew ?_ | with_reducible refine Agree.drewN ?_ _ | omega | (simp <;> omega))) (by omega) (by rintro (⟨_, h⟩ | h) <;> omega)) (fun b hb _ => ?_) (fun b hb _ _ => .inr (by omega))
    rcases hb with hb | hb
    · exact .inl hb.1
    · exact .inr (by omega)
  · exact (by repeat' (first | with_reducible exact Below.refl _ _ | with_reducible assumption | with_reducible refine Below.setCell ?_ ?_ _ | with_reducible refine Below.drew ?_ | with_reducible refine below_drewN ?_ _ | with_reducible refine Below.alloc ?_ ?_ _ | (rintro _ ⟨⟩; simp <;> omega) | omega | (simp <;> omega)))
end Go.Proofs.Ytmaaniogcmlfbaa
