/-
  Contracts of the readings (XRd5): Clone, Retract.
-/
import Derived.Test.YtlolppjnpmdpgaaRd4
namespace Go.Proofs.Ytlolppjnpmdpgaa
open Go.RowKit

theorem bool_cells {S : Nat → Prop} {w : World} : ∀ {l : List Bool} {cs : List Value}, Elems .bool S w cs l → cs = l.map Value.bool
  | [], _, h => h
  | b :: l, _, ⟨c, d, e, h1, h2⟩ => by
    have h1' : c = [.bool b] := h1
    rw [e, h1', bool_cells h2]; rfl
theorem bool_elems {S : Nat → Prop} {w : World} : ∀ (l : List Bool), Elems .bool S w (l.map Value.bool) l
  | [] => rfl
  | _ :: l => ⟨[_], _, rfl, rfl, bool_elems l⟩
theorem bool_store {S : Nat → Prop} {w : World} {base n c g k : Nat} {e : TypeId} {l : List Bool} (h : Own .bool S w base e (.slice (some ⟨g, 0, none⟩) n c) l) (u : Bool) :
    Own .bool S (w.setCell ⟨g, k, none⟩ (.bool u)) base e (.slice (some ⟨g, 0, none⟩) n c) (l.set k u) := by
  refine ((h.flat bool_flat (T := fun _ => False)).stored (ys := l.set k u) (fun h => h) (by simp) (fun cs hel => ?_) rfl).flat bool_flat
  rw [bool_cells hel, ← List.map_set]
  exact bool_elems _
theorem bool_cell {S : Nat → Prop} {w : World} {base n c g k : Nat} {e : TypeId} {l : List Bool} (h : Own .bool S w base e (.slice (some ⟨g, 0, none⟩) n c) l) (hk : k < l.length) :
    w.cell? ⟨g, k, none⟩ = some (.bool (l.getD k false)) := by
  obtain ⟨cs, hr, hc⟩ := h.at_ (k := k) (List.getElem?_eq_getElem hk)
  cases hr
  have h1 := hc 0 _ rfl
  simp only [List.getD_eq_getElem?_getD, List.getElem?_eq_getElem hk, Option.getD_some]
  simpa [Enc.bool] using h1

theorem eqNilBool (w : World) (a : Option Addr) (n c : Nat) : (binOp .eql 28 (.slice a n c) (.slice none 0 0)).run Try.prog w = .ok (.bool a.isNone) w := Lib.run_eql_slice_nil (P := Try.prog) w _ _ a n c 0 0 Try.underlying28

theorem cloneBool {S : Nat → Prop} {A : Option Addr} {c : Nat} {l : List Bool} (w : World) (h : Sl .bool S w A c l) (hl : l.length ≤ 1000) :
    Calls Try.prog 44 #[.slice A l.length c] w fun e w' => ∃ A' c', e = .returned (.slice A' l.length c') ∧ Own .bool (fun _ => False) w' w.heap.size 4 (.slice A' l.length c') l ∧ Below w.heap.size w w' := by
  have hn := eqNilBool
  have H := Lib.hid (h.old.sub (T := fun b => b < w.heap.size) fun b hb _ => hb.2)
  rcases A with _ | a
  · have hl0 : l = [] := by
      obtain ⟨_, _, cs, hr, he⟩ := h
      rcases l with _ | ⟨x, l⟩
      · rfl
      · obtain ⟨d, ds, rfl, hd, _⟩ := he
        cases hd
        obtain ⟨a, ha, _⟩ := hr (by simp)
        cases ha
    subst hl0
    clear H h
    go_enter Try.func44, Try.ntmps44
    go_wp2_with fail
    go_ret
    exact ⟨_, _, rfl, Own.nil_ _ _ _ _ _, Below.refl _ _⟩
  · clear h
    go_enter Try.func44, Try.ntmps44
    go_wp2_with (at_builtin; refine wpList_append_E (S := fun b => b < w.heap.size) rfl (.tmp 5) (.tmp 6) rfl boolsT (base := w.heap.size) (v := .slice (some ⟨w.heap.size, 0, none⟩) 0 0) (xs := []) (ys := l) (by rfl) (by rfl) rfl (nz := l.length) (by simp) (Own.lit0 _ _ _ _ (Nat.le_refl _)) (H.out.keep ((Agree.refl _ _).alloc _)) (by unfold maxLen; simp; omega) (by simp; omega) (by simp) (by rintro g ⟨⟩ h; exact Nat.lt_irrefl _ h) ?_; intro A1 c1 w1 hown1 hg1 _)
    go_ret
    exact ⟨A1, c1, rfl, Own.flat bool_flat hown1, ((Below.refl _ _).alloc (Nat.le_refl _) _).grown hg1 (by simp) (by rintro k ⟨⟩; exact Nat.le_refl _)⟩

theorem retractP_none {s : Str} {A B : Option Addr} {c d : Nat} {S : Nat → Prop} (i : Int) (w : World) (hi : i < 0 ∨ (s.l.length : Int) ≤ i) :
    Calls Try.prog 14 #[.agg #[.slice A s.l.length c, .slice B s.g.length d], .int .i64 i] w (StRes S w (retractF s i)) := by
  have ht : retractF s i = (emptyStr, 4) := by unfold retractF; rw [if_pos hi]
  rw [ht]
  rcases hi with hi | hi
  · go_enter Try.func14, Try.ntmps14
    go_wp2_with fail
    exact bodyPost_ret (v := .tuple #[.agg #[.slice none 0 0, .slice none 0 0], .int .i64 4]) (by simp [results, Try.results14, go_sem, *]) rfl (StRes.none rfl (by repeat' (first | with_reducible exact Below.refl _ _ | with_reducible assumption | with_reducible refine Below.setCell ?_ ?_ _ | with_reducible refine Below.drew ?_ | with_reducible refine below_drewN ?_ _ | with_reducible refine Below.alloc ?_ ?_ _ | (rintro _ ⟨⟩; simp <;> omega) | omega | (simp <;> omega))))
  · have h1 : 0 ≤ i := by omega
    go_enter Try.func14, Try.ntmps14
    go_wp2_with fail
    exact bodyPost_ret (v := .tuple #[.agg #[.slice none 0 0, .slice none 0 0], .int .i64 4]) (by simp [results, Try.results14, go_sem, *]) rfl (StRes.none rfl (by repeat' (first | with_reducible exact Below.refl _ _ | with_reducible assumption | with_reducible refine Below.setCell ?_ ?_ _ | with_reducible refine Below.drew ?_ | with_reducible refine below_drewN ?_ _ | with_reducible refine Below.alloc ?_ ?_ _ | (rintro _ ⟨⟩; simp <;> omega) | omega | (simp <;> omega))))
theorem retractP_gone {s : Str} {A B : Option Addr} {c d i : Nat} {S : Nat → Prop} (w : World) (k : Sl .bool S w B d s.g) (hl : i < s.l.length) (hg : s.g.length = s.l.length) (hi : s.g[i]? = some true) :
    Calls Try.prog 14 #[.agg #[.slice A s.l.length c, .slice B s.g.length d], .int .i64 i] w (StRes S w (retractF s i)) := by
  have ht : retractF s i = (emptyStr, 120) := by unfold retractF; rw [if_neg (by omega), if_pos (by simp [List.getD_eq_getElem?_getD, hi])]
  rw [ht]
  have hm := k.max
  have hcm := k.capMax
  have hle := k.le
  obtain ⟨b1, o1, rfl, -, hb1, x0⟩ := bool_at k hi
  have h0 : (0 : Int) ≤ (i : Int) := by omega
  have h1 : (i : Int) < (s.l.length : Int) := by omega
  have h2 : (i : Int) < (s.g.length : Int) := by omega
  clear hi k hg
  go_enter Try.func14, Try.ntmps14
  go_wp2_with fail
  exact bodyPost_ret (v := .tuple #[.agg #[.slice none 0 0, .slice none 0 0], .int .i64 120]) (by simp [results, Try.results14, go_sem, *]) rfl (StRes.none rfl (by repeat' (first | with_reducible exact Below.refl _ _ | with_reducible assumption | with_reducible refine Below.setCell ?_ ?_ _ | with_reducible refine Below.drew ?_ | with_reducible refine below_drewN ?_ _ | with_reducible refine Below.alloc ?_ ?_ _ | (rintro _ ⟨⟩; simp <;> omega) | omega | (simp <;> omega))))
theorem retractR_none {s : Str} {A B : Option Addr} {c d : Nat} {S : Nat → Prop} (i : Int) (w : World) (hi : i < 0 ∨ (s.l.length : Int) ≤ i) :
    Calls Try.prog 15 #[.agg #[.slice A s.l.length c, .slice B s.g.length d], .int .i64 i] w (StRes S w (retractF s i)) := by
  have ht : retractF s i = (emptyStr, 4) := by unfold retractF; rw [if_pos hi]
  rw [ht]
  rcases hi with hi | hi
  · go_enter Try.func15, Try.ntmps15
    go_wp2_with fail
    exact bodyPost_ret (v := .tuple #[.agg #[.slice none 0 0, .slice none 0 0], .int .i64 4]) (by simp [results, Try.results15, go_sem, *]) rfl (StRes.none rfl (by repeat' (first | with_reducible exact Below.refl _ _ | with_reducible assumption | with_reducible refine Below.setCell ?_ ?_ _ | with_reducible refine Below.drew ?_ | with_reducible refine below_drewN ?_ _ | with_reducible refine Below.alloc ?_ ?_ _ | (rintro _ ⟨⟩; simp <;> omega) | omega | (simp <;> omega))))
  · have h1 : 0 ≤ i := by omega
    go_enter Try.func15, Try.ntmps15
    go_wp2_with fail
    exact bodyPost_ret (v := .tuple #[.agg #[.slice none 0 0, .slice none 0 0], .int .i64 4]) (by simp [results, Try.results15, go_sem, *]) rfl (StRes.none rfl (by repeat' (first | with_reducible exact Below.refl _ _ | with_reducible assumption | with_reducible refine Below.setCell ?_ ?_ _ | with_reducible refine Below.drew ?_ | with_reducible refine below_drewN ?_ _ | with_reducible refine Below.alloc ?_ ?_ _ | (rintro _ ⟨⟩; simp <;> omega) | omega | (simp <;> omega))))
theorem retractR_gone {s : Str} {A B : Option Addr} {c d i : Nat} {S : Nat → Prop} (w : World) (k : Sl .bool S w B d s.g) (hl : i < s.l.length) (hg : s.g.length = s.l.length) (hi : s.g[i]? = some true) :
    Calls Try.prog 15 #[.agg #[.slice A s.l.length c, .slice B s.g.length d], .int .i64 i] w (StRes S w (retractF s i)) := by
  have ht : retractF s i = (emptyStr, 120) := by unfold retractF; rw [if_neg (by omega), if_pos (by simp [List.getD_eq_getElem?_getD, hi])]
  rw [ht]
  have hm := k.max
  have hcm := k.capMax
  have hle := k.le
  obtain ⟨b1, o1, rfl, -, hb1, x0⟩ := bool_at k hi
  have h0 : (0 : Int) ≤ (i : Int) := by omega
  have h1 : (i : Int) < (s.l.length : Int) := by omega
  have h2 : (i : Int) < (s.g.length : Int) := by omega
  clear hi k hg
  go_enter Try.func15, Try.ntmps15
  go_wp2_with fail
  exact bodyPost_ret (v := .tuple #[.agg #[.slice none 0 0, .slice none 0 0], .int .i64 120]) (by simp [results, Try.results15, go_sem, *]) rfl (StRes.none rfl (by repeat' (first | with_reducible exact Below.refl _ _ | with_reducible assumption | with_reducible refine Below.setCell ?_ ?_ _ | with_reducible refine Below.drew ?_ | with_reducible refine below_drewN ?_ _ | with_reducible refine Below.alloc ?_ ?_ _ | (rintro _ ⟨⟩; simp <;> omega) | omega | (simp <;> omega))))

set_option maxHeartbeats 1000000 in
theorem retractP_ok {s : Str} {A B : Option Addr} {c d i : Nat} {S : Nat → Prop} (w : World) (h : Sl rdE S w A c s.l) (k : Sl .bool S w B d s.g) (hl : i < s.l.length) (hg : s.g.length = s.l.length) (hl2 : s.l.length ≤ 1000) (hi : s.g[i]? = some false) :
    Calls Try.prog 14 #[.agg #[.slice A s.l.length c, .slice B s.g.length d], .int .i64 i] w (StRes S w (retractF s i)) := by
  have ht : retractF s i = (⟨s.l, s.g.set i true⟩, 0) := by unfold retractF; rw [if_neg (by omega), if_neg (by simp [List.getD_eq_getElem?_getD, hi])]; simp
  rw [ht]
  have hm := k.max
  have hcm := k.capMax
  have hle := k.le
  have hg1000 : s.g.length ≤ 1000 := by omega
  obtain ⟨b1, o1, rfl, -, hb1, x0⟩ := bool_at k hi
  have h0 : (0 : Int) ≤ (i : Int) := by omega
  have h1 : (i : Int) < (s.l.length : Int) := by omega
  have h2 : (i : Int) < (s.g.length : Int) := by omega
  have hig : i < s.g.length := by omega
  have Hg := Lib.hid hg
  have K := Lib.hid k
  have H := Lib.hid h
  clear hi k hg ht h
  go_enter Try.func14, Try.ntmps14
  go_wp2_with (go_at_call 44; refine (cloneBool (S := S) _ (K.out.keep (by repeat' (first | with_reducible exact Agree.refl _ _ | with_reducible assumption | with_reducible refine Agree.alloc ?_ _ | with_reducible refine Agree.drew ?_ | with_reducible refine Agree.drewN ?_ _ | with_reducible refine Agree.call ?_ (by with_reducible assumption)))) hg1000).mono ?_; rintro e w1 ⟨A1, c1, rfl, hown1, hb1⟩; have bz_hb1 := hb1.size; simp [World.setCell] at bz_hb1; have bl0_hb1 : w.heap.size < w1.heap.size := (by omega); have bk0_hb1 : w.heap.size < w.heap.size + 1 + 1 := (by omega); have bl1_hb1 : w.heap.size + 1 < w1.heap.size := (by omega); have bk1_hb1 : w.heap.size + 1 < w.heap.size + 1 + 1 := (by omega); obtain ⟨hc_hb1, hf_hb1⟩ := bcellk (k := w.heap.size + 1 + 1) hb1 (by simp [World.setCell]); obtain ⟨g, rfl, hbg, hgl, -⟩ := Own.block hown1 (by omega); have hx := bool_cell hown1 hig; have hfx := hown1.frozen i; simp at hbg; have hn1 : g ≠ w.heap.size := (by omega); have hn2 : g ≠ w.heap.size + 1 := (by omega); have hn3 : w.heap.size ≠ g := (by omega); have hn4 : w.heap.size + 1 ≠ g := (by omega); have Ho := Lib.hid hown1; clear hown1)
  have b1 : Below w.heap.size w w1 := (by repeat' (first | with_reducible exact Below.refl _ _ | with_reducible assumption | with_reducible refine Below.trans ?_ (Below.mono hb1 ?_) | with_reducible refine Below.setCell ?_ ?_ _ | with_reducible refine Below.drew ?_ | with_reducible refine below_drewN ?_ _ | with_reducible refine Below.alloc ?_ ?_ _ | (rintro _ ⟨⟩; simp <;> omega) | omega | (simp <;> omega)))
  refine bodyPost_ret (v := .tuple #[.agg #[.slice A s.l.length c, .slice (some ⟨g, 0, none⟩) s.g.length c1], .int .i64 0]) (by simp [results, Try.results14, go_sem, *]) rfl ⟨A, c, some ⟨g, 0, none⟩, c1, by simp, ?_, ?_, ((b1.setCell (by show w.heap.size ≤ g; omega) _).setCell (by simp) _).setCell (by simp) _⟩
  · exact (((H.out.old.keep (Below.agree b1)).keep (((Agree.refl _ _).set (fun h => absurd h.2 (by show ¬ g < w.heap.size; omega)) _).set (fun h => absurd h.2 (by show ¬ w.heap.size + 1 < w.heap.size; omega)) _ |>.set (fun h => absurd h.2 (by show ¬ w.heap.size + 1 < w.heap.size; omega)) _)).sub fun b hb _ => .inl hb.1)
  · have h9 := bool_store (k := i) Ho.out true
    exact ((h9.set (p := ⟨w.heap.size + 1, 0, none⟩) (fun e => hn2 (Option.some.inj e)) (fun h => h) _).set (p := ⟨w.heap.size + 1, 1, none⟩) (fun e => hn2 (Option.some.inj e)) (fun h => h) _).flatSl bool_flat (fun b hb => .inr (by simp at hb; omega))

set_option maxHeartbeats 1000000 in
theorem retractR_ok {s : Str} {A B : Option Addr} {c d i : Nat} {S : Nat → Prop} (w : World) (h : Sl rdE S w A c s.l) (k : Sl .bool S w B d s.g) (hl : i < s.l.length) (hg : s.g.length = s.l.length) (hl2 : s.l.length ≤ 1000) (hi : s.g[i]? = some false) :
    Calls Try.prog 15 #[.agg #[.slice A s.l.length c, .slice B s.g.length d], .int .i64 i] w (StRes S w (retractF s i)) := by
  have ht : retractF s i = (⟨s.l, s.g.set i true⟩, 0) := by unfold retractF; rw [if_neg (by omega), if_neg (by simp [List.getD_eq_getElem?_getD, hi])]; simp
  rw [ht]
  have hm := k.max
  have hcm := k.capMax
  have hle := k.le
  have hg1000 : s.g.length ≤ 1000 := by omega
  obtain ⟨b1, o1, rfl, -, hb1, x0⟩ := bool_at k hi
  have h0 : (0 : Int) ≤ (i : Int) := by omega
  have h1 : (i : Int) < (s.l.length : Int) := by omega
  have h2 : (i : Int) < (s.g.length : Int) := by omega
  have hig : i < s.g.length := by omega
  have Hg := Lib.hid hg
  have K := Lib.hid (k.old.sub (T := fun b => b < w.heap.size) fun b hb _ => hb.2)
  have H := Lib.hid (h.old.sub (T := fun b => b < w.heap.size) fun b hb _ => hb.2)
  clear hi k hg ht h
  go_enter Try.func15, Try.ntmps15
  go_wp2_with (first
    | (at_builtin; refine wpList_append_E (S := fun b => b < w.heap.size) rfl (.tmp 23) (.tmp 25) rfl boolsT (base := w.heap.size + 1 + 1) (v := .slice (some ⟨w.heap.size + 1 + 1, 0, none⟩) 0 0) (xs := []) (ys := s.g) (by rfl) (by rfl) rfl (nz := s.g.length) (by simp) (Own.litAt _ _ _ _ (by simp) (Nat.le_refl _)) (K.out.keep (by repeat' (first | with_reducible exact Agree.refl _ _ | with_reducible assumption | with_reducible refine Agree.alloc ?_ _ | with_reducible refine Agree.drew ?_ | with_reducible refine Agree.drewN ?_ _ | with_reducible refine Agree.call ?_ (by with_reducible assumption)))) (by unfold maxLen; simp; omega) (by simp; omega) (by simp) (by rintro g ⟨⟩ h; simp at h; omega) ?_; go_must ((intro A1 c1 w1 hown1 hg1 hor1; have hz1 := hg1.size; simp at hz1; obtain ⟨hc1, hf1⟩ := gcell (g := w.heap.size + 1 + 1) hg1 (by simp); have Ho1 : Own .bool (fun _ => False) w1 (w.heap.size + 1 + 1) 4 (.slice A1 s.g.length c1) s.g := Own.flat bool_flat hown1; obtain ⟨g, rfl, hbg, hgl, -⟩ := Own.block Ho1 (by omega); have hx := bool_cell Ho1 hig; have hfx := Ho1.frozen i; have hn1 : g ≠ w.heap.size := (by omega); have hn2 : g ≠ w.heap.size + 1 := (by omega); have hn3 : w.heap.size ≠ g := (by omega); have hn4 : w.heap.size + 1 ≠ g := (by omega); have Ho := Lib.hid Ho1; have ls1 : w.heap.size < w1.heap.size := (by omega); have ls2 : w.heap.size + 1 < w1.heap.size := (by omega); have ls3 : w.heap.size < w.heap.size + 1 + 1 := (by omega); have hA1 : Hid (Agree (fun b => b < w.heap.size) w w1) := Lib.hid ((((Agree.refl _ _).alloc _).alloc _ |>.alloc _).grown hg1 (by rintro g ⟨⟩ h; simp at h; omega)); clear hown1 Ho1)))
    | (at_builtin; refine wpList_append_E (S := fun b => b < w.heap.size) rfl (.tmp 30) (.tmp 32) rfl rdsT (base := w1.heap.size) (v := .slice (some ⟨w1.heap.size, 0, none⟩) 0 0) (xs := []) (ys := s.l) (by rfl) (by rfl) rfl (nz := s.l.length) (by simp) (Own.litAt _ _ _ _ (by simp [World.setCell]) (Nat.le_refl _)) (((H.out.keep hA1.out).keep ((Agree.refl _ _).set (fun h => absurd h (by show ¬ g < w.heap.size; omega)) _)).keep ((Agree.refl _ _).alloc _)) (by unfold maxLen; simp; omega) (by simp; omega) (by simp [World.setCell]) (by rintro g ⟨⟩ h; simp at h; omega) ?_; go_must ((intro A2 c2 w2 hown2 hg2 hor2; have hz2 := hg2.size; simp [World.setCell] at hz2; obtain ⟨hc2, hf2⟩ := gcell (g := w1.heap.size) hg2 (by simp [World.setCell]); have ls4 : w.heap.size + 1 < w2.heap.size := (by omega)))))
  have Ho2 : Own rdE (fun _ => False) w2 w1.heap.size 24 (.slice A2 s.l.length c2) s.l := Own.flat rdE_flat hown2
  have lo2 := Ho2.lt
  have Hg2 : Own .bool (fun _ => False) w2 (w.heap.size + 1 + 1) 4 (.slice (some ⟨g, 0, none⟩) s.g.length c1) (s.g.set i true) := (bool_store (k := i) Ho.out true).grownNew hg2 (by simp [World.setCell]) (fun h => h)
  have b1 : Below w.heap.size w w1 := (((Below.refl _ _).alloc (Nat.le_refl _) _).alloc (by simp) _ |>.alloc (by simp; omega) _).grown hg1 (by simp; omega) (by rintro k ⟨⟩; show w.heap.size ≤ w.heap.size + 1 + 1; omega)
  have b2 : Below w.heap.size w w2 := ((b1.setCell (by show w.heap.size ≤ g; omega) _).alloc (by simp [World.setCell]; omega) _).grown hg2 (by simp [World.setCell]; omega) (by rintro k ⟨⟩; show w.heap.size ≤ w1.heap.size; omega)
  refine bodyPost_ret (v := .tuple #[.agg #[.slice A2 s.l.length c2, .slice (some ⟨g, 0, none⟩) s.g.length c1], .int .i64 0]) (by simp [results, Try.results15, go_sem, *]) rfl ⟨A2, c2, some ⟨g, 0, none⟩, c1, by simp, ?_, ?_, (b2.setCell (by simp) _).setCell (by simp) _⟩
  · exact ((Ho2.set (fun e => absurd (lo2 _ e).1 (by simp; omega)) (fun h => h) _).set (fun e => absurd (lo2 _ e).1 (by simp; omega)) (fun h => h) _).flatSl rdE_flat (fun b hb => .inr (by omega))
  · exact ((Hg2.set (p := ⟨w.heap.size + 1, 0, none⟩) (fun e => hn2 (Option.some.inj e)) (fun h => h) _).set (p := ⟨w.heap.size + 1, 1, none⟩) (fun e => hn2 (Option.some.inj e)) (fun h => h) _).flatSl bool_flat (fun b hb => .inr (by omega))
end Go.Proofs.Ytlolppjnpmdpgaa
