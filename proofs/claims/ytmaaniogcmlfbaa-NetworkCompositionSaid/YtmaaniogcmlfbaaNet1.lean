/-
  Contracts of the network chapter (XNet1).
-/
import Derived.Test.YtmaaniogcmlfbaaRows
import Derived.Test.YtmaaniogcmlfbaaRow
import Derived.Test.YtmaaniogcmlfbaaNetF
import Derived.WalkKit
import Derived.WalkSpells
import Derived.WalkLawsBesides
import Derived.Deep.RegionHeld3
import Derived.Deep.RegionLaw
import Derived.BigQuiet
import Derived.Deep.QuietTactic
namespace Go.Proofs.Ytmaaniogcmlfbaa
open Go.RowKit

theorem bytesT : SlT Try.prog 30 5 Enc.u8 1 := ⟨Try.underlying30, by kernel_rfl, by decide⟩
theorem pksT : SlT Try.prog 24 32 pkE 48 := ⟨Try.underlying24, by kernel_rfl, by decide⟩

theorem pkZero (i : TypeInfo) (z : Value) (hi : Try.prog.info? 32 = some i) (hz : i.zero = some z) : ∀ u ∈ z.cells, u.oneCell' = true := by
  have h : (Try.prog.info? 32).map (fun i => i.zero.map (fun z => z.cells.all (·.oneCell'))) = some (some true) := by kernel_rfl
  rw [hi] at h
  simp only [Option.map_some, Option.some.injEq, hz] at h
  intro u hu
  exact Array.all_eq_true'.1 h u hu

theorem eqNilB (w : World) (a : Option Addr) (n c : Nat) : (binOp .eql 30 (.slice a n c) (.slice none 0 0)).run Try.prog w = .ok (.bool a.isNone) w := Lib.run_eql_slice_nil (P := Try.prog) w _ _ a n c 0 0 Try.underlying30
theorem eqNilP (w : World) (a : Option Addr) (n c : Nat) : (binOp .eql 24 (.slice a n c) (.slice none 0 0)).run Try.prog w = .ok (.bool a.isNone) w := Lib.run_eql_slice_nil (P := Try.prog) w _ _ a n c 0 0 Try.underlying24

set_option maxHeartbeats 400000 in
theorem cloneB {S : Nat → Prop} {A : Option Addr} {c : Nat} {l : List UInt8} (w : World) (h : Sl .u8 S w A c l) (hl : l.length ≤ 4294967296) :
    Calls Try.prog 32 #[.slice A l.length c] w fun e w' => ∃ A' c', e = .returned (.slice A' l.length c') ∧ Own .u8 S w' w.heap.size 5 (.slice A' l.length c') l ∧ Below w.heap.size w w' := by
  have hn := eqNilB
  rcases A with _ | a
  · have hl0 : l = [] := by
      obtain ⟨_, _, cs, hr, he⟩ := h
      rcases l with _ | ⟨x, l⟩
      · rfl
      · obtain ⟨d, ds, rfl, hd, _⟩ := he
        cases hd
        obtain ⟨a, ha, _⟩ := hr (by simp)
        cases ha
    subst hl0
    go_enter Try.func32, Try.ntmps32
    go_wp2_with fail
    go_ret
    exact ⟨none, 0, rfl, Own.nil_ _ _ _ _ _, Below.refl _ _⟩
  · go_enter Try.func32, Try.ntmps32
    go_wp2_with (at_builtin; refine wpList_append_E rfl (.tmp 5) (.tmp 6) rfl bytesT (base := w.heap.size) (v := .slice (some ⟨w.heap.size, 0, none⟩) 0 0) rfl rfl rfl rfl (Own.lit0 Enc.u8 _ _ _ (Nat.le_refl _)) (h.old.keep ((Agree.refl _ _).alloc _)) (by unfold maxLen; simp; omega) (by simp; omega) (by simp) (by rintro g ⟨⟩ hg; exact absurd hg.2 (Nat.lt_irrefl _)) ?_; intro A1 c1 w1 hown1 hg1 _)
    go_ret
    exact ⟨_, _, rfl, hown1.sub fun _ hb _ => hb.1, ((Below.refl _ _).alloc (Nat.le_refl _) _).grown hg1 (by simp) (by rintro g ⟨⟩; exact Nat.le_refl _)⟩

theorem nil_of_none {α : Type} {E : Enc α} {S : Nat → Prop} {w : World} {c : Nat} {l : List α} (h : Sl E S w none c l) (hE : 0 < E.size) : l = [] := by
  obtain ⟨_, _, cs, hr, he⟩ := h
  rcases l with _ | ⟨x, l⟩
  · rfl
  · have h1 := he.len
    have hne : cs ≠ [] := fun e => by rw [e] at h1; simp [Nat.add_mul] at h1; omega
    obtain ⟨a, ha, _⟩ := hr hne
    cases ha

set_option maxHeartbeats 400000 in
theorem cloneP {S : Nat → Prop} {A : Option Addr} {c : Nat} {l : List Pk} (w : World) (h : Sl pkE S w A c l) (hl : l.length ≤ 4294967296) :
    Calls Try.prog 35 #[.slice A l.length c] w fun e w' => ∃ A' c', e = .returned (.slice A' l.length c') ∧ Own pkE S w' w.heap.size 32 (.slice A' l.length c') l ∧ Below w.heap.size w w' := by
  have hn := eqNilP
  rcases A with _ | a
  · obtain rfl := nil_of_none h (by decide)
    go_enter Try.func35, Try.ntmps35
    go_wp2_with fail
    go_ret
    exact ⟨none, 0, rfl, Own.nil_ _ _ _ _ _, Below.refl _ _⟩
  · go_enter Try.func35, Try.ntmps35
    go_wp2_with (at_builtin; refine wpList_append_E rfl (.tmp 5) (.tmp 6) rfl pksT (base := w.heap.size) (v := .slice (some ⟨w.heap.size, 0, none⟩) 0 0) rfl rfl rfl rfl (Own.lit0 pkE _ _ _ (Nat.le_refl _)) (h.old.keep ((Agree.refl _ _).alloc _)) (by unfold maxLen; simp; omega) (by simp; omega) (by simp) (by rintro g ⟨⟩ hg; exact absurd hg.2 (Nat.lt_irrefl _)) ?_; intro A1 c1 w1 hown1 hg1 _)
    go_ret
    exact ⟨_, _, rfl, hown1.sub fun _ hb _ => hb.1, ((Below.refl _ _).alloc (Nat.le_refl _) _).grown hg1 (by simp) (by rintro g ⟨⟩; exact Nat.le_refl _)⟩

set_option maxHeartbeats 400000 in
theorem clipP {A : Option Addr} {n c : Nat} (w : World) (h1 : n ≤ c) :
    Calls Try.prog 33 #[.slice A n c] w fun e w' => e = .returned (.slice A n n) ∧ w = w' := by
  go_enter Try.func33, Try.ntmps33
  go_wp2_with fail
  go_ret
  exact ⟨rfl, rfl⟩

theorem delete_close {w : World} {base g n c i : Nat} {e : TypeId} {cs ds : List Value} (hi : i < n) (hcl : cs.length = n * 4)
    (h : w.ownsRow base e 4 (.slice (some ⟨g, 0, none⟩) n c) n ((cs.take (i * 4) ++ cs.drop ((i + 1) * 4) ++ cs.drop ((i + (n - (i + 1))) * 4)).take ((i + (n - (i + 1))) * 4) ++ ds)) :
    w.ownsRow base e 4 (.slice (some ⟨g, 0, none⟩) (n - 1) c) (n - 1) (cs.take (i * 4) ++ cs.drop ((i + 1) * 4)) := by
  have h1 := row_prefix h (k := n - 1) (by omega)
  have hn : i + (n - (i + 1)) = n - 1 := by omega
  have hl : (cs.take (i * 4) ++ cs.drop ((i + 1) * 4)).length = (n - 1) * 4 := by rw [List.length_append, List.length_take, List.length_drop, hcl]; omega
  rw [hn, List.take_append_of_le_length (l₁ := cs.take (i * 4) ++ cs.drop ((i + 1) * 4)) (by omega), List.take_of_length_le (l := cs.take (i * 4) ++ cs.drop ((i + 1) * 4)) (by omega),
    List.take_append_of_le_length (by omega), List.take_of_length_le (by omega)] at h1
  exact h1
theorem grown_of_drew {w w' : World} {r : Option Nat} (h : w.drew.grownBy w' r) : w.grownBy w' r := ⟨h.os, h.tape, h.output, h.size, h.block⟩
theorem ret_eq {a b : Value} (h : a = b) : Ending.returned a = .returned b := by rw [h]
theorem ret_slice {A : Option Addr} {a b c : Nat} (h : a = b) : Ending.returned (.slice A a c) = .returned (.slice A b c) := by rw [h]

set_option maxHeartbeats 400000 in
theorem deleteP {g base n c : Nat} {cs : List Value} (w : World) (i : Nat) (h : w.ownsRow base 32 4 (.slice (some ⟨g, 0, none⟩) n c) n cs) (h1c : ∀ u ∈ cs, u.oneCell' = true) (hi : i < n) (hn : n ≤ 4294967296) :
    Calls Try.prog 34 #[.slice (some ⟨g, 0, none⟩) n c, .int .i64 i, .int .i64 (i + 1)] w fun e w' =>
      e = .returned (.slice (some ⟨g, 0, none⟩) (n - 1) c) ∧ w'.ownsRow base 32 4 (.slice (some ⟨g, 0, none⟩) (n - 1) c) (n - 1) (cs.take (i * 4) ++ cs.drop ((i + 1) * 4)) ∧ w.grownBy w' (some g) := by
  obtain ⟨cur, hb, hg, hnc, hm, hs, ht, hcl⟩ := row_cur h
  unfold maxLen at hm
  clear hs ht hg
  have hrow : RowAt (fun _ => True) w (if c = i + 1 then some ⟨g, 0, none⟩ else some ⟨g, (i + 1) * 4, none⟩) (cs.drop ((i + 1) * 4)) := by
    split
    · have : cs.drop ((i + 1) * 4) = [] := List.drop_of_length_le (by omega)
      rw [this]; exact RowAt.empty _ _ _
    · exact fun _ => ⟨_, rfl, trivial, (h.lt g rfl).2, fun j u hu => by
        have h1 := h.cells (g := g) rfl ((i + 1) * 4 + j) u (by rw [← hu, List.getElem?_drop])
        rw [Addr.add_lit] at h1 ⊢
        simpa using h1⟩
  have hic : i ≤ c := by omega
  have hi0 : (0 : Int) ≤ (i : Int) + 1 := by omega
  have hin : (i : Int) + 1 ≤ (n : Int) := by omega
  go_enter Try.func34, Try.ntmps34
  go_wp2_with fail
  have hown : w.drew.ownsRow base 32 pkE.size (.slice (some ⟨g, 0, none⟩) n c) n cs := h
  have hrow' := hrow.keep ((Agree.refl _ w).drew)
  have hds : (cs.drop ((i + 1) * 4)).length = (n - (i + 1)) * pkE.size := by rw [List.length_drop, hcl, ← Nat.sub_mul]; rfl
  have h1s : ∀ u ∈ cs.drop ((i + 1) * 4), u.oneCell' = true := fun u hu => h1c u (List.mem_of_mem_drop hu)
  have H1 := Lib.hid hown; have H2 := Lib.hid hrow'; have H3 := Lib.hid hds; have H4 := Lib.hid h1s
  clear hown hrow' hds h1s hrow
  go_region_held3 (fun _ => True) (trivial) (first | (refine step_append_in (n := n) (cap := c) (m := n - (i + 1)) rfl (.tmp 22) (.tmp 25) rfl pksT H1.out rfl rfl H2.out H3.out H4.out (by omega) ?_; intro w1 hown1 hg1))
  go_wp2_with (refine wpList_clear_in rfl (.tmp 31) rfl pksT pkZero hown1 (i := i + (n - (i + 1))) (k := n - (i + (n - (i + 1)))) rfl ?_ (by omega) ?_; rotate_left; intro w2 ds hown2 hg2)
  case refine_1 => exact fun _ => rfl
  all_goals
    go_ret
    first
      | exact ⟨ret_slice (by omega), delete_close hi hcl hown2, (grown_of_drew hg1).trans hg2⟩
      | (have hc : c = i + 1 := by assumption
         rw [hc] at hown2
         exact ⟨ret_slice (by omega), delete_close hi hcl hown2, (grown_of_drew hg1).trans hg2⟩)
end Go.Proofs.Ytmaaniogcmlfbaa
