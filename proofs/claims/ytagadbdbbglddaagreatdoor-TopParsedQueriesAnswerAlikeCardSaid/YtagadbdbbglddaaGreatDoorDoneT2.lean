/-
  The statement 'TopParsedQueriesAnswerAlike': the law returns true at every input, and its arguments read behind the call as they read before it. Condition: the package's map of widths reads as the program's text lays it (the card ties it).
-/
import Derived.Test.YtagadbdbbglddaaGreatDoorRows
import Derived.Test.YtagadbdbbglddaaGreatDoorCards
import Derived.Test.YtagadbdbbglddaaGreatDoorTie
import Derived.WalkKit
import Derived.ProofKit
import Derived.OpenShut
import Derived.ShutString
import Derived.ChangeOld
import Derived.Below
import Derived.Carry
import Derived.SevenTiedAt
import Derived.Test.YtagadbdbbglddaaGreatDoorU1
import Derived.Test.YtagadbdbbglddaaGreatDoorU2
import Derived.Test.YtagadbdbbglddaaGreatDoorU3
import Derived.Test.YtagadbdbbglddaaGreatDoorU4
import Derived.Test.YtagadbdbbglddaaGreatDoorU5
import Derived.Test.YtagadbdbbglddaaGreatDoorU6
import Derived.Test.YtagadbdbbglddaaGreatDoorU7
import Derived.Test.YtagadbdbbglddaaGreatDoorU8
import Derived.Test.YtagadbdbbglddaaGreatDoorU9
import Derived.Test.YtagadbdbbglddaaGreatDoorU10
import Derived.Test.YtagadbdbbglddaaGreatDoorU11
import Derived.Test.YtagadbdbbglddaaGreatDoorU12
import Derived.Test.YtagadbdbbglddaaGreatDoorU13
import Derived.Test.YtagadbdbbglddaaGreatDoorU14
import Derived.Test.YtagadbdbbglddaaGreatDoorU15
import Derived.Test.YtagadbdbbglddaaGreatDoorU16
import Derived.Test.YtagadbdbbglddaaGreatDoorU17
import Derived.Test.YtagadbdbbglddaaGreatDoorU18
import Derived.Test.YtagadbdbbglddaaGreatDoorU19
import Derived.Test.YtagadbdbbglddaaGreatDoorU20
import Derived.Test.YtagadbdbbglddaaGreatDoorU21
import Derived.Test.YtagadbdbbglddaaGreatDoorShelf
import Derived.Test.YtagadbdbbglddaaGreatDoorU22
import Derived.Test.YtagadbdbbglddaaGreatDoorU23
import Derived.Test.YtagadbdbbglddaaGreatDoorU24
import Derived.Test.YtagadbdbbglddaaGreatDoorU25
import Derived.Test.YtagadbdbbglddaaGreatDoorU26
import Derived.Test.YtagadbdbbglddaaGreatDoorU27
import Derived.Test.YtagadbdbbglddaaGreatDoorU28
set_option linter.unusedSimpArgs false
set_option linter.unusedVariables false
namespace Go.Proofs.YtagadbdbbglddaaGreatDoor.TopParsedQueriesAnswerAlikeDone
open Go.ChangeShapes Go.WideShapes Go.ChangeAt Go.RowKit

theorem own : ownKnob Tryz.prog.godebug = none := by kernel_rfl
theorem laidOut : laidOutB Tryz.prog = true := by kernel_rfl

set_option maxRecDepth 100000 in
theorem lifted (os : Os) (started : os.Started) (H : Type) (enc : TypeId × Value → H) :
    ReturnsInHanded {} Tryz.checked os 4 .any (fun w args => (Rows.topParsedQueriesAnswerAlikeSpec.pre enc Tryz.prog Tryz.f4 [] false w args ∧ laidMetH Tryz.prog laid6 w) ∧ sizedMet enc Tryz.prog Tryz.f4 (OpenSpec.ofChange Rows.topParsedQueriesAnswerAlikeSpec) false w args)
      (Rows.topParsedQueriesAnswerAlikeSpec.post enc Tryz.prog Tryz.f4 false true false false) := by
  refine returnsInHanded_of_change_and (C := Tryz.checked) (X := fun w _ => laidMetH Tryz.prog laid6 w) (fun _ _ _ hh h => h.of_heap hh) own started (by kernel_rfl) Tryz.func4
    (ChangeSpec.witness_shaped (enc := enc) (C := Tryz.checked) (os := os) (X := fun w _ => laidMetH Tryz.prog laid6 w) false (World.doorLaid Tryz.prog 400 os) #[.agg #[.int .i64 0, .int .i64 0, .int .i64 0, .slice none 0 0], .slice none 0 0] 8 rfl (World.shaped_of_RefB (by kernel_rfl) (by kernel_rfl)) (by kernel_rfl) (by kernel_rfl) (by kernel_rfl) (door_met6 os _)) ?_
  intro W base args ds gs before hval0 hW _ _ hL _
  have hval : ∀ (j : Nat) t v, Tryz.f4.params[j]? = some t → args[j]? = some v → Value.okWide Tryz.prog W .any base t v := hval0
  have hW' := hW
  obtain ⟨p, q, hA0, hV, rfl, hfz, hnd⟩ := hW
  have hA : DataW.TrodAll enc Tryz.prog W 0 (fun _ => true) true Tryz.f4.params.toList args.toList ds p := hA0
  rw [Tryz.params4] at hA hval
  obtain ⟨v0, vs0, d0, ds0, p0, q0, hargs, rfl, rfl, h0, r0⟩ := trodAll_cons hA
  obtain ⟨v1, vs1, d1, ds1, p1, q1, rfl, rfl, rfl, h1, r1⟩ := trodAll_cons r0
  obtain ⟨rfl, rfl, rfl⟩ := trodAll_nil r1
  obtain rfl : args = #[v0, v1] := by cases args; simp_all
  obtain ⟨rfl, rfl⟩ := trodVars_none hV
  have k0 := h0
  have lt0 : ∀ x ∈ p0, x.block < W.heap.size := by obtain ⟨m, hm⟩ := k0; exact DataW.trod_lt m _ _ _ hm
  obtain ⟨x0, A0, c0, rfl, rg0, s0⟩ := qy_arg (hval 0 _ v0 rfl rfl) h0
  have k1 := h1
  have lt1 : ∀ x ∈ p1, x.block < W.heap.size := by obtain ⟨m, hm⟩ := k1; exact DataW.trod_lt m _ _ _ hm
  obtain ⟨a1, len1, cap1, rfl⟩ := okWide_slice Tryz.underlying25 (hval 1 _ v1 rfl rfl)
  obtain ⟨x1, A1, c1, e1, s1⟩ := rops_reads.arg h1
  obtain ⟨rfl, rfl, rfl⟩ : a1 = A1 ∧ len1 = x1.length ∧ cap1 = c1 := by simpa [Value.cells] using e1
  clear e1
  clear hA0 hval0
  refine (walk_TopParsedQueriesAnswerAlike W (of_laid6 hL).wid (of_laid6 hL).tab s0 s1).mono fun e W' ⟨he, bel⟩ => ?_
  subst he
  exact ⟨_, rfl, _, _, _, [], _, [], hW', trodAll_mk1 (shut_bool Tryz.underlying4 _), (trodAll_cons_mk (Below.trod laidOut (by kernel_rfl) (of_decide_eq_true (by kernel_rfl)) k0 bel lt0) (trodAll_cons_mk (Below.trod laidOut (by kernel_rfl) (of_decide_eq_true (by kernel_rfl)) k1 bel lt1) trodAll_mk0)), rfl, bel.frame _, fun h => by cases h⟩

theorem over : Rows.topParsedQueriesAnswerAlikeRow.holds Tryz.pinned (OpenSpec.ofChange Rows.topParsedQueriesAnswerAlikeSpec) :=
  OpenClaim.holds_of_wide 4 Tryz.f4 rfl rfl rfl rfl rfl rfl rfl ⟨rfl, rfl, rfl, rfl, rfl⟩ rfl rfl rfl rfl rfl (by kernel_rfl) Tryz.func4 (by kernel_rfl)
    (of_decide_eq_true (by kernel_rfl)) (by unfold Func.isWrapper; first | (rw [if_pos (by decide +kernel)]; kernel_rfl) | (rw [if_neg (by decide +kernel)]; exact ⟨rfl, rfl⟩))
    (fun os started H enc _ => lifted os started H enc)

theorem proved : Rows.TopParsedQueriesAnswerAlikeCardSaid :=
  Claim7.holds_tied_plain_at .later [] [.data, .data, .data, .sentinel, .sentinel, .mapped] true Rows.topParsedQueriesAnswerAlikeCard.stood.harness true
    over (fun _ h => by cases h) (by kernel_rfl) (fun _ h => by cases h) topParsedQueriesAnswerAlike_row_tie rfl ⟨rfl, rfl⟩ (by kernel_rfl) rfl
    (fun f fn hf hfn => by
      obtain rfl : f = 4 := Option.some.inj ((show Tryz.prog.funcNamed "attestor/attestortop.TopParsedQueriesAnswerAlike" = some 4 by kernel_rfl).symm.trans hf) |>.symm
      obtain rfl : fn = Tryz.f4 := (Option.some.inj (Tryz.func4.symm.trans hfn)).symm
      exact ⟨by kernel_rfl, fun j t ht => by
        rw [Tryz.params4] at ht
        have hm : t ∈ [24, 25] := by simpa using Array.mem_of_getElem? ht
        have hall : ([24, 25].all fun u => !Tryz.prog.wantsStandIn u) = true := by kernel_rfl
        exact (show Tryz.prog.wantsStandIn t = false by simpa using List.all_eq_true.1 hall t hm)⟩)
    (by kernel_rfl)
#print axioms proved
end Go.Proofs.YtagadbdbbglddaaGreatDoor.TopParsedQueriesAnswerAlikeDone
