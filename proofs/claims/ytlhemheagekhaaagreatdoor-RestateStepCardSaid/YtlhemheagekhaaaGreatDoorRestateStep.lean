/-
  For every input the law RestateStep returns true, and its arguments read afterwards as before: restate.Step and the reference implementation agree. No condition beyond those of the given card (the listed package-level variables hold what the program text lays).
-/
import Derived.Test.YtlhemheagekhaaaGreatDoorA16
set_option linter.all false
namespace Go.Proofs.YtlhemheagekhaaaGreatDoor
open Go.ChangeShapes Go.WideShapes Go.ChangeAt Go.RowKit Go.T
set_option maxRecDepth 100000
theorem restateStep_dec : DecL Tryz.prog Tryz.f3.params.toList (List Entry × List Entry × List Close × Int × Str × Unit) (fun x => [sEntries x.1, sEntries x.2.1, sCloses x.2.2.1, .i x.2.2.2.1, .str x.2.2.2.2.1]) := by
  rw [Tryz.params3]
  exact .cons d_entries (.slice Tryz.underlying22) (.cons d_entries (.slice Tryz.underlying22) (.cons d_closes (.slice Tryz.underlying23) (.cons d_int (.int Tryz.underlying3) (.cons d_str (.str Tryz.underlying9) .nil))))
theorem restateStep_lifted (os : Os) (started : os.Started) (H : Type) (enc : TypeId × Value → H) :
    ReturnsInHanded {} Tryz.checked os 3 .any (fun w args => (Rows.restateStepSpec.pre enc Tryz.prog Tryz.f3 Rows.restateStepRow.domain false w args ∧ laidMetH Tryz.prog Rows.restateStepRow.laid w) ∧ sizedMet enc Tryz.prog Tryz.f3 (OpenSpec.ofChange Rows.restateStepSpec) false w args)
      (Rows.restateStepSpec.post enc Tryz.prog Tryz.f3 false true false false) := by
  refine returnsInHanded_of_change_and (C := Tryz.checked) (X := fun w _ => laidMetH Tryz.prog Rows.restateStepRow.laid w) (fun _ _ _ hh h => h.of_heap hh) tz_own started (by kernel_rfl) Tryz.func3
    (ChangeSpec.witness_shaped (enc := enc) (C := Tryz.checked) (os := os) (X := fun w _ => laidMetH Tryz.prog Rows.restateStepRow.laid w) false (World.laidAll Tryz.prog os Rows.restateStepRow.laid) #[.slice none 0 0, .slice none 0 0, .slice none 0 0, .int .i64 0, .string ⟨#[]⟩] 8 (World.laidAll_os _ _ _)
      (World.shaped_of_ZipB (by kernel_rfl) (by kernel_rfl)) (by kernel_rfl) (by kernel_rfl) (by kernel_rfl)
      (by rw [MakeChecks.laidMetH_plain _ _ _ (by kernel_rfl)]; exact laidMet_laidAll _ (by kernel_rfl) (by kernel_rfl))) ?_
  intro W base args ds gs before hval hW _ hsz hL _
  exact law_contract tz_kids tz_full (by rw [Tryz.params3, tz_size]; decide) rfl rfl Tryz.underlying4
    (fun H ds hl => by
      rw [Tryz.params3] at hl
      match ds, hl with
      | [_, _, _, _, _], _ => rfl) restateStep_dec (fun x => lawAll x.1 x.2.1 x.2.2.1 x.2.2.2.1 x.2.2.2.2.1) hval hW hsz (gl_of hL)
theorem ab {a b : Bool} (h : a = true) (k : b = true) : (a && b) = true := by rw [h, k]; rfl
set_option maxHeartbeats 40000000 in
theorem restateStep_facts : joinedFacts Tryz.prog 3 Tryz.f3 Rows.restateStepSpec Rows.restateStepRow = true := by
  unfold joinedFacts
  exact ab (ab (ab (ab (ab (ab (ab (ab (ab (ab (ab (ab (ab (ab (ab (ab (ab (ab (ab (ab (ab (ab (ab (ab (ab (ab (ab (ab (ab (ab (ab (by as_aux_lemma => kernel_rfl) (by as_aux_lemma => kernel_rfl)) (by as_aux_lemma => kernel_rfl)) (by as_aux_lemma => kernel_rfl)) (by as_aux_lemma => kernel_rfl)) (by as_aux_lemma => kernel_rfl)) (by as_aux_lemma => kernel_rfl)) (by as_aux_lemma => kernel_rfl)) (by as_aux_lemma => kernel_rfl)) (by as_aux_lemma => kernel_rfl)) (by as_aux_lemma => kernel_rfl)) (by as_aux_lemma => kernel_rfl)) (by as_aux_lemma => kernel_rfl)) (by as_aux_lemma => kernel_rfl)) (by as_aux_lemma => kernel_rfl)) (by as_aux_lemma => kernel_rfl)) (by as_aux_lemma => kernel_rfl)) (by as_aux_lemma => kernel_rfl)) (by as_aux_lemma => kernel_rfl)) (by as_aux_lemma => kernel_rfl)) (by as_aux_lemma => kernel_rfl)) (by as_aux_lemma => kernel_rfl)) (by as_aux_lemma => kernel_rfl)) (by as_aux_lemma => kernel_rfl)) (by as_aux_lemma => kernel_rfl)) (by as_aux_lemma => kernel_rfl)) (by as_aux_lemma => kernel_rfl)) (by as_aux_lemma => kernel_rfl)) (by as_aux_lemma => kernel_rfl)) (by as_aux_lemma => kernel_rfl)) (by as_aux_lemma => kernel_rfl)) (by as_aux_lemma => kernel_rfl)
theorem restateStep_named : Tryz.prog.funcNamed Rows.restateStepRow.func = some 3 := by kernel_rfl
theorem restateStep_said : Rows.RestateStepSaid :=
  OpenClaim.holds_of_wide 3 Tryz.f3 rfl rfl rfl rfl rfl rfl rfl ⟨rfl, rfl, rfl, rfl, rfl⟩ rfl rfl rfl rfl rfl restateStep_named Tryz.func3 restateStep_facts
    (of_decide_eq_true (by as_aux_lemma => kernel_rfl)) (by unfold Func.isWrapper; first | (rw [if_pos (by decide +kernel)]; kernel_rfl) | (rw [if_neg (by decide +kernel)]; exact ⟨rfl, rfl⟩))
    (fun os started H enc _ => restateStep_lifted os started H enc)
theorem restateStep_card : Rows.RestateStepCardSaid :=
  Claim7.holds_tied_plain_at .later [] _ _ _ _ restateStep_said (fun _ h => by cases h) (by as_aux_lemma => kernel_rfl) (fun _ h => by cases h) restateStep_row_tie rfl ⟨rfl, rfl⟩ (by as_aux_lemma => kernel_rfl) rfl
    (fun f fn hf hfn => by
      obtain rfl : f = 3 := Option.some.inj (restateStep_named.symm.trans hf) |>.symm
      obtain rfl : fn = Tryz.f3 := (Option.some.inj (Tryz.func3.symm.trans hfn)).symm
      exact ⟨by as_aux_lemma => kernel_rfl, fun j t ht => by
        rw [Tryz.params3] at ht
        have hm : t ∈ [22, 22, 23, 3, 9] := by simpa using Array.mem_of_getElem? ht
        have hall : ([22, 22, 23, 3, 9].all fun u => !Tryz.prog.wantsStandIn u) = true := by as_aux_lemma => kernel_rfl
        exact (show Tryz.prog.wantsStandIn t = false by simpa using List.all_eq_true.1 hall t hm)⟩)
    (by as_aux_lemma => kernel_rfl)
#print axioms restateStep_card
end Go.Proofs.YtlhemheagekhaaaGreatDoor
