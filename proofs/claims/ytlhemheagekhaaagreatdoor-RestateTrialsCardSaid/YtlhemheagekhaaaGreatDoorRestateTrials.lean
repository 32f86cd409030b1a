/-
  For every input the law RestateTrials returns true, and its arguments read afterwards as before: posted balances add up to 0 in each currency and change only by what was posted on days between. No condition beyond those of the given card (the listed package-level variables hold what the program text lays).
-/
import Derived.Test.YtlhemheagekhaaaGreatDoorA17
set_option linter.all false
namespace Go.Proofs.YtlhemheagekhaaaGreatDoor
open Go.ChangeShapes Go.WideShapes Go.ChangeAt Go.RowKit Go.T
set_option maxRecDepth 100000
theorem restateTrials_dec : DecL Tryz.prog Tryz.f6.params.toList (List Posted × Int × Int × Unit) (fun x => [sPosteds x.1, .i x.2.1, .i x.2.2.1]) := by
  rw [Tryz.params6]
  exact .cons d_posteds (.slice Tryz.underlying27) (.cons d_day (.int Tryz.underlying34) (.cons d_day (.int Tryz.underlying34) .nil))
theorem restateTrials_lifted (os : Os) (started : os.Started) (H : Type) (enc : TypeId × Value → H) :
    ReturnsInHanded {} Tryz.checked os 6 .any (fun w args => (Rows.restateTrialsSpec.pre enc Tryz.prog Tryz.f6 Rows.restateTrialsRow.domain false w args ∧ laidMetH Tryz.prog Rows.restateTrialsRow.laid w) ∧ sizedMet enc Tryz.prog Tryz.f6 (OpenSpec.ofChange Rows.restateTrialsSpec) false w args)
      (Rows.restateTrialsSpec.post enc Tryz.prog Tryz.f6 false true false false) := by
  refine returnsInHanded_of_change_and (C := Tryz.checked) (X := fun w _ => laidMetH Tryz.prog Rows.restateTrialsRow.laid w) (fun _ _ _ hh h => h.of_heap hh) tz_own started (by kernel_rfl) Tryz.func6
    (ChangeSpec.witness_shaped (enc := enc) (C := Tryz.checked) (os := os) (X := fun w _ => laidMetH Tryz.prog Rows.restateTrialsRow.laid w) false (World.laidAll Tryz.prog os Rows.restateTrialsRow.laid) #[.slice none 0 0, .int .i64 0, .int .i64 0] 8 (World.laidAll_os _ _ _)
      (World.shaped_of_ZipB (by kernel_rfl) (by kernel_rfl)) (by kernel_rfl) (by kernel_rfl) (by kernel_rfl)
      (by rw [MakeChecks.laidMetH_plain _ _ _ (by kernel_rfl)]; exact laidMet_laidAll _ (by kernel_rfl) (by kernel_rfl))) ?_
  intro W base args ds gs before hval hW _ hsz hL _
  exact law_contract tz_kids tz_full (by rw [Tryz.params6, tz_size]; decide) rfl rfl Tryz.underlying4
    (fun H ds hl => by
      rw [Tryz.params6] at hl
      match ds, hl with
      | [_, _, _], _ => rfl) restateTrials_dec (fun x => lawTrials_ok x.1 x.2.1 x.2.2.1) hval hW hsz (gl_of hL)
theorem ab {a b : Bool} (h : a = true) (k : b = true) : (a && b) = true := by rw [h, k]; rfl
set_option maxHeartbeats 40000000 in
theorem restateTrials_facts : joinedFacts Tryz.prog 6 Tryz.f6 Rows.restateTrialsSpec Rows.restateTrialsRow = true := by
  unfold joinedFacts
  exact ab (ab (ab (ab (ab (ab (ab (ab (ab (ab (ab (ab (ab (ab (ab (ab (ab (ab (ab (ab (ab (ab (ab (ab (ab (ab (ab (ab (ab (ab (ab (by as_aux_lemma => kernel_rfl) (by as_aux_lemma => kernel_rfl)) (by as_aux_lemma => kernel_rfl)) (by as_aux_lemma => kernel_rfl)) (by as_aux_lemma => kernel_rfl)) (by as_aux_lemma => kernel_rfl)) (by as_aux_lemma => kernel_rfl)) (by as_aux_lemma => kernel_rfl)) (by as_aux_lemma => kernel_rfl)) (by as_aux_lemma => kernel_rfl)) (by as_aux_lemma => kernel_rfl)) (by as_aux_lemma => kernel_rfl)) (by as_aux_lemma => kernel_rfl)) (by as_aux_lemma => kernel_rfl)) (by as_aux_lemma => kernel_rfl)) (by as_aux_lemma => kernel_rfl)) (by as_aux_lemma => kernel_rfl)) (by as_aux_lemma => kernel_rfl)) (by as_aux_lemma => kernel_rfl)) (by as_aux_lemma => kernel_rfl)) (by as_aux_lemma => kernel_rfl)) (by as_aux_lemma => kernel_rfl)) (by as_aux_lemma => kernel_rfl)) (by as_aux_lemma => kernel_rfl)) (by as_aux_lemma => kernel_rfl)) (by as_aux_lemma => kernel_rfl)) (by as_aux_lemma => kernel_rfl)) (by as_aux_lemma => kernel_rfl)) (by as_aux_lemma => kernel_rfl)) (by as_aux_lemma => kernel_rfl)) (by as_aux_lemma => kernel_rfl)) (by as_aux_lemma => kernel_rfl)
theorem restateTrials_named : Tryz.prog.funcNamed Rows.restateTrialsRow.func = some 6 := by kernel_rfl
theorem restateTrials_said : Rows.RestateTrialsSaid :=
  OpenClaim.holds_of_wide 6 Tryz.f6 rfl rfl rfl rfl rfl rfl rfl ⟨rfl, rfl, rfl, rfl, rfl⟩ rfl rfl rfl rfl rfl restateTrials_named Tryz.func6 restateTrials_facts
    (of_decide_eq_true (by as_aux_lemma => kernel_rfl)) (by unfold Func.isWrapper; first | (rw [if_pos (by decide +kernel)]; kernel_rfl) | (rw [if_neg (by decide +kernel)]; exact ⟨rfl, rfl⟩))
    (fun os started H enc _ => restateTrials_lifted os started H enc)
theorem restateTrials_card : Rows.RestateTrialsCardSaid :=
  Claim7.holds_tied_plain_at .later [] _ _ _ _ restateTrials_said (fun _ h => by cases h) (by as_aux_lemma => kernel_rfl) (fun _ h => by cases h) restateTrials_row_tie rfl ⟨rfl, rfl⟩ (by as_aux_lemma => kernel_rfl) rfl
    (fun f fn hf hfn => by
      obtain rfl : f = 6 := Option.some.inj (restateTrials_named.symm.trans hf) |>.symm
      obtain rfl : fn = Tryz.f6 := (Option.some.inj (Tryz.func6.symm.trans hfn)).symm
      exact ⟨by as_aux_lemma => kernel_rfl, fun j t ht => by
        rw [Tryz.params6] at ht
        have hm : t ∈ [27, 34, 34] := by simpa using Array.mem_of_getElem? ht
        have hall : ([27, 34, 34].all fun u => !Tryz.prog.wantsStandIn u) = true := by as_aux_lemma => kernel_rfl
        exact (show Tryz.prog.wantsStandIn t = false by simpa using List.all_eq_true.1 hall t hm)⟩)
    (by as_aux_lemma => kernel_rfl)
#print axioms restateTrials_card
end Go.Proofs.YtlhemheagekhaaaGreatDoor
