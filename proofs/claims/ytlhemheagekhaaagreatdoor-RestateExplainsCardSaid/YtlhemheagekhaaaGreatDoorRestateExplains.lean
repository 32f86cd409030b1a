/-
  For every input the law RestateExplains returns true, and its arguments read afterwards as before: the terms that explain an account add up to its balance, name keys that occur, in ascending order, and are not 0. No condition beyond those of the given card (the listed package-level variables hold what the program text lays).
-/
import Derived.Test.YtlhemheagekhaaaGreatDoorA16
set_option linter.all false
namespace Go.Proofs.YtlhemheagekhaaaGreatDoor
open Go.ChangeShapes Go.WideShapes Go.ChangeAt Go.RowKit Go.T
set_option maxRecDepth 100000
theorem restateExplains_dec : DecL Tryz.prog Tryz.f8.params.toList (List Posted × Str × Str × Unit) (fun x => [sPosteds x.1, .str x.2.1, .str x.2.2.1]) := by
  rw [Tryz.params8]
  exact .cons d_posteds (.slice Tryz.underlying27) (.cons d_str (.str Tryz.underlying9) (.cons d_str (.str Tryz.underlying9) .nil))
theorem restateExplains_lifted (os : Os) (started : os.Started) (H : Type) (enc : TypeId × Value → H) :
    ReturnsInHanded {} Tryz.checked os 8 .any (fun w args => (Rows.restateExplainsSpec.pre enc Tryz.prog Tryz.f8 Rows.restateExplainsRow.domain false w args ∧ laidMetH Tryz.prog Rows.restateExplainsRow.laid w) ∧ sizedMet enc Tryz.prog Tryz.f8 (OpenSpec.ofChange Rows.restateExplainsSpec) false w args)
      (Rows.restateExplainsSpec.post enc Tryz.prog Tryz.f8 false true false false) := by
  refine returnsInHanded_of_change_and (C := Tryz.checked) (X := fun w _ => laidMetH Tryz.prog Rows.restateExplainsRow.laid w) (fun _ _ _ hh h => h.of_heap hh) tz_own started (by kernel_rfl) Tryz.func8
    (ChangeSpec.witness_shaped (enc := enc) (C := Tryz.checked) (os := os) (X := fun w _ => laidMetH Tryz.prog Rows.restateExplainsRow.laid w) false (World.laidAll Tryz.prog os Rows.restateExplainsRow.laid) #[.slice none 0 0, .string ⟨#[]⟩, .string ⟨#[]⟩] 8 (World.laidAll_os _ _ _)
      (World.shaped_of_ZipB (by kernel_rfl) (by kernel_rfl)) (by kernel_rfl) (by kernel_rfl) (by kernel_rfl)
      (by rw [MakeChecks.laidMetH_plain _ _ _ (by kernel_rfl)]; exact laidMet_laidAll _ (by kernel_rfl) (by kernel_rfl))) ?_
  intro W base args ds gs before hval hW _ hsz hL _
  exact law_contract tz_kids tz_full (by rw [Tryz.params8, tz_size]; decide) rfl rfl Tryz.underlying4
    (fun H ds hl => by
      rw [Tryz.params8] at hl
      match ds, hl with
      | [_, _, _], _ => rfl) restateExplains_dec (fun x => lawExplains_ok x.1 x.2.1 x.2.2.1) hval hW hsz (gl_of hL)
theorem ab {a b : Bool} (h : a = true) (k : b = true) : (a && b) = true := by rw [h, k]; rfl
set_option maxHeartbeats 40000000 in
theorem restateExplains_facts : joinedFacts Tryz.prog 8 Tryz.f8 Rows.restateExplainsSpec Rows.restateExplainsRow = true := by
  unfold joinedFacts
  exact ab (ab (ab (ab (ab (ab (ab (ab (ab (ab (ab (ab (ab (ab (ab (ab (ab (ab (ab (ab (ab (ab (ab (ab (ab (ab (ab (ab (ab (ab (ab (by as_aux_lemma => kernel_rfl) (by as_aux_lemma => kernel_rfl)) (by as_aux_lemma => kernel_rfl)) (by as_aux_lemma => kernel_rfl)) (by as_aux_lemma => kernel_rfl)) (by as_aux_lemma => kernel_rfl)) (by as_aux_lemma => kernel_rfl)) (by as_aux_lemma => kernel_rfl)) (by as_aux_lemma => kernel_rfl)) (by as_aux_lemma => kernel_rfl)) (by as_aux_lemma => kernel_rfl)) (by as_aux_lemma => kernel_rfl)) (by as_aux_lemma => kernel_rfl)) (by as_aux_lemma => kernel_rfl)) (by as_aux_lemma => kernel_rfl)) (by as_aux_lemma => kernel_rfl)) (by as_aux_lemma => kernel_rfl)) (by as_aux_lemma => kernel_rfl)) (by as_aux_lemma => kernel_rfl)) (by as_aux_lemma => kernel_rfl)) (by as_aux_lemma => kernel_rfl)) (by as_aux_lemma => kernel_rfl)) (by as_aux_lemma => kernel_rfl)) (by as_aux_lemma => kernel_rfl)) (by as_aux_lemma => kernel_rfl)) (by as_aux_lemma => kernel_rfl)) (by as_aux_lemma => kernel_rfl)) (by as_aux_lemma => kernel_rfl)) (by as_aux_lemma => kernel_rfl)) (by as_aux_lemma => kernel_rfl)) (by as_aux_lemma => kernel_rfl)) (by as_aux_lemma => kernel_rfl)
theorem restateExplains_named : Tryz.prog.funcNamed Rows.restateExplainsRow.func = some 8 := by kernel_rfl
theorem restateExplains_said : Rows.RestateExplainsSaid :=
  OpenClaim.holds_of_wide 8 Tryz.f8 rfl rfl rfl rfl rfl rfl rfl ⟨rfl, rfl, rfl, rfl, rfl⟩ rfl rfl rfl rfl rfl restateExplains_named Tryz.func8 restateExplains_facts
    (of_decide_eq_true (by as_aux_lemma => kernel_rfl)) (by unfold Func.isWrapper; first | (rw [if_pos (by decide +kernel)]; kernel_rfl) | (rw [if_neg (by decide +kernel)]; exact ⟨rfl, rfl⟩))
    (fun os started H enc _ => restateExplains_lifted os started H enc)
theorem restateExplains_card : Rows.RestateExplainsCardSaid :=
  Claim7.holds_tied_plain_at .later [] _ _ _ _ restateExplains_said (fun _ h => by cases h) (by as_aux_lemma => kernel_rfl) (fun _ h => by cases h) restateExplains_row_tie rfl ⟨rfl, rfl⟩ (by as_aux_lemma => kernel_rfl) rfl
    (fun f fn hf hfn => by
      obtain rfl : f = 8 := Option.some.inj (restateExplains_named.symm.trans hf) |>.symm
      obtain rfl : fn = Tryz.f8 := (Option.some.inj (Tryz.func8.symm.trans hfn)).symm
      exact ⟨by as_aux_lemma => kernel_rfl, fun j t ht => by
        rw [Tryz.params8] at ht
        have hm : t ∈ [27, 9, 9] := by simpa using Array.mem_of_getElem? ht
        have hall : ([27, 9, 9].all fun u => !Tryz.prog.wantsStandIn u) = true := by as_aux_lemma => kernel_rfl
        exact (show Tryz.prog.wantsStandIn t = false by simpa using List.all_eq_true.1 hall t hm)⟩)
    (by as_aux_lemma => kernel_rfl)
#print axioms restateExplains_card
end Go.Proofs.YtlhemheagekhaaaGreatDoor
