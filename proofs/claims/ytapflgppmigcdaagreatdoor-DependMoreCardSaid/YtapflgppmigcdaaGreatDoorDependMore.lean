/-
  For every input the law DependMore returns true, and its arguments read afterwards as before: with one more fact the groups only become larger, and the order of the facts does not matter. No condition beyond those of the given card (the listed package-level variables hold what the program text lays).
-/
import Derived.Test.YtapflgppmigcdaaGreatDoorA18
set_option linter.all false
namespace Go.Proofs.YtapflgppmigcdaaGreatDoor
open Go.ChangeShapes Go.WideShapes Go.ChangeAt Go.RowKit Go.T
set_option maxRecDepth 100000
theorem dependMore_dec : DecL Tryz.prog Tryz.f3.params.toList (Setup × (List Fact) × Fact × {n : Nat // n ≤ 255} × Unit) (fun x => [.agg (encSetup x.1), sFacts x.2.1, .agg (encFact x.2.2.1), .raw (.int .u8 (x.2.2.2.1.1 : Int))]) := by
 rw [Tryz.params3]
 exact .consA Tryz.underlying30 dd30 (.cons dd31 (.slice Tryz.underlying31) (.consA Tryz.underlying39 dd39 (.cons d_u8 (.int Tryz.underlying5) .nil)))
theorem dependMore_lifted (os : Os) (started : os.Started) (H : Type) (enc : TypeId × Value → H) :
  ReturnsInHanded {} Tryz.checked os 3 .any (fun w args => (Rows.dependMoreSpec.pre enc Tryz.prog Tryz.f3 Rows.dependMoreRow.domain false w args ∧ laidMetH Tryz.prog Rows.dependMoreRow.laid w) ∧ sizedMet enc Tryz.prog Tryz.f3 (OpenSpec.ofChange Rows.dependMoreSpec) false w args)
   (Rows.dependMoreSpec.post enc Tryz.prog Tryz.f3 false true false false) := by
 refine returnsInHanded_of_change_and (C := Tryz.checked) (X := fun w _ => laidMetH Tryz.prog Rows.dependMoreRow.laid w) (fun _ _ _ hh h => h.of_heap hh) tz_own started (by kernel_rfl) Tryz.func3
  (ChangeSpec.witness_shaped (enc := enc) (C := Tryz.checked) (os := os) (X := fun w _ => laidMetH Tryz.prog Rows.dependMoreRow.laid w) false (World.laidAll Tryz.prog os Rows.dependMoreRow.laid) #[.agg #[.slice none 0 0, .slice none 0 0, .slice none 0 0, .slice none 0 0, .slice none 0 0, .slice none 0 0, .int .i64 0], .slice none 0 0, .agg #[.string ⟨#[]⟩, .int .i64 0, .bool false, .int .i64 0, .int .i64 0, .string ⟨#[]⟩, .string ⟨#[]⟩, .string ⟨#[]⟩, .string ⟨#[]⟩, .string ⟨#[]⟩, .string ⟨#[]⟩, .string ⟨#[]⟩, .string ⟨#[]⟩, .string ⟨#[]⟩, .string ⟨#[]⟩, .string ⟨#[]⟩, .string ⟨#[]⟩, .string ⟨#[]⟩, .slice none 0 0, .slice none 0 0, .int .i64 0], .int .u8 0] 8 (World.laidAll_os _ _ _)
   (World.shaped_of_ZipB (by kernel_rfl) (by kernel_rfl)) (by kernel_rfl) (by kernel_rfl) (by kernel_rfl)
   (by rw [MakeChecks.laidMetH_plain _ _ _ (by kernel_rfl)]; exact laidMet_laidAll _ (by kernel_rfl) (by kernel_rfl))) ?_
 intro W base args ds gs before hval hW _ hsz hL _
 exact law_contract tz_kids tz_full (by rw [Tryz.params3, tz_size]; decide) rfl rfl Tryz.underlying4
  (fun H ds hl => by
   rw [Tryz.params3] at hl
   match ds, hl with
   | [_, _, _, _], _ => rfl) dependMore_dec (fun x => lawMore_ok x.1 x.2.1 x.2.2.1 x.2.2.2.1.1 x.2.2.2.1.2) hval hW hsz (gl_of hL)
theorem ab {a b : Bool} (h : a = true) (k : b = true) : (a && b) = true := by rw [h, k]; rfl
set_option maxHeartbeats 40000000 in
theorem dependMore_facts : joinedFacts Tryz.prog 3 Tryz.f3 Rows.dependMoreSpec Rows.dependMoreRow = true := by
 unfold joinedFacts
 exact ab (ab (ab (ab (ab (ab (ab (ab (ab (ab (ab (ab (ab (ab (ab (ab (ab (ab (ab (ab (ab (ab (ab (ab (ab (ab (ab (ab (ab (ab (ab (by as_aux_lemma => kernel_rfl) (by as_aux_lemma => kernel_rfl)) (by as_aux_lemma => kernel_rfl)) (by as_aux_lemma => kernel_rfl)) (by as_aux_lemma => kernel_rfl)) (by as_aux_lemma => kernel_rfl)) (by as_aux_lemma => kernel_rfl)) (by as_aux_lemma => kernel_rfl)) (by as_aux_lemma => kernel_rfl)) (by as_aux_lemma => kernel_rfl)) (by as_aux_lemma => kernel_rfl)) (by as_aux_lemma => kernel_rfl)) (by as_aux_lemma => kernel_rfl)) (by as_aux_lemma => kernel_rfl)) (by as_aux_lemma => kernel_rfl)) (by as_aux_lemma => kernel_rfl)) (by as_aux_lemma => kernel_rfl)) (by as_aux_lemma => kernel_rfl)) (by as_aux_lemma => kernel_rfl)) (by as_aux_lemma => kernel_rfl)) (by as_aux_lemma => kernel_rfl)) (by as_aux_lemma => kernel_rfl)) (by as_aux_lemma => kernel_rfl)) (by as_aux_lemma => kernel_rfl)) (by as_aux_lemma => kernel_rfl)) (by as_aux_lemma => kernel_rfl)) (by as_aux_lemma => kernel_rfl)) (by as_aux_lemma => kernel_rfl)) (by as_aux_lemma => kernel_rfl)) (by as_aux_lemma => kernel_rfl)) (by as_aux_lemma => kernel_rfl)) (by as_aux_lemma => kernel_rfl)
theorem dependMore_named : Tryz.prog.funcNamed Rows.dependMoreRow.func = some 3 := by kernel_rfl
theorem dependMore_said : Rows.DependMoreSaid :=
 OpenClaim.holds_of_wide 3 Tryz.f3 rfl rfl rfl rfl rfl rfl rfl ⟨rfl, rfl, rfl, rfl, rfl⟩ rfl rfl rfl rfl rfl dependMore_named Tryz.func3 dependMore_facts
  (of_decide_eq_true (by as_aux_lemma => kernel_rfl)) (by unfold Func.isWrapper; first | (rw [if_pos (by decide +kernel)]; kernel_rfl) | (rw [if_neg (by decide +kernel)]; exact ⟨rfl, rfl⟩))
  (fun os started H enc _ => dependMore_lifted os started H enc)
theorem dependMore_card : Rows.DependMoreCardSaid :=
 Claim7.holds_tied_plain_at .later [] _ _ _ _ dependMore_said (fun _ h => by cases h) (by as_aux_lemma => kernel_rfl) (fun _ h => by cases h) dependMore_row_tie rfl ⟨rfl, rfl⟩ (by as_aux_lemma => kernel_rfl) rfl
  (fun f fn hf hfn => by
   obtain rfl : f = 3 := Option.some.inj (dependMore_named.symm.trans hf) |>.symm
   obtain rfl : fn = Tryz.f3 := (Option.some.inj (Tryz.func3.symm.trans hfn)).symm
   exact ⟨by as_aux_lemma => kernel_rfl, fun j t ht => by
    rw [Tryz.params3] at ht
    have hm : t ∈ [30, 31, 39, 5] := by simpa using Array.mem_of_getElem? ht
    have hall : ([30, 31, 39, 5].all fun u => !Tryz.prog.wantsStandIn u) = true := by as_aux_lemma => kernel_rfl
    exact (show Tryz.prog.wantsStandIn t = false by simpa using List.all_eq_true.1 hall t hm)⟩)
  (by as_aux_lemma => kernel_rfl)
#print axioms dependMore_card
end Go.Proofs.YtapflgppmigcdaaGreatDoor

