/-
  For every input the law RestateReads returns true, and its arguments read afterwards as before: Trial, Between, Adjusting, Explain and Same and the reference implementation agree. No condition beyond those of the given card (the listed package-level variables hold what the program text lays).
-/
import Derived.Test.YtlhemheagekhaaaGreatDoorA19
set_option linter.all false
namespace Go.Proofs.YtlhemheagekhaaaGreatDoor
open Go.ChangeShapes Go.WideShapes Go.ChangeAt Go.RowKit Go.T
set_option maxRecDepth 100000
theorem restateReads_dec : DecL Tryz.prog Tryz.f9.params.toList (List Posted × List Posted × Int × Int × Int × Str × Str × Unit) (fun x => [sPosteds x.1, sPosteds x.2.1, .i x.2.2.1, .i x.2.2.2.1, .i x.2.2.2.2.1, .str x.2.2.2.2.2.1, .str x.2.2.2.2.2.2.1]) := by
 rw [Tryz.params9]
 exact .cons d_posteds (.slice Tryz.underlying27) (.cons d_posteds (.slice Tryz.underlying27) (.cons d_day (.int Tryz.underlying34) (.cons d_int (.int Tryz.underlying3) (.cons d_int (.int Tryz.underlying3) (.cons d_str (.str Tryz.underlying9) (.cons d_str (.str Tryz.underlying9) .nil))))))
theorem restateReads_lifted (os : Os) (started : os.Started) (H : Type) (enc : TypeId × Value → H) :
  ReturnsInHanded {} Tryz.checked os 9 .any (fun w args => (Rows.restateReadsSpec.pre enc Tryz.prog Tryz.f9 Rows.restateReadsRow.domain false w args ∧ laidMetH Tryz.prog Rows.restateReadsRow.laid w) ∧ sizedMet enc Tryz.prog Tryz.f9 (OpenSpec.ofChange Rows.restateReadsSpec) false w args)
   (Rows.restateReadsSpec.post enc Tryz.prog Tryz.f9 false true false false) := by
 refine returnsInHanded_of_change_and (C := Tryz.checked) (X := fun w _ => laidMetH Tryz.prog Rows.restateReadsRow.laid w) (fun _ _ _ hh h => h.of_heap hh) tz_own started (by kernel_rfl) Tryz.func9
  (ChangeSpec.witness_shaped (enc := enc) (C := Tryz.checked) (os := os) (X := fun w _ => laidMetH Tryz.prog Rows.restateReadsRow.laid w) false (World.laidAll Tryz.prog os Rows.restateReadsRow.laid) #[.slice none 0 0, .slice none 0 0, .int .i64 0, .int .i64 0, .int .i64 0, .string ⟨#[]⟩, .string ⟨#[]⟩] 8 (World.laidAll_os _ _ _)
   (World.shaped_of_ZipB (by kernel_rfl) (by kernel_rfl)) (by kernel_rfl) (by kernel_rfl) (by kernel_rfl)
   (by rw [MakeChecks.laidMetH_plain _ _ _ (by kernel_rfl)]; exact laidMet_laidAll _ (by kernel_rfl) (by kernel_rfl))) ?_
 intro W base args ds gs before hval hW _ hsz hL _
 exact law_contract tz_kids tz_full (by rw [Tryz.params9, tz_size]; decide) rfl rfl Tryz.underlying4
  (fun H ds hl => by
   rw [Tryz.params9] at hl
   match ds, hl with
   | [_, _, _, _, _, _, _], _ => rfl) restateReads_dec (fun x => lawReads_ok x.1 x.2.1 x.2.2.1 x.2.2.2.1 x.2.2.2.2.1 x.2.2.2.2.2.1 x.2.2.2.2.2.2.1) hval hW hsz (gl_of hL)
theorem ab {a b : Bool} (h : a = true) (k : b = true) : (a && b) = true := by rw [h, k]; rfl
set_option maxHeartbeats 40000000 in
theorem restateReads_facts : joinedFacts Tryz.prog 9 Tryz.f9 Rows.restateReadsSpec Rows.restateReadsRow = true := by
 unfold joinedFacts
 exact ab (ab (ab (ab (ab (ab (ab (ab (ab (ab (ab (ab (ab (ab (ab (ab (ab (ab (ab (ab (ab (ab (ab (ab (ab (ab (ab (ab (ab (ab (ab (by as_aux_lemma => kernel_rfl) (by as_aux_lemma => kernel_rfl)) (by as_aux_lemma => kernel_rfl)) (by as_aux_lemma => kernel_rfl)) (by as_aux_lemma => kernel_rfl)) (by as_aux_lemma => kernel_rfl)) (by as_aux_lemma => kernel_rfl)) (by as_aux_lemma => kernel_rfl)) (by as_aux_lemma => kernel_rfl)) (by as_aux_lemma => kernel_rfl)) (by as_aux_lemma => kernel_rfl)) (by as_aux_lemma => kernel_rfl)) (by as_aux_lemma => kernel_rfl)) (by as_aux_lemma => kernel_rfl)) (by as_aux_lemma => kernel_rfl)) (by as_aux_lemma => kernel_rfl)) (by as_aux_lemma => kernel_rfl)) (by as_aux_lemma => kernel_rfl)) (by as_aux_lemma => kernel_rfl)) (by as_aux_lemma => kernel_rfl)) (by as_aux_lemma => kernel_rfl)) (by as_aux_lemma => kernel_rfl)) (by as_aux_lemma => kernel_rfl)) (by as_aux_lemma => kernel_rfl)) (by as_aux_lemma => kernel_rfl)) (by as_aux_lemma => kernel_rfl)) (by as_aux_lemma => kernel_rfl)) (by as_aux_lemma => kernel_rfl)) (by as_aux_lemma => kernel_rfl)) (by as_aux_lemma => kernel_rfl)) (by as_aux_lemma => kernel_rfl)) (by as_aux_lemma => kernel_rfl)
theorem restateReads_named : Tryz.prog.funcNamed Rows.restateReadsRow.func = some 9 := by kernel_rfl
theorem restateReads_said : Rows.RestateReadsSaid :=
 OpenClaim.holds_of_wide 9 Tryz.f9 rfl rfl rfl rfl rfl rfl rfl ⟨rfl, rfl, rfl, rfl, rfl⟩ rfl rfl rfl rfl rfl restateReads_named Tryz.func9 restateReads_facts
  (of_decide_eq_true (by as_aux_lemma => kernel_rfl)) (by unfold Func.isWrapper; first | (rw [if_pos (by decide +kernel)]; kernel_rfl) | (rw [if_neg (by decide +kernel)]; exact ⟨rfl, rfl⟩))
  (fun os started H enc _ => restateReads_lifted os started H enc)
theorem restateReads_card : Rows.RestateReadsCardSaid :=
 Claim7.holds_tied_plain_at .later [] _ _ _ _ restateReads_said (fun _ h => by cases h) (by as_aux_lemma => kernel_rfl) (fun _ h => by cases h) restateReads_row_tie rfl ⟨rfl, rfl⟩ (by as_aux_lemma => kernel_rfl) rfl
  (fun f fn hf hfn => by
   obtain rfl : f = 9 := Option.some.inj (restateReads_named.symm.trans hf) |>.symm
   obtain rfl : fn = Tryz.f9 := (Option.some.inj (Tryz.func9.symm.trans hfn)).symm
   exact ⟨by as_aux_lemma => kernel_rfl, fun j t ht => by
    rw [Tryz.params9] at ht
    have hm : t ∈ [27, 27, 34, 3, 3, 9, 9] := by simpa using Array.mem_of_getElem? ht
    have hall : ([27, 27, 34, 3, 3, 9, 9].all fun u => !Tryz.prog.wantsStandIn u) = true := by as_aux_lemma => kernel_rfl
    exact (show Tryz.prog.wantsStandIn t = false by simpa using List.all_eq_true.1 hall t hm)⟩)
  (by as_aux_lemma => kernel_rfl)
#print axioms restateReads_card
end Go.Proofs.YtlhemheagekhaaaGreatDoor
