/-
  For every input the law RestateBetween returns true, and its arguments read afterwards as before: what was posted up to a number, and between it and a greater one, is together what was posted up to this, and their balances add up. No condition beyond those of the given card (the listed package-level variables hold what the program text lays).
-/
import Derived.Test.YtlhemheagekhaaaGreatDoorA17
set_option linter.all false
namespace Go.Proofs.YtlhemheagekhaaaGreatDoor
open Go.ChangeShapes Go.WideShapes Go.ChangeAt Go.RowKit Go.T
set_option maxRecDepth 100000
theorem d_u8 : Dec Tryz.prog 5 {n : Int // 0 ≤ n ∧ n ≤ 255} (fun n => [.raw (.int .u8 n.1)]) := ⟨fun h _ => by
  obtain ⟨n, rfl, _, hn⟩ := DataW.trod_int Tryz.underlying5 h
  exact ⟨⟨n, by have := hn; simp [Lit.wf, IntKind.min, IntKind.max, IntKind.bits, IntKind.signed] at this; omega⟩, by simp [Value.oneCell'], by simp [Vs, V]⟩⟩
theorem restateBetween_dec : DecL Tryz.prog Tryz.f7.params.toList (List Posted × {n : Int // 0 ≤ n ∧ n ≤ 255} × {n : Int // 0 ≤ n ∧ n ≤ 255} × Unit) (fun x => [sPosteds x.1, .raw (.int .u8 x.2.1.1), .raw (.int .u8 x.2.2.1.1)]) := by
  rw [Tryz.params7]
  exact .cons d_posteds (.slice Tryz.underlying27) (.cons d_u8 (.int Tryz.underlying5) (.cons d_u8 (.int Tryz.underlying5) .nil))
theorem restateBetween_lifted (os : Os) (started : os.Started) (H : Type) (enc : TypeId × Value → H) :
    ReturnsInHanded {} Tryz.checked os 7 .any (fun w args => (Rows.restateBetweenSpec.pre enc Tryz.prog Tryz.f7 Rows.restateBetweenRow.domain false w args ∧ laidMetH Tryz.prog Rows.restateBetweenRow.laid w) ∧ sizedMet enc Tryz.prog Tryz.f7 (OpenSpec.ofChange Rows.restateBetweenSpec) false w args)
      (Rows.restateBetweenSpec.post enc Tryz.prog Tryz.f7 false true false false) := by
  refine returnsInHanded_of_change_and (C := Tryz.checked) (X := fun w _ => laidMetH Tryz.prog Rows.restateBetweenRow.laid w) (fun _ _ _ hh h => h.of_heap hh) tz_own started (by kernel_rfl) Tryz.func7
    (ChangeSpec.witness_shaped (enc := enc) (C := Tryz.checked) (os := os) (X := fun w _ => laidMetH Tryz.prog Rows.restateBetweenRow.laid w) false (World.laidAll Tryz.prog os Rows.restateBetweenRow.laid) #[.slice none 0 0, .int .u8 0, .int .u8 0] 8 (World.laidAll_os _ _ _)
      (World.shaped_of_ZipB (by kernel_rfl) (by kernel_rfl)) (by kernel_rfl) (by kernel_rfl) (by kernel_rfl)
      (by rw [MakeChecks.laidMetH_plain _ _ _ (by kernel_rfl)]; exact laidMet_laidAll _ (by kernel_rfl) (by kernel_rfl))) ?_
  intro W base args ds gs before hval hW _ hsz hL _
  exact law_contract tz_kids tz_full (by rw [Tryz.params7, tz_size]; decide) rfl rfl Tryz.underlying4
    (fun H ds hl => by
      rw [Tryz.params7] at hl
      match ds, hl with
      | [_, _, _], _ => rfl) restateBetween_dec (fun x => lawBetween_ok x.1 x.2.1.1 x.2.2.1.1 x.2.1.2 x.2.2.1.2) hval hW hsz (gl_of hL)
theorem ab {a b : Bool} (h : a = true) (k : b = true) : (a && b) = true := by rw [h, k]; rfl
set_option maxHeartbeats 40000000 in
theorem restateBetween_facts : joinedFacts Tryz.prog 7 Tryz.f7 Rows.restateBetweenSpec Rows.restateBetweenRow = true := by
  unfold joinedFacts
  exact ab (ab (ab (ab (ab (ab (ab (ab (ab (ab (ab (ab (ab (ab (ab (ab (ab (ab (ab (ab (ab (ab (ab (ab (ab (ab (ab (ab (ab (ab (ab (by as_aux_lemma => kernel_rfl) (by as_aux_lemma => kernel_rfl)) (by as_aux_lemma => kernel_rfl)) (by as_aux_lemma => kernel_rfl)) (by as_aux_lemma => kernel_rfl)) (by as_aux_lemma => kernel_rfl)) (by as_aux_lemma => kernel_rfl)) (by as_aux_lemma => kernel_rfl)) (by as_aux_lemma => kernel_rfl)) (by as_aux_lemma => kernel_rfl)) (by as_aux_lemma => kernel_rfl)) (by as_aux_lemma => kernel_rfl)) (by as_aux_lemma => kernel_rfl)) (by as_aux_lemma => kernel_rfl)) (by as_aux_lemma => kernel_rfl)) (by as_aux_lemma => kernel_rfl)) (by as_aux_lemma => kernel_rfl)) (by as_aux_lemma => kernel_rfl)) (by as_aux_lemma => kernel_rfl)) (by as_aux_lemma => kernel_rfl)) (by as_aux_lemma => kernel_rfl)) (by as_aux_lemma => kernel_rfl)) (by as_aux_lemma => kernel_rfl)) (by as_aux_lemma => kernel_rfl)) (by as_aux_lemma => kernel_rfl)) (by as_aux_lemma => kernel_rfl)) (by as_aux_lemma => kernel_rfl)) (by as_aux_lemma => kernel_rfl)) (by as_aux_lemma => kernel_rfl)) (by as_aux_lemma => kernel_rfl)) (by as_aux_lemma => kernel_rfl)) (by as_aux_lemma => kernel_rfl)
theorem restateBetween_named : Tryz.prog.funcNamed Rows.restateBetweenRow.func = some 7 := by kernel_rfl
theorem restateBetween_said : Rows.RestateBetweenSaid :=
  OpenClaim.holds_of_wide 7 Tryz.f7 rfl rfl rfl rfl rfl rfl rfl ⟨rfl, rfl, rfl, rfl, rfl⟩ rfl rfl rfl rfl rfl restateBetween_named Tryz.func7 restateBetween_facts
    (of_decide_eq_true (by as_aux_lemma => kernel_rfl)) (by unfold Func.isWrapper; first | (rw [if_pos (by decide +kernel)]; kernel_rfl) | (rw [if_neg (by decide +kernel)]; exact ⟨rfl, rfl⟩))
    (fun os started H enc _ => restateBetween_lifted os started H enc)
theorem restateBetween_card : Rows.RestateBetweenCardSaid :=
  Claim7.holds_tied_plain_at .later [] _ _ _ _ restateBetween_said (fun _ h => by cases h) (by as_aux_lemma => kernel_rfl) (fun _ h => by cases h) restateBetween_row_tie rfl ⟨rfl, rfl⟩ (by as_aux_lemma => kernel_rfl) rfl
    (fun f fn hf hfn => by
      obtain rfl : f = 7 := Option.some.inj (restateBetween_named.symm.trans hf) |>.symm
      obtain rfl : fn = Tryz.f7 := (Option.some.inj (Tryz.func7.symm.trans hfn)).symm
      exact ⟨by as_aux_lemma => kernel_rfl, fun j t ht => by
        rw [Tryz.params7] at ht
        have hm : t ∈ [27, 5, 5] := by simpa using Array.mem_of_getElem? ht
        have hall : ([27, 5, 5].all fun u => !Tryz.prog.wantsStandIn u) = true := by as_aux_lemma => kernel_rfl
        exact (show Tryz.prog.wantsStandIn t = false by simpa using List.all_eq_true.1 hall t hm)⟩)
    (by as_aux_lemma => kernel_rfl)
#print axioms restateBetween_card
end Go.Proofs.YtlhemheagekhaaaGreatDoor
