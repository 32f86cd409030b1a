/-
  For every input the law RestateDays returns true, and its arguments read afterwards as before: nothing is posted on a day that is closed for its fact, an entry on an open day is posted on its own day, and all other entries are adjusting ones. No condition beyond those of the given card (the listed package-level variables hold what the program text lays).
-/
import Derived.Test.YtlhemheagekhaaaGreatDoorA16
set_option linter.all false
namespace Go.Proofs.YtlhemheagekhaaaGreatDoor
open Go.ChangeShapes Go.WideShapes Go.ChangeAt Go.RowKit Go.T
set_option maxRecDepth 100000
theorem d_u8 : Dec Tryz.prog 5 {n : Int // 0 ≤ n ∧ n ≤ 255} (fun n => [.raw (.int .u8 n.1)]) := ⟨fun h _ => by
  obtain ⟨n, rfl, _, hn⟩ := DataW.trod_int Tryz.underlying5 h
  exact ⟨⟨n, by have := hn; simp [Lit.wf, IntKind.min, IntKind.max, IntKind.bits, IntKind.signed] at this; omega⟩, by simp [Value.oneCell'], by simp [Vs, V]⟩⟩
theorem restateDays_dec : DecL Tryz.prog Tryz.f4.params.toList (List Entry × List Entry × List Close × {n : Int // 0 ≤ n ∧ n ≤ 255} × Unit) (fun x => [sEntries x.1, sEntries x.2.1, sCloses x.2.2.1, .raw (.int .u8 x.2.2.2.1.1)]) := by
  rw [Tryz.params4]
  exact .cons d_entries (.slice Tryz.underlying22) (.cons d_entries (.slice Tryz.underlying22) (.cons d_closes (.slice Tryz.underlying23) (.cons d_u8 (.int Tryz.underlying5) .nil)))
theorem restateDays_lifted (os : Os) (started : os.Started) (H : Type) (enc : TypeId × Value → H) :
    ReturnsInHanded {} Tryz.checked os 4 .any (fun w args => (Rows.restateDaysSpec.pre enc Tryz.prog Tryz.f4 Rows.restateDaysRow.domain false w args ∧ laidMetH Tryz.prog Rows.restateDaysRow.laid w) ∧ sizedMet enc Tryz.prog Tryz.f4 (OpenSpec.ofChange Rows.restateDaysSpec) false w args)
      (Rows.restateDaysSpec.post enc Tryz.prog Tryz.f4 false true false false) := by
  refine returnsInHanded_of_change_and (C := Tryz.checked) (X := fun w _ => laidMetH Tryz.prog Rows.restateDaysRow.laid w) (fun _ _ _ hh h => h.of_heap hh) tz_own started (by kernel_rfl) Tryz.func4
    (ChangeSpec.witness_shaped (enc := enc) (C := Tryz.checked) (os := os) (X := fun w _ => laidMetH Tryz.prog Rows.restateDaysRow.laid w) false (World.laidAll Tryz.prog os Rows.restateDaysRow.laid) #[.slice none 0 0, .slice none 0 0, .slice none 0 0, .int .u8 0] 8 (World.laidAll_os _ _ _)
      (World.shaped_of_ZipB (by kernel_rfl) (by kernel_rfl)) (by kernel_rfl) (by kernel_rfl) (by kernel_rfl)
      (by rw [MakeChecks.laidMetH_plain _ _ _ (by kernel_rfl)]; exact laidMet_laidAll _ (by kernel_rfl) (by kernel_rfl))) ?_
  intro W base args ds gs before hval hW _ hsz hL _
  exact law_contract tz_kids tz_full (by rw [Tryz.params4, tz_size]; decide) rfl rfl Tryz.underlying4
    (fun H ds hl => by
      rw [Tryz.params4] at hl
      match ds, hl with
      | [_, _, _, _], _ => rfl) restateDays_dec (fun x => lawDays_ok x.1 x.2.1 x.2.2.1 x.2.2.2.1.1 x.2.2.2.1.2) hval hW hsz (gl_of hL)
theorem ab {a b : Bool} (h : a = true) (k : b = true) : (a && b) = true := by rw [h, k]; rfl
set_option maxHeartbeats 40000000 in
theorem restateDays_facts : joinedFacts Tryz.prog 4 Tryz.f4 Rows.restateDaysSpec Rows.restateDaysRow = true := by
  unfold joinedFacts
  exact ab (ab (ab (ab (ab (ab (ab (ab (ab (ab (ab (ab (ab (ab (ab (ab (ab (ab (ab (ab (ab (ab (ab (ab (ab (ab (ab (ab (ab (ab (ab (by as_aux_lemma => kernel_rfl) (by as_aux_lemma => kernel_rfl)) (by as_aux_lemma => kernel_rfl)) (by as_aux_lemma => kernel_rfl)) (by as_aux_lemma => kernel_rfl)) (by as_aux_lemma => kernel_rfl)) (by as_aux_lemma => kernel_rfl)) (by as_aux_lemma => kernel_rfl)) (by as_aux_lemma => kernel_rfl)) (by as_aux_lemma => kernel_rfl)) (by as_aux_lemma => kernel_rfl)) (by as_aux_lemma => kernel_rfl)) (by as_aux_lemma => kernel_rfl)) (by as_aux_lemma => kernel_rfl)) (by as_aux_lemma => kernel_rfl)) (by as_aux_lemma => kernel_rfl)) (by as_aux_lemma => kernel_rfl)) (by as_aux_lemma => kernel_rfl)) (by as_aux_lemma => kernel_rfl)) (by as_aux_lemma => kernel_rfl)) (by as_aux_lemma => kernel_rfl)) (by as_aux_lemma => kernel_rfl)) (by as_aux_lemma => kernel_rfl)) (by as_aux_lemma => kernel_rfl)) (by as_aux_lemma => kernel_rfl)) (by as_aux_lemma => kernel_rfl)) (by as_aux_lemma => kernel_rfl)) (by as_aux_lemma => kernel_rfl)) (by as_aux_lemma => kernel_rfl)) (by as_aux_lemma => kernel_rfl)) (by as_aux_lemma => kernel_rfl)) (by as_aux_lemma => kernel_rfl)
theorem restateDays_named : Tryz.prog.funcNamed Rows.restateDaysRow.func = some 4 := by kernel_rfl
theorem restateDays_said : Rows.RestateDaysSaid :=
  OpenClaim.holds_of_wide 4 Tryz.f4 rfl rfl rfl rfl rfl rfl rfl ⟨rfl, rfl, rfl, rfl, rfl⟩ rfl rfl rfl rfl rfl restateDays_named Tryz.func4 restateDays_facts
    (of_decide_eq_true (by as_aux_lemma => kernel_rfl)) (by unfold Func.isWrapper; first | (rw [if_pos (by decide +kernel)]; kernel_rfl) | (rw [if_neg (by decide +kernel)]; exact ⟨rfl, rfl⟩))
    (fun os started H enc _ => restateDays_lifted os started H enc)
theorem restateDays_card : Rows.RestateDaysCardSaid :=
  Claim7.holds_tied_plain_at .later [] _ _ _ _ restateDays_said (fun _ h => by cases h) (by as_aux_lemma => kernel_rfl) (fun _ h => by cases h) restateDays_row_tie rfl ⟨rfl, rfl⟩ (by as_aux_lemma => kernel_rfl) rfl
    (fun f fn hf hfn => by
      obtain rfl : f = 4 := Option.some.inj (restateDays_named.symm.trans hf) |>.symm
      obtain rfl : fn = Tryz.f4 := (Option.some.inj (Tryz.func4.symm.trans hfn)).symm
      exact ⟨by as_aux_lemma => kernel_rfl, fun j t ht => by
        rw [Tryz.params4] at ht
        have hm : t ∈ [22, 22, 23, 5] := by simpa using Array.mem_of_getElem? ht
        have hall : ([22, 22, 23, 5].all fun u => !Tryz.prog.wantsStandIn u) = true := by as_aux_lemma => kernel_rfl
        exact (show Tryz.prog.wantsStandIn t = false by simpa using List.all_eq_true.1 hall t hm)⟩)
    (by as_aux_lemma => kernel_rfl)
#print axioms restateDays_card
end Go.Proofs.YtlhemheagekhaaaGreatDoor
