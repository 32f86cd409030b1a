/-
  For every input the law DependJoins returns true, and its arguments read afterwards as before: Join returns the books of the reference. No condition beyond those of the given card (the listed package-level variables hold what the program text lays).
-/
import Derived.Test.YtoaceanbddegbaaGreatDoorA22
set_option linter.all false
namespace Go.Proofs.YtoaceanbddegbaaGreatDoor
open Go.ChangeShapes Go.WideShapes Go.ChangeAt Go.RowKit Go.T
set_option maxRecDepth 100000
theorem dependJoins_dec:wI Tryz.prog Tryz.f3.params.toList ((List jx)×Unit) (fun x=>[.snap 7 false (x.1.map kG)]):=by
 rw[Tryz.params3];exact .cons Zg (.slice Tryz.underlying22) .nil
theorem dependJoins_lifted(os:Os)(LV:os.Started)(H:Type)(enc:TypeId×Value→H):
  ReturnsInHanded {} Tryz.checked os 3 .any (fun w args=>(Rows.dependJoinsSpec.pre enc Tryz.prog Tryz.f3 Rows.dependJoinsRow.domain false w args∧laidMetH Tryz.prog Rows.dependJoinsRow.laid w)∧sizedMet enc Tryz.prog Tryz.f3 (OpenSpec.ofChange Rows.dependJoinsSpec) false w args)
   (Rows.dependJoinsSpec.post enc Tryz.prog Tryz.f3 false true false false):=by
 refine returnsInHanded_of_change_and (C:=Tryz.checked) (X:=fun w _=>laidMetH Tryz.prog Rows.dependJoinsRow.laid w) (fun _ _ _ hh h=>h.of_heap hh) am2 LV (by kernel_rfl) Tryz.func3
  (ChangeSpec.witness_shaped (enc:=enc) (C:=Tryz.checked) (os:=os) (X:=fun w _=>laidMetH Tryz.prog Rows.dependJoinsRow.laid w) false (World.laidAll Tryz.prog os Rows.dependJoinsRow.laid) #[.slice none 0 0] 8 (World.laidAll_os _ _ _)
   (World.shaped_of_ZipB (by kernel_rfl) (by kernel_rfl)) (by kernel_rfl) (by kernel_rfl) (by kernel_rfl)
   (by rw[MakeChecks.laidMetH_plain _ _ _ (by kernel_rfl)];exact laidMet_laidAll _ (by kernel_rfl) (by kernel_rfl))) ?_
 intro W ez args ds gs M7 E8 hW _ aY hL _;exact aeQ am1 am0 (by rw[Tryz.params3,am3];decide) rfl rfl Tryz.underlying4
  (fun H ds hl=>by
   rw[Tryz.params3]at hl
   match ds,hl with
   |[_],_=>rfl) dependJoins_dec (fun x=>aeO x.1) E8 hW aY (abT hL)
theorem ab{a b:Bool}(h:a=true)(k:b=true):(a&&b)=true:=by rw[h,k];rfl
set_option maxHeartbeats 40000000 in
theorem dependJoins_facts:joinedFacts Tryz.prog 3 Tryz.f3 Rows.dependJoinsSpec Rows.dependJoinsRow=true:=by
 unfold joinedFacts;exact ab (ab (ab (ab (ab (ab (ab (ab (ab (ab (ab (ab (ab (ab (ab (ab (ab (ab (ab (ab (ab (ab (ab (ab (ab (ab (ab (ab (ab (ab (ab (by as_aux_lemma=>kernel_rfl) (by as_aux_lemma=>kernel_rfl)) (by as_aux_lemma=>kernel_rfl)) (by as_aux_lemma=>kernel_rfl)) (by as_aux_lemma=>kernel_rfl)) (by as_aux_lemma=>kernel_rfl)) (by as_aux_lemma=>kernel_rfl)) (by as_aux_lemma=>kernel_rfl)) (by as_aux_lemma=>kernel_rfl)) (by as_aux_lemma=>kernel_rfl)) (by as_aux_lemma=>kernel_rfl)) (by as_aux_lemma=>kernel_rfl)) (by as_aux_lemma=>kernel_rfl)) (by as_aux_lemma=>kernel_rfl)) (by as_aux_lemma=>kernel_rfl)) (by as_aux_lemma=>kernel_rfl)) (by as_aux_lemma=>kernel_rfl)) (by as_aux_lemma=>kernel_rfl)) (by as_aux_lemma=>kernel_rfl)) (by as_aux_lemma=>kernel_rfl)) (by as_aux_lemma=>kernel_rfl)) (by as_aux_lemma=>kernel_rfl)) (by as_aux_lemma=>kernel_rfl)) (by as_aux_lemma=>kernel_rfl)) (by as_aux_lemma=>kernel_rfl)) (by as_aux_lemma=>kernel_rfl)) (by as_aux_lemma=>kernel_rfl)) (by as_aux_lemma=>kernel_rfl)) (by as_aux_lemma=>kernel_rfl)) (by as_aux_lemma=>kernel_rfl)) (by as_aux_lemma=>kernel_rfl)) (by as_aux_lemma=>kernel_rfl)
theorem dependJoins_named:Tryz.prog.funcNamed Rows.dependJoinsRow.func=some 3:=by kernel_rfl
theorem dependJoins_said:Rows.DependJoinsSaid:=
 OpenClaim.holds_of_wide 3 Tryz.f3 rfl rfl rfl rfl rfl rfl rfl ⟨rfl,rfl,rfl,rfl,rfl⟩ rfl rfl rfl rfl rfl dependJoins_named Tryz.func3 dependJoins_facts
  (of_decide_eq_true (by as_aux_lemma=>kernel_rfl)) (by unfold Func.isWrapper;first|(rw[if_pos zK];kernel_rfl)|(rw[if_neg zK];exact⟨rfl,rfl⟩))
  (fun os LV H enc _=>dependJoins_lifted os LV H enc)
theorem dependJoins_card:Rows.DependJoinsCardSaid:=
 Claim7.holds_tied_plain_at .later [] _ _ _ _ dependJoins_said (fun _ h=>by cases h) (by as_aux_lemma=>kernel_rfl) (fun _ h=>by cases h) dependJoins_row_tie rfl ⟨rfl,rfl⟩ (by as_aux_lemma=>kernel_rfl) rfl
  (fun f fn hf hfn=>by
   obtain rfl:f=3:=Option.some.inj (dependJoins_named.symm.trans hf)|>.symm;obtain rfl:fn=Tryz.f3:=(Option.some.inj (Tryz.func3.symm.trans hfn)).symm;exact⟨by as_aux_lemma=>kernel_rfl,fun j t ht=>by
    rw[Tryz.params3]at ht;have hm:t∈[22]:=by simpa using Array.mem_of_getElem? ht
    have eI:([22].all fun u=>!Tryz.prog.wantsStandIn u)=true:=by as_aux_lemma=>kernel_rfl
    exact(show Tryz.prog.wantsStandIn t=false by simpa using List.all_eq_true.1 eI t hm)⟩)
  (by as_aux_lemma=>kernel_rfl)
#print axioms dependJoins_card
end Go.Proofs.YtoaceanbddegbaaGreatDoor

