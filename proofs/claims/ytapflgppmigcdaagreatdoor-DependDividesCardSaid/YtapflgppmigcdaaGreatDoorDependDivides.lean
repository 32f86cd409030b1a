/-
  For every input the law DependDivides returns true, and its arguments read afterwards as before: if the groups of a setup and a view can be formed, every name lies in exactly one group, and the facts of the view are divided among the parts in their order. No condition beyond those of the given card (the listed package-level variables hold what the program text lays).
-/
import Derived.Test.YtapflgppmigcdaaGreatDoorA21
set_option linter.all false
namespace Go.Proofs.YtapflgppmigcdaaGreatDoor
open Go.ChangeShapes Go.WideShapes Go.ChangeAt Go.RowKit Go.T
set_option maxRecDepth 100000
theorem dependDivides_dec:qc Tryz.prog Tryz.f5.params.toList (Setup×(List Fact)×Unit) (fun x=>[.agg (iR x.1),bz x.2.1]):=by
 rw[Tryz.params5];exact .Xb Tryz.underlying30 XS (.cons XT (.slice Tryz.underlying31) .nil)
theorem dependDivides_lifted(os:Os)(Kv:os.Started)(H:Type)(enc:TypeId×Value→H):
  ReturnsInHanded {} Tryz.checked os 5 .any (fun w args=>(Rows.dependDividesSpec.pre enc Tryz.prog Tryz.f5 Rows.dependDividesRow.domain false w args∧laidMetH Tryz.prog Rows.dependDividesRow.laid w)∧sizedMet enc Tryz.prog Tryz.f5 (OpenSpec.ofChange Rows.dependDividesSpec) false w args)
   (Rows.dependDividesSpec.post enc Tryz.prog Tryz.f5 false true false false):=by
 refine returnsInHanded_of_change_and (C:=Tryz.checked) (X:=fun w _=>laidMetH Tryz.prog Rows.dependDividesRow.laid w) (fun _ _ _ hh h=>h.of_heap hh) alw Kv (by kernel_rfl) Tryz.func5
  (ChangeSpec.witness_shaped (enc:=enc) (C:=Tryz.checked) (os:=os) (X:=fun w _=>laidMetH Tryz.prog Rows.dependDividesRow.laid w) false (World.laidAll Tryz.prog os Rows.dependDividesRow.laid) #[.agg #[.slice none 0 0,.slice none 0 0,.slice none 0 0,.slice none 0 0,.slice none 0 0,.slice none 0 0,.int .i64 0],.slice none 0 0] 8 (World.laidAll_os _ _ _)
   (World.shaped_of_ZipB (by kernel_rfl) (by kernel_rfl)) (by kernel_rfl) (by kernel_rfl) (by kernel_rfl)
   (by rw[MakeChecks.laidMetH_plain _ _ _ (by kernel_rfl)];exact laidMet_laidAll _ (by kernel_rfl) (by kernel_rfl))) ?_
 intro W iB args ds gs Lt DI hW _ be hL _;exact aey alv alu (by rw[Tryz.params5,alx];decide) rfl rfl Tryz.underlying4
  (fun H ds hl=>by
   rw[Tryz.params5]at hl
   match ds,hl with
   |[_,_],_=>rfl) dependDivides_dec (fun x=>aex x.1 x.2.1) DI hW be (abz hL)
theorem ab{a b:Bool}(h:a=true)(k:b=true):(a&&b)=true:=by rw[h,k];rfl
set_option maxHeartbeats 40000000 in
theorem dependDivides_facts:joinedFacts Tryz.prog 5 Tryz.f5 Rows.dependDividesSpec Rows.dependDividesRow=true:=by
 unfold joinedFacts;exact ab (ab (ab (ab (ab (ab (ab (ab (ab (ab (ab (ab (ab (ab (ab (ab (ab (ab (ab (ab (ab (ab (ab (ab (ab (ab (ab (ab (ab (ab (ab (by as_aux_lemma=>kernel_rfl) (by as_aux_lemma=>kernel_rfl)) (by as_aux_lemma=>kernel_rfl)) (by as_aux_lemma=>kernel_rfl)) (by as_aux_lemma=>kernel_rfl)) (by as_aux_lemma=>kernel_rfl)) (by as_aux_lemma=>kernel_rfl)) (by as_aux_lemma=>kernel_rfl)) (by as_aux_lemma=>kernel_rfl)) (by as_aux_lemma=>kernel_rfl)) (by as_aux_lemma=>kernel_rfl)) (by as_aux_lemma=>kernel_rfl)) (by as_aux_lemma=>kernel_rfl)) (by as_aux_lemma=>kernel_rfl)) (by as_aux_lemma=>kernel_rfl)) (by as_aux_lemma=>kernel_rfl)) (by as_aux_lemma=>kernel_rfl)) (by as_aux_lemma=>kernel_rfl)) (by as_aux_lemma=>kernel_rfl)) (by as_aux_lemma=>kernel_rfl)) (by as_aux_lemma=>kernel_rfl)) (by as_aux_lemma=>kernel_rfl)) (by as_aux_lemma=>kernel_rfl)) (by as_aux_lemma=>kernel_rfl)) (by as_aux_lemma=>kernel_rfl)) (by as_aux_lemma=>kernel_rfl)) (by as_aux_lemma=>kernel_rfl)) (by as_aux_lemma=>kernel_rfl)) (by as_aux_lemma=>kernel_rfl)) (by as_aux_lemma=>kernel_rfl)) (by as_aux_lemma=>kernel_rfl)) (by as_aux_lemma=>kernel_rfl)
theorem dependDivides_named:Tryz.prog.funcNamed Rows.dependDividesRow.func=some 5:=by kernel_rfl
theorem dependDivides_said:Rows.DependDividesSaid:=
 OpenClaim.holds_of_wide 5 Tryz.f5 rfl rfl rfl rfl rfl rfl rfl ⟨rfl,rfl,rfl,rfl,rfl⟩ rfl rfl rfl rfl rfl dependDivides_named Tryz.func5 dependDivides_facts
  (of_decide_eq_true (by as_aux_lemma=>kernel_rfl)) (by unfold Func.isWrapper;first|(rw[if_pos zK];kernel_rfl)|(rw[if_neg zK];exact⟨rfl,rfl⟩))
  (fun os Kv H enc _=>dependDivides_lifted os Kv H enc)
theorem dependDivides_card:Rows.DependDividesCardSaid:=
 Claim7.holds_tied_plain_at .later [] _ _ _ _ dependDivides_said (fun _ h=>by cases h) (by as_aux_lemma=>kernel_rfl) (fun _ h=>by cases h) dependDivides_row_tie rfl ⟨rfl,rfl⟩ (by as_aux_lemma=>kernel_rfl) rfl
  (fun f fn hf hfn=>by
   obtain rfl:f=5:=Option.some.inj (dependDivides_named.symm.trans hf)|>.symm;obtain rfl:fn=Tryz.f5:=(Option.some.inj (Tryz.func5.symm.trans hfn)).symm;exact⟨by as_aux_lemma=>kernel_rfl,fun j t ht=>by
    rw[Tryz.params5]at ht;have hm:t∈[30,31]:=by simpa using Array.mem_of_getElem? ht
    have ez:([30,31].all fun u=>!Tryz.prog.wantsStandIn u)=true:=by as_aux_lemma=>kernel_rfl
    exact(show Tryz.prog.wantsStandIn t=false by simpa using List.all_eq_true.1 ez t hm)⟩)
  (by as_aux_lemma=>kernel_rfl)
#print axioms dependDivides_card
end Go.Proofs.YtapflgppmigcdaaGreatDoor

