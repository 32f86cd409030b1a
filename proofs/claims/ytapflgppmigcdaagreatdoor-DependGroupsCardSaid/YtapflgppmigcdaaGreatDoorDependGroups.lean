/-
  For every input the law DependGroups returns true, and its arguments read afterwards as before: Groups and Of return what the reference implementation returns, for any setup and facts, any groups and any fact. No condition beyond those of the given card (the listed package-level variables hold what the program text lays).
-/
import Derived.Test.YtapflgppmigcdaaGreatDoorA22
set_option linter.all false
namespace Go.Proofs.YtapflgppmigcdaaGreatDoor
open Go.ChangeShapes Go.WideShapes Go.ChangeAt Go.RowKit Go.T
set_option maxRecDepth 100000
theorem dependGroups_dec:qR Tryz.prog Tryz.f4.params.toList (Setup×(List Fact)×(List (List aa))×Fact×Unit) (fun x=>[.agg (fC x.1),cN x.2.1,cB x.2.2.1,.agg (aX x.2.2.2.1)]):=by
 rw[Tryz.params4];exact .N5 Tryz.underlying30 aal (.cons aam (.slice Tryz.underlying31) (.cons aap (.slice Tryz.underlying43) (.N5 Tryz.underlying39 Ol .nil)))
theorem dependGroups_lifted(os:Os)(My:os.Started)(H:Type)(enc:TypeId×Value→H):
  ReturnsInHanded {} Tryz.checked os 4 .any (fun w args=>(Rows.dependGroupsSpec.pre enc Tryz.prog Tryz.f4 Rows.dependGroupsRow.domain false w args∧laidMetH Tryz.prog Rows.dependGroupsRow.laid w)∧sizedMet enc Tryz.prog Tryz.f4 (OpenSpec.ofChange Rows.dependGroupsSpec) false w args)
   (Rows.dependGroupsSpec.post enc Tryz.prog Tryz.f4 false true false false):=by
 refine returnsInHanded_of_change_and (C:=Tryz.checked) (X:=fun w _=>laidMetH Tryz.prog Rows.dependGroupsRow.laid w) (fun _ _ _ hh h=>h.of_heap hh) anz My (by kernel_rfl) Tryz.func4
  (ChangeSpec.witness_shaped (enc:=enc) (C:=Tryz.checked) (os:=os) (X:=fun w _=>laidMetH Tryz.prog Rows.dependGroupsRow.laid w) false (World.laidAll Tryz.prog os Rows.dependGroupsRow.laid) #[.agg #[.slice none 0 0,.slice none 0 0,.slice none 0 0,.slice none 0 0,.slice none 0 0,.slice none 0 0,.int .i64 0],.slice none 0 0,.slice none 0 0,.agg #[.string ⟨#[]⟩,.int .i64 0,.bool false,.int .i64 0,.int .i64 0,.string ⟨#[]⟩,.string ⟨#[]⟩,.string ⟨#[]⟩,.string ⟨#[]⟩,.string ⟨#[]⟩,.string ⟨#[]⟩,.string ⟨#[]⟩,.string ⟨#[]⟩,.string ⟨#[]⟩,.string ⟨#[]⟩,.string ⟨#[]⟩,.string ⟨#[]⟩,.string ⟨#[]⟩,.slice none 0 0,.slice none 0 0,.int .i64 0]] 8 (World.laidAll_os _ _ _)
   (World.shaped_of_ZipB (by kernel_rfl) (by kernel_rfl)) (by kernel_rfl) (by kernel_rfl) (by kernel_rfl)
   (by rw[MakeChecks.laidMetH_plain _ _ _ (by kernel_rfl)];exact laidMet_laidAll _ (by kernel_rfl) (by kernel_rfl))) ?_
 intro W dz args ds gs Ny E6 hW _ aY hL _;exact agh anx anw (by rw[Tryz.params4,anA];decide) rfl rfl Tryz.underlying4
  (fun H ds hl=>by
   rw[Tryz.params4]at hl
   match ds,hl with
   |[_,_,_,_],_=>rfl) dependGroups_dec (fun x=>agf x.1 x.2.1 x.2.2.1 x.2.2.2.1) E6 hW aY (adf hL)
theorem ab{a b:Bool}(h:a=true)(k:b=true):(a&&b)=true:=by rw[h,k];rfl
set_option maxHeartbeats 40000000 in
theorem dependGroups_facts:joinedFacts Tryz.prog 4 Tryz.f4 Rows.dependGroupsSpec Rows.dependGroupsRow=true:=by
 unfold joinedFacts;exact ab (ab (ab (ab (ab (ab (ab (ab (ab (ab (ab (ab (ab (ab (ab (ab (ab (ab (ab (ab (ab (ab (ab (ab (ab (ab (ab (ab (ab (ab (ab (by as_aux_lemma=>kernel_rfl) (by as_aux_lemma=>kernel_rfl)) (by as_aux_lemma=>kernel_rfl)) (by as_aux_lemma=>kernel_rfl)) (by as_aux_lemma=>kernel_rfl)) (by as_aux_lemma=>kernel_rfl)) (by as_aux_lemma=>kernel_rfl)) (by as_aux_lemma=>kernel_rfl)) (by as_aux_lemma=>kernel_rfl)) (by as_aux_lemma=>kernel_rfl)) (by as_aux_lemma=>kernel_rfl)) (by as_aux_lemma=>kernel_rfl)) (by as_aux_lemma=>kernel_rfl)) (by as_aux_lemma=>kernel_rfl)) (by as_aux_lemma=>kernel_rfl)) (by as_aux_lemma=>kernel_rfl)) (by as_aux_lemma=>kernel_rfl)) (by as_aux_lemma=>kernel_rfl)) (by as_aux_lemma=>kernel_rfl)) (by as_aux_lemma=>kernel_rfl)) (by as_aux_lemma=>kernel_rfl)) (by as_aux_lemma=>kernel_rfl)) (by as_aux_lemma=>kernel_rfl)) (by as_aux_lemma=>kernel_rfl)) (by as_aux_lemma=>kernel_rfl)) (by as_aux_lemma=>kernel_rfl)) (by as_aux_lemma=>kernel_rfl)) (by as_aux_lemma=>kernel_rfl)) (by as_aux_lemma=>kernel_rfl)) (by as_aux_lemma=>kernel_rfl)) (by as_aux_lemma=>kernel_rfl)) (by as_aux_lemma=>kernel_rfl)
theorem dependGroups_named:Tryz.prog.funcNamed Rows.dependGroupsRow.func=some 4:=by kernel_rfl
theorem dependGroups_said:Rows.DependGroupsSaid:=
 OpenClaim.holds_of_wide 4 Tryz.f4 rfl rfl rfl rfl rfl rfl rfl ⟨rfl,rfl,rfl,rfl,rfl⟩ rfl rfl rfl rfl rfl dependGroups_named Tryz.func4 dependGroups_facts
  (of_decide_eq_true (by as_aux_lemma=>kernel_rfl)) (by unfold Func.isWrapper;first|(rw[if_pos zK];kernel_rfl)|(rw[if_neg zK];exact⟨rfl,rfl⟩))
  (fun os My H enc _=>dependGroups_lifted os My H enc)
theorem dependGroups_card:Rows.DependGroupsCardSaid:=
 Claim7.holds_tied_plain_at .later [] _ _ _ _ dependGroups_said (fun _ h=>by cases h) (by as_aux_lemma=>kernel_rfl) (fun _ h=>by cases h) dependGroups_row_tie rfl ⟨rfl,rfl⟩ (by as_aux_lemma=>kernel_rfl) rfl
  (fun f fn hf hfn=>by
   obtain rfl:f=4:=Option.some.inj (dependGroups_named.symm.trans hf)|>.symm;obtain rfl:fn=Tryz.f4:=(Option.some.inj (Tryz.func4.symm.trans hfn)).symm;exact⟨by as_aux_lemma=>kernel_rfl,fun j t ht=>by
    rw[Tryz.params4]at ht;have hm:t∈[30,31,43,39]:=by simpa using Array.mem_of_getElem? ht
    have dW:([30,31,43,39].all fun u=>!Tryz.prog.wantsStandIn u)=true:=by as_aux_lemma=>kernel_rfl
    exact(show Tryz.prog.wantsStandIn t=false by simpa using List.all_eq_true.1 dW t hm)⟩)
  (by as_aux_lemma=>kernel_rfl)
#print axioms dependGroups_card
end Go.Proofs.YtapflgppmigcdaaGreatDoor

