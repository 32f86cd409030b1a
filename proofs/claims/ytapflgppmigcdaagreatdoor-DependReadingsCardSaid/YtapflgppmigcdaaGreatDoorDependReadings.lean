/-
  For every input the law DependReadings returns true, and its arguments read afterwards as before: Part, Reads and Affected answer as the reference does. No condition beyond those of the given card (the listed package-level variables hold what the program text lays).
-/
import Derived.Test.YtapflgppmigcdaaGreatDoorA23
set_option linter.all false
namespace Go.Proofs.YtapflgppmigcdaaGreatDoor
open Go.ChangeShapes Go.WideShapes Go.ChangeAt Go.RowKit Go.T
set_option maxRecDepth 100000
theorem dependReadings_dec:sJ Tryz.prog Tryz.f6.params.toList (Setup×(List Fact)×(List Fact)×(List (List aa))×Int×aa×Unit) (fun x=>[.agg (im x.1),aQ x.2.1,aQ x.2.2.1,dm x.2.2.2.1,.i x.2.2.2.2.1,.str x.2.2.2.2.2.1]):=by
 rw[Tryz.params6];exact .aem Tryz.underlying30 ae6 (.cons R7 (.slice Tryz.underlying31) (.cons R7 (.slice Tryz.underlying31) (.cons ae_ (.slice Tryz.underlying43) (.cons (bI.int Tryz.underlying3) (.int Tryz.underlying3) (.cons (bI.str Tryz.underlying9) (.str Tryz.underlying9) .nil)))))
theorem dependReadings_lifted(os:Os)(P_:os.Started)(H:Type)(enc:TypeId×Value→H):
  ReturnsInHanded {} Tryz.checked os 6 .any (fun w args=>(Rows.dependReadingsSpec.pre enc Tryz.prog Tryz.f6 Rows.dependReadingsRow.domain false w args∧laidMetH Tryz.prog Rows.dependReadingsRow.laid w)∧sizedMet enc Tryz.prog Tryz.f6 (OpenSpec.ofChange Rows.dependReadingsSpec) false w args)
   (Rows.dependReadingsSpec.post enc Tryz.prog Tryz.f6 false true false false):=by
 refine returnsInHanded_of_change_and (C:=Tryz.checked) (X:=fun w _=>laidMetH Tryz.prog Rows.dependReadingsRow.laid w) (fun _ _ _ hh h=>h.of_heap hh) atm P_ (by kernel_rfl) Tryz.func6
  (ChangeSpec.witness_shaped (enc:=enc) (C:=Tryz.checked) (os:=os) (X:=fun w _=>laidMetH Tryz.prog Rows.dependReadingsRow.laid w) false (World.laidAll Tryz.prog os Rows.dependReadingsRow.laid) #[.agg #[.slice none 0 0,.slice none 0 0,.slice none 0 0,.slice none 0 0,.slice none 0 0,.slice none 0 0,.int .i64 0],.slice none 0 0,.slice none 0 0,.slice none 0 0,.int .i64 0,.string ⟨#[]⟩] 8 (World.laidAll_os _ _ _)
   (World.shaped_of_ZipB (by kernel_rfl) (by kernel_rfl)) (by kernel_rfl) (by kernel_rfl) (by kernel_rfl)
   (by rw[MakeChecks.laidMetH_plain _ _ _ (by kernel_rfl)];exact laidMet_laidAll _ (by kernel_rfl) (by kernel_rfl))) ?_
 intro W base args ds gs Ra HL hW _ bb hL _;exact ak_ atl atk (by rw[Tryz.params6,atn];decide) rfl rfl Tryz.underlying4
  (fun H ds hl=>by
   rw[Tryz.params6]at hl
   match ds,hl with
   |[_,_,_,_,_,_],_=>rfl) dependReadings_dec (fun x=>ak9 x.1 x.2.1 x.2.2.1 x.2.2.2.1 x.2.2.2.2.1 x.2.2.2.2.2.1) HL hW bb (ah2 hL)
theorem ab{a b:Bool}(h:a=true)(k:b=true):(a&&b)=true:=by rw[h,k];rfl
set_option maxHeartbeats 40000000 in
theorem dependReadings_facts:joinedFacts Tryz.prog 6 Tryz.f6 Rows.dependReadingsSpec Rows.dependReadingsRow=true:=by
 unfold joinedFacts;exact ab (ab (ab (ab (ab (ab (ab (ab (ab (ab (ab (ab (ab (ab (ab (ab (ab (ab (ab (ab (ab (ab (ab (ab (ab (ab (ab (ab (ab (ab (ab (by as_aux_lemma=>kernel_rfl) (by as_aux_lemma=>kernel_rfl)) (by as_aux_lemma=>kernel_rfl)) (by as_aux_lemma=>kernel_rfl)) (by as_aux_lemma=>kernel_rfl)) (by as_aux_lemma=>kernel_rfl)) (by as_aux_lemma=>kernel_rfl)) (by as_aux_lemma=>kernel_rfl)) (by as_aux_lemma=>kernel_rfl)) (by as_aux_lemma=>kernel_rfl)) (by as_aux_lemma=>kernel_rfl)) (by as_aux_lemma=>kernel_rfl)) (by as_aux_lemma=>kernel_rfl)) (by as_aux_lemma=>kernel_rfl)) (by as_aux_lemma=>kernel_rfl)) (by as_aux_lemma=>kernel_rfl)) (by as_aux_lemma=>kernel_rfl)) (by as_aux_lemma=>kernel_rfl)) (by as_aux_lemma=>kernel_rfl)) (by as_aux_lemma=>kernel_rfl)) (by as_aux_lemma=>kernel_rfl)) (by as_aux_lemma=>kernel_rfl)) (by as_aux_lemma=>kernel_rfl)) (by as_aux_lemma=>kernel_rfl)) (by as_aux_lemma=>kernel_rfl)) (by as_aux_lemma=>kernel_rfl)) (by as_aux_lemma=>kernel_rfl)) (by as_aux_lemma=>kernel_rfl)) (by as_aux_lemma=>kernel_rfl)) (by as_aux_lemma=>kernel_rfl)) (by as_aux_lemma=>kernel_rfl)) (by as_aux_lemma=>kernel_rfl)
theorem dependReadings_named:Tryz.prog.funcNamed Rows.dependReadingsRow.func=some 6:=by kernel_rfl
theorem dependReadings_said:Rows.DependReadingsSaid:=
 OpenClaim.holds_of_wide 6 Tryz.f6 rfl rfl rfl rfl rfl rfl rfl ⟨rfl,rfl,rfl,rfl,rfl⟩ rfl rfl rfl rfl rfl dependReadings_named Tryz.func6 dependReadings_facts
  (of_decide_eq_true (by as_aux_lemma=>kernel_rfl)) (by unfold Func.isWrapper;first|(rw[if_pos zK];kernel_rfl)|(rw[if_neg zK];exact⟨rfl,rfl⟩))
  (fun os P_ H enc _=>dependReadings_lifted os P_ H enc)
theorem dependReadings_card:Rows.DependReadingsCardSaid:=
 Claim7.holds_tied_plain_at .later [] _ _ _ _ dependReadings_said (fun _ h=>by cases h) (by as_aux_lemma=>kernel_rfl) (fun _ h=>by cases h) dependReadings_row_tie rfl ⟨rfl,rfl⟩ (by as_aux_lemma=>kernel_rfl) rfl
  (fun f fn hf hfn=>by
   obtain rfl:f=6:=Option.some.inj (dependReadings_named.symm.trans hf)|>.symm;obtain rfl:fn=Tryz.f6:=(Option.some.inj (Tryz.func6.symm.trans hfn)).symm;exact⟨by as_aux_lemma=>kernel_rfl,fun j t ht=>by
    rw[Tryz.params6]at ht;have hm:t∈[30,31,31,43,3,9]:=by simpa using Array.mem_of_getElem? ht
    have eI:([30,31,31,43,3,9].all fun u=>!Tryz.prog.wantsStandIn u)=true:=by as_aux_lemma=>kernel_rfl
    exact(show Tryz.prog.wantsStandIn t=false by simpa using List.all_eq_true.1 eI t hm)⟩)
  (by as_aux_lemma=>kernel_rfl)
#print axioms dependReadings_card
end Go.Proofs.YtapflgppmigcdaaGreatDoor

