/-
  Contracts of the functions that the statement reaches, and the logic in which they are proved (no condition): parts W91, SpecD10, W92, Core51, SpecD11, W93, W94.
-/
import Derived.Test.YtoaceanbddegbaaGreatDoorA13
set_option linter.all false
namespace Go.T
open Go Go.Proofs Go.Proofs.Tryz
set_option maxRecDepth 20000
theorem dC.uN{E m:jo}(h:dC E m)(hE:∀p∈E,0≤p.1∧p.1<13):∀p∈m,0≤p.1∧p.1<13:=fun p hp=>hE p (h.2 p hp)
def Fh(m:List (Int×oS)):Prop:=(m.map (·.1)).Perm (nL.map (·.2))∧∀p∈m,r7 p.1 p.2
theorem z6(n i:Nat):aZ (Array.replicate n false) i=false:=by
 unfold aZ;rw[Array.getD_eq_getD_getElem?,Array.getElem?_replicate];split<;>rfl
theorem Od(n:Nat)(l:List (Nat×Int)):m' (Array.replicate n false) l=[]:=by
 unfold m';rw[List.filter_eq_nil_iff.2 (fun e _=>by rw[z6];simp)];rfl
theorem adY{n:Nat}{env:Env}{J:aa}(h1:env.get 1=some (.bz [bR lP]))(h2:env.get 2=some (bR lL))(h3:env.get 3=some (.bz [.fn (.func 136) [] []]))(h4:env.get 4=some (.fn (.func 137) [] [.bz [.fn (.func 136) [] []],.bz [bR (some (true,false))]]))(h5:env.get 5=some (.fn (.func 138) [] []))(h6:env.get 6=some (ej eT))(acY:(List.range 10).all (fun i=>(aa.get J (50+i)).isNone)=true)(hid:lE.all (fun q=>Nat.ble 50 q.id&&Nat.blt q.id 60)=true):oQ (Array.replicate n false) env J:=by
 have cz:∀i,i<10→aa.get J (50+i)=none:=fun i hi=>by simpa using List.all_eq_true.1 acY i (List.mem_range.2 hi)
 refine⟨fun j t h=>?_,⟨h1,h2,h3,h4,h5,h6⟩,⟨fun _=>⟨cz 0 zD,Od _ _⟩,fun h=>?_⟩,fun q hq=>⟨fun _=>⟨?_,Od _ _⟩,fun h=>?_⟩,fun q hq h=>?_⟩
 ·rw[z6]at h;cases h
 ·rw[z6]at h;cases h
 ·have h0:=List.all_eq_true.1 hid q hq;rw[Bool.and_eq_true]at h0;have h1:=Nat.le_of_ble_eq_true h0.1;have h2:q.id<60:=by simpa[Nat.blt_eq]using h0.2
  have:=cz (q.id-50) zO;rwa[show 50+(q.id-50)=q.id by omega]at this
 ·rw[z6]at h;cases h
 ·rw[z6]at h;cases h
theorem aai{listed:Array Bool}{env:Env}{J:aa}(hs:listed.size=124)(eI:∀i,i<124→aZ listed i=true)(hI:oQ listed env J):∃m,Fh m∧Le KF env J [(0,vM iH fK m)] []:=by
 have sF:aZ listed 1000=false:=by unfold aZ;rw[Array.getD_eq_getD_getElem?,Array.getElem?_eq_none zO];rfl
 obtain⟨m,g1,g2,g3⟩:=hI.z_.yes (eI 0 zD) sF;have hd:m' listed nL=nL.map (·.2):=Oc (fun e he=>eI e.1 (by
  have h1:nL.all (fun e=>Nat.blt e.1 124)=true:=by decide+kernel
  simpa[Nat.blt_eq]using List.all_eq_true.1 h1 e he))
 rw[hd]at g2;obtain⟨d,e1,e2⟩:=hI.aE 123 0 (eI 123 zD) rfl;have e2:d=.dj 50:=e2;subst e2;exact⟨m,⟨g2,g3⟩,(Le.Eu (kD:=iH) (vD:=fK) (m:=m) 0 50 e1 g1 (fun _=>rfl) aeA).trans (Le.mk rfl (.s rfl rfl .nil) .nil)⟩
section
variable{ops:Array Oper} {listed:Array Bool} {env:Env} {J:aa} {i t:Nat} {o:Oper} {d:D}
theorem dq{listed:Array Bool}{o:Oper}(hd:∀e∈o.after,Region.binds .any e=true→aZ listed e.on=true)(j:Nat)(h:(o.after.any fun e=>e.on==j&&Region.binds .any e)=true:=by decide+kernel):aZ listed j=true:=dp hd j h
theorem bV(hs:listed.size=ops.size)(hI:oQ listed env J)(hV:zR i d)(hq:aq Tryz.prog o env J d J)(hi:rJ[i]?=some (some t):=by rfl)(ht:(Nat.blt 6 t||t==0)=true:=by rfl)(hN:eQ KF.N (some t)=true:=by rfl)(ho:o.dst=some t:=by rfl)(hg:o.guard=none:=by rfl)
  (hn:Nat.blt i ops.size=true:=by decide+kernel)(hf:Ir i=true:=by decide+kernel)(hz:uE i=true:=by decide+kernel):tz listed env J i o ops:=ahV hs hn hI hi ht hN ho hg hV hf hz hq
theorem lV{k:Int}{v:oS}(hs:listed.size=ops.size)(hI:oQ listed env J)(hl:aZ listed i=false)(qE:aZ listed 0=true)(hv:r7 k v)
  (bd:∀m,J.get 50=some (.mp (bZ iH fK m))→aq Tryz.prog o env J (.raw undef) (J.set 50 (.mp (bZ iH fK (fE m k v)))))(QU:ops.size=124:=by rfl)(hi:rJ[i]?=some none:=by rfl)(ho:o.dst=none:=by rfl)(hg:o.guard=none:=by rfl)
  (hn:Nat.blt i ops.size=true:=by decide+kernel)(hm:(i,k)∈nL:=by decide+kernel)(aG:(!(i==0)&&!(i==1000)&&lE.all fun r=>r.ok i&&!(r.id==50))=true:=by decide+kernel)(pS:(nL.map (·.1)).Nodup:=by decide+kernel)(vH:(nL.map (·.2)).Nodup:=by decide+kernel)(hz:uE i=true:=by decide+kernel):tz listed env J i o ops:=
 adI hs hn QU hI hl hi ho hg qE hm aG pS vH hv hz bd
theorem ou{q:MQ}{k:Int}{v:nU}(hs:listed.size=ops.size)(hI:oQ listed env J)(hl:aZ listed i=false)(qE:aZ listed q.bo=true)
  (bd:∀m,J.get q.id=some (.mp (bZ iH bR m))→aq Tryz.prog o env J (.raw undef) (J.set q.id (.mp (bZ iH bR (fE m k v)))))(hi:rJ[i]?=some none:=by rfl)(ho:o.dst=none:=by rfl)(hg:o.guard=none:=by rfl)
  (hn:Nat.blt i ops.size=true:=by decide+kernel)(hq:q∈lE:=by exact lF zK)(hf:x6 i q=true:=by decide+kernel)(hz:uE i=true:=by decide+kernel)(hm:(i,k)∈q.ins:=by decide+kernel)(aG:(!(i==q.bo)&&!(i==q.fz))=true:=by decide+kernel)(pS:(q.ins.map (·.1)).Nodup:=by decide+kernel)(vH:(q.ins.map (·.2)).Nodup:=by decide+kernel)(hv:(k,v)∈q.E:=by decide+kernel):tz listed env J i o ops:=
 adH hs hn hI hl hi ho hg hq hf qE hz hm aG pS vH hv bd
end
set_option maxHeartbeats 6400000 in
theorem aeH:yG Tryz.prog 99 [] Fh (fun m=>vM iH fK m):=by
 refine yG.mk' [0] func99 rfl ntmps99 rfl rfl (fun _=>rfl) (fun t w=>results_tmp results99 t _ w) ?_;refine U.seq<|rg<|.ag rfl rfl<|.nil<|U.seq<|rg<|.P rfl (aj call135 rfl (A8 _ _))<|.P rfl (aj call135 rfl (A8 _ _))<|.W rfl (ln 0 zeroValue225 rfl)<|.W rfl (qX sizeOf225 rfl rfl rfl rfl zD)<|.ag rfl rfl<|.nil<|U.seq<|rg<|.W rfl (ln 1 zeroValue227 rfl)<|.W rfl (qX sizeOf227 rfl rfl rfl rfl zD)<|.nil ?_;refine U.bC (Le.h_ 3 1 rfl rfl rfl rfl) ?_;refine U.bC (Le.h_ 1 0 rfl rfl rfl rfl) ?_;refine U.seq<|rg<|.P rfl (Lu (xs:=[]) (ys:=_) rfl rfl)<|.ag rfl rfl<|.nil<|U.seq<|rg<|.ag rfl rfl<|.nil<|U.seq<|rg<|.W rfl (oI 2 (fun n:Int=>D.raw (.int .i64 n)) (bR) rfl)<|.P rfl (cG isAgg225 rfl)<|.W rfl (aq.insert (fb e_ (vD:=bR) (k:=(4:Int)) (v:=lP) underlying170 rfl rfl rfl rfl rfl rfl))<|.mv rfl rfl<|.W rfl (aq.insert (fb e_ (vD:=bR) (k:=(5:Int)) (v:=lL) underlying170 rfl rfl rfl rfl rfl rfl))<|.mv rfl rfl<|.W rfl (aq.insert (fb e_ (vD:=bR) (k:=(6:Int)) (v:=lL) underlying170 rfl rfl rfl rfl rfl rfl))<|.mv rfl rfl<|.ag rfl rfl<|.nil ?_;refine U.bC (Le.Eu (kD:=(fun n:Int=>D.raw (.int .i64 n))) (vD:=bR) (m:=eT) 6 2 rfl rfl (fun _=>rfl) J') ?_;refine U.seq (U.Uq (A:=Fh) (fH:=fun m=>[(0,vM iH fK m)]) (dn:=fun _=>[]) oQ mS zK ?_ ?_ ?_ ?_)
 ·exact adY rfl rfl rfl rfl rfl rfl rfl zK
 ·exact⟨(fun _ _ _ hs hI hl hd=>afJ hs zK hI hl rfl rfl rfl rfl rfl rfl zK zK (fun cz=>oI 50 iH fK cz)),
   (fun _ _ _ hs hI hl hd=>bV hs hI rfl (bG (by exact hI.dF.b4) _)),
   (fun _ _ _ hs hI hl hd=>by
    obtain⟨_,e16,rfl⟩:=hI.aE 1 16 (dq hd 1) rfl;exact bV hs hI ⟨eA,dC.refl _,rfl⟩ (cR call137 (by exact e16) rfl (A5 _) _)),
   (fun _ _ _ hs hI hl hd=>by
    obtain⟨_,fO,rfl⟩:=hI.aE 0 15 (dq hd 0) rfl;obtain⟨_,e17,m17,n17,rfl⟩:=hI.aE 2 17 (dq hd 2) rfl;exact lV (k:=1) (v:=⟨[100,101,112,111,115,105,116],2,ca m17 [2],some m17,false⟩) hs hI hl (dq hd 0) ⟨_,rfl,rfl,rfl,rfl,m17,n17,rfl,rfl⟩ (fun M hM=>aq.insert (fb e_ (vD:=fK) (k:=(1:Int)) (v:=⟨[100,101,112,111,115,105,116],2,ca m17 [2],some m17,false⟩) underlying174 (by exact fO) rfl (by exact e17) rfl rfl hM))),
   (fun _ _ _ hs hI hl hd=>bV hs hI rfl (bG (by exact hI.dF.b4) _)),
   (fun _ _ _ hs hI hl hd=>by
    obtain⟨_,e18,rfl⟩:=hI.aE 4 18 (dq hd 4) rfl;exact bV hs hI ⟨eA,dC.refl _,rfl⟩ (cR call137 (by exact e18) rfl (A5 _) _)),
   (fun _ _ _ hs hI hl hd=>by
    obtain⟨_,fO,rfl⟩:=hI.aE 0 15 (dq hd 0) rfl;obtain⟨_,e19,m19,n19,rfl⟩:=hI.aE 5 19 (dq hd 5) rfl;exact lV (k:=2) (v:=⟨[119,105,116,104,100,114,97,119],2,ca m19 [2],some m19,false⟩) hs hI hl (dq hd 0) ⟨_,rfl,rfl,rfl,rfl,m19,n19,rfl,rfl⟩ (fun M hM=>aq.insert (fb e_ (vD:=fK) (k:=(2:Int)) (v:=⟨[119,105,116,104,100,114,97,119],2,ca m19 [2],some m19,false⟩) underlying174 (by exact fO) rfl (by exact e19) rfl rfl hM))),
   (fun _ _ _ hs hI hl hd=>bV hs hI rfl (cG isAgg227 (by exact hI.dF.b3) _)),
   (fun _ _ _ hs hI hl hd=>bV hs hI rfl (bG (by exact hI.dF.b6) _)),
   (fun _ _ _ hs hI hl hd=>bV hs hI rfl (cm (n:=1) (rows:=[[D.i 0]]) underlying67 sizeOf3 rfl rfl rfl zeroValue3 rfl rfl rfl rfl rfl rfl rfl _)),
   (fun _ _ _ hs hI hl hd=>by
    obtain⟨_,e20,rfl⟩:=hI.aE 7 20 (dq hd 7) rfl;obtain⟨_,e21,rfl⟩:=hI.aE 8 21 (dq hd 8) rfl;obtain⟨_,e22,rfl⟩:=hI.aE 9 22 (dq hd 9) rfl;exact bV hs hI ⟨eT,dC.refl _,rfl⟩ (cR call136 (by exact e20) (cB rfl (cB rfl (cB (by exact e21) (cB (by exact e22) rfl)))) (qM _ _ eT [0] zD zD zD).sub _)),
   (fun _ _ _ hs hI hl hd=>by
    obtain⟨_,fO,rfl⟩:=hI.aE 0 15 (dq hd 0) rfl;obtain⟨_,e23,Cf,n23,rfl⟩:=hI.aE 10 23 (dq hd 10) rfl;exact lV (k:=3) (v:=⟨[98,117,121],3,ca Cf [0],some Cf,false⟩) hs hI hl (dq hd 0) ⟨_,rfl,rfl,rfl,rfl,Cf,n23,rfl,rfl⟩ (fun M hM=>aq.insert (fb e_ (vD:=fK) (k:=(3:Int)) (v:=⟨[98,117,121],3,ca Cf [0],some Cf,false⟩) underlying174 (by exact fO) rfl (by exact e23) rfl rfl hM))),
   (fun _ _ _ hs hI hl hd=>bV hs hI rfl (cG isAgg227 (by exact hI.dF.b3) _)),
   (fun _ _ _ hs hI hl hd=>bV hs hI rfl (bG (by exact hI.dF.b6) _)),
   (fun _ _ _ hs hI hl hd=>bV hs hI rfl (cm (n:=2) (rows:=[[D.i 0],[D.i 10]]) underlying67 sizeOf3 rfl rfl rfl zeroValue3 rfl rfl rfl rfl rfl rfl rfl _)),
   (fun _ _ _ hs hI hl hd=>by
    obtain⟨_,e24,rfl⟩:=hI.aE 12 24 (dq hd 12) rfl;obtain⟨_,e25,rfl⟩:=hI.aE 13 25 (dq hd 13) rfl;obtain⟨_,e26,rfl⟩:=hI.aE 14 26 (dq hd 14) rfl;exact bV hs hI ⟨eT,dC.refl _,rfl⟩ (cR call136 (by exact e24) (cB rfl (cB rfl (cB (by exact e25) (cB (by exact e26) rfl)))) (qM _ _ eT [0,10] zD zD zD).sub _)),
   (fun _ _ _ hs hI hl hd=>by
    obtain⟨_,fO,rfl⟩:=hI.aE 0 15 (dq hd 0) rfl;obtain⟨_,e27,Cg,n27,rfl⟩:=hI.aE 15 27 (dq hd 15) rfl;exact lV (k:=4) (v:=⟨[115,101,108,108],3,ca Cg [0,10],some Cg,false⟩) hs hI hl (dq hd 0) ⟨_,rfl,rfl,rfl,rfl,Cg,n27,rfl,rfl⟩ (fun M hM=>aq.insert (fb e_ (vD:=fK) (k:=(4:Int)) (v:=⟨[115,101,108,108],3,ca Cg [0,10],some Cg,false⟩) underlying174 (by exact fO) rfl (by exact e27) rfl rfl hM))),
   (fun _ _ _ hs hI hl hd=>bV hs hI rfl (cG isAgg227 (by exact hI.dF.b3) _)),
   (fun _ _ _ hs hI hl hd=>uw (q:=kQ 0) hs zK hI hl rfl rfl rfl rfl rfl rfl (lF zK) zK rfl zK zK (fun cz=>oI 51 iH bR cz)),
   (fun _ _ _ hs hI hl hd=>bV hs hI rfl (cG isAgg225 (by exact hI.dF.b1) _)),
   (fun _ _ _ hs hI hl hd=>by
    obtain⟨_,HQ,rfl⟩:=hI.aE 18 29 (dq hd 18) rfl;obtain⟨_,e30,rfl⟩:=hI.aE 19 30 (dq hd 19) rfl;exact ou (q:=kQ 0) (k:=7) (v:=lP) hs hI hl (dq hd 18) (fun M hM=>aq.insert (fb e_ (vD:=bR) (k:=(7:Int)) (v:=lP) underlying170 (by exact HQ) rfl (by exact e30) rfl rfl hM))),
   (fun _ _ _ hs hI hl hd=>by
    obtain⟨_,HQ,rfl⟩:=hI.aE 18 29 (dq hd 18) rfl;exact tT (q:=kQ 0) hs zK hI hl rfl rfl rfl rfl rfl (lF zK) zK rfl (dq hd 18) ⟨dq hd 20,trivial⟩ zK (fun m hm=>⟨m,hm,rfl⟩) (bG (by exact HQ) _)),
   (fun _ _ _ hs hI hl hd=>bV hs hI rfl (cm (n:=1) (rows:=[[D.i 0]]) underlying67 sizeOf3 rfl rfl rfl zeroValue3 rfl rfl rfl rfl rfl rfl rfl _)),
   (fun _ _ _ hs hI hl hd=>by
    obtain⟨_,e28,rfl⟩:=hI.aE 17 28 (dq hd 17) rfl;obtain⟨_,e31,R5,SN,rfl⟩:=hI.aE 21 31 (dq hd 21) rfl;obtain⟨_,Bh,rfl⟩:=hI.aE 22 32 (dq hd 22) rfl;exact bV hs hI ⟨R5,SN,rfl⟩ (cR call136 (by exact e28) (cB rfl (cB rfl (cB (by exact e31) (cB (by exact Bh) rfl)))) (qM _ _ R5 [0] zD zD (dC.uN SN zD)).sub _)),
   (fun _ _ _ hs hI hl hd=>by
    obtain⟨_,fO,rfl⟩:=hI.aE 0 15 (dq hd 0) rfl;obtain⟨_,HR,Ch,n33,rfl⟩:=hI.aE 23 33 (dq hd 23) rfl;exact lV (k:=5) (v:=⟨[105,110,99,111,109,101],1,ca Ch [0],some Ch,false⟩) hs hI hl (dq hd 0) ⟨_,rfl,rfl,rfl,rfl,Ch,n33,rfl,rfl⟩ (fun M hM=>aq.insert (fb e_ (vD:=fK) (k:=(5:Int)) (v:=⟨[105,110,99,111,109,101],1,ca Ch [0],some Ch,false⟩) underlying174 (by exact fO) rfl (by exact HR) rfl rfl hM))),
   (fun _ _ _ hs hI hl hd=>bV hs hI rfl (bG (by exact hI.dF.b4) _)),
   (fun _ _ _ hs hI hl hd=>by
    obtain⟨_,HS,rfl⟩:=hI.aE 25 34 (dq hd 25) rfl;exact bV hs hI ⟨eA,dC.refl _,rfl⟩ (cR call137 (by exact HS) rfl (A5 _) _)),
   (fun _ _ _ hs hI hl hd=>by
    obtain⟨_,fO,rfl⟩:=hI.aE 0 15 (dq hd 0) rfl;obtain⟨_,HT,Ci,n35,rfl⟩:=hI.aE 26 35 (dq hd 26) rfl;exact lV (k:=6) (v:=⟨[101,120,112,101,110,115,101],2,ca Ci [2],some Ci,false⟩) hs hI hl (dq hd 0) ⟨_,rfl,rfl,rfl,rfl,Ci,n35,rfl,rfl⟩ (fun M hM=>aq.insert (fb e_ (vD:=fK) (k:=(6:Int)) (v:=⟨[101,120,112,101,110,115,101],2,ca Ci [2],some Ci,false⟩) underlying174 (by exact fO) rfl (by exact HT) rfl rfl hM))),
   (fun _ _ _ hs hI hl hd=>bV hs hI rfl (bG (by exact hI.dF.b5) _)),
   (fun _ _ _ hs hI hl hd=>bV hs hI rfl (cG isAgg227 (by exact hI.dF.b3) _)),
   (fun _ _ _ hs hI hl hd=>uw (q:=kQ 1) hs zK hI hl rfl rfl rfl rfl rfl rfl (lF zK) zK rfl zK zK (fun cz=>oI 52 iH bR cz)),
   (fun _ _ _ hs hI hl hd=>bV hs hI rfl (cG isAgg225 (by exact hI.dF.b1) _)),
   (fun _ _ _ hs hI hl hd=>by
    obtain⟨_,w7,rfl⟩:=hI.aE 30 38 (dq hd 30) rfl;obtain⟨_,e39,rfl⟩:=hI.aE 31 39 (dq hd 31) rfl;exact ou (q:=kQ 1) (k:=4) (v:=lP) hs hI hl (dq hd 30) (fun M hM=>aq.insert (fb e_ (vD:=bR) (k:=(4:Int)) (v:=lP) underlying170 (by exact w7) rfl (by exact e39) rfl rfl hM))),
   (fun _ _ _ hs hI hl hd=>bV hs hI rfl (cG isAgg225 (by exact hI.dF.b1) _)),
   (fun _ _ _ hs hI hl hd=>by
    obtain⟨_,w7,rfl⟩:=hI.aE 30 38 (dq hd 30) rfl;obtain⟨_,e40,rfl⟩:=hI.aE 33 40 (dq hd 33) rfl;exact ou (q:=kQ 1) (k:=5) (v:=lP) hs hI hl (dq hd 30) (fun M hM=>aq.insert (fb e_ (vD:=bR) (k:=(5:Int)) (v:=lP) underlying170 (by exact w7) rfl (by exact e40) rfl rfl hM))),
   (fun _ _ _ hs hI hl hd=>by
    obtain⟨_,w7,rfl⟩:=hI.aE 30 38 (dq hd 30) rfl;exact tT (q:=kQ 1) hs zK hI hl rfl rfl rfl rfl rfl (lF zK) zK rfl (dq hd 30) ⟨dq hd 32,dq hd 34,trivial⟩ zK (fun m hm=>⟨m,hm,rfl⟩) (bG (by exact w7) _)),
   (fun _ _ _ hs hI hl hd=>bV hs hI rfl (cm (n:=2) (rows:=[[D.i 1],[D.i 2]]) underlying67 sizeOf3 rfl rfl rfl zeroValue3 rfl rfl rfl rfl rfl rfl rfl _)),
   (fun _ _ _ hs hI hl hd=>by
    obtain⟨_,HV,rfl⟩:=hI.aE 29 37 (dq hd 29) rfl;obtain⟨_,e41,R6,SO,rfl⟩:=hI.aE 35 41 (dq hd 35) rfl;obtain⟨_,e42,rfl⟩:=hI.aE 36 42 (dq hd 36) rfl;exact bV hs hI ⟨R6,SO,rfl⟩ (cR call136 (by exact HV) (cB rfl (cB rfl (cB (by exact e41) (cB (by exact e42) rfl)))) (qM _ _ R6 [1,2] zD zD (dC.uN SO zD)).sub _)),
   (fun _ _ _ hs hI hl hd=>by
    obtain⟨_,HU,rfl⟩:=hI.aE 28 36 (dq hd 28) rfl;obtain⟨_,e43,R7,n43,rfl⟩:=hI.aE 37 43 (dq hd 37) rfl;exact bV hs hI ⟨R7,n43,rfl⟩ (cR call138 (by exact HU) (cB (by exact e43) rfl) (V2 _ _ _ R7) _)),
   (fun _ _ _ hs hI hl hd=>by
    obtain⟨_,fO,rfl⟩:=hI.aE 0 15 (dq hd 0) rfl;obtain⟨_,e44,Cj,n44,rfl⟩:=hI.aE 38 44 (dq hd 38) rfl;exact lV (k:=7) (v:=⟨[99,111,110,118,101,114,116],2,ca Cj [1,2],some Cj,true⟩) hs hI hl (dq hd 0) ⟨_,rfl,rfl,rfl,rfl,Cj,n44,rfl,rfl⟩ (fun M hM=>aq.insert (fb e_ (vD:=fK) (k:=(7:Int)) (v:=⟨[99,111,110,118,101,114,116],2,ca Cj [1,2],some Cj,true⟩) underlying174 (by exact fO) rfl (by exact e44) rfl rfl hM))),
   (fun _ _ _ hs hI hl hd=>bV hs hI rfl (cG isAgg227 (by exact hI.dF.b3) _)),
   (fun _ _ _ hs hI hl hd=>uw (q:=kQ 2) hs zK hI hl rfl rfl rfl rfl rfl rfl (lF zK) zK rfl zK zK (fun cz=>oI 53 iH bR cz)),
   (fun _ _ _ hs hI hl hd=>bV hs hI rfl (bG (by exact hI.dF.b2) _)),
   (fun _ _ _ hs hI hl hd=>by
    obtain⟨_,Bi,rfl⟩:=hI.aE 41 46 (dq hd 41) rfl;obtain⟨_,e47,rfl⟩:=hI.aE 42 47 (dq hd 42) rfl;exact ou (q:=kQ 2) (k:=7) (v:=lL) hs hI hl (dq hd 41) (fun M hM=>aq.insert (fb e_ (vD:=bR) (k:=(7:Int)) (v:=lL) underlying170 (by exact Bi) rfl (by exact e47) rfl rfl hM))),
   (fun _ _ _ hs hI hl hd=>bV hs hI rfl (cG isAgg225 (by exact hI.dF.b1) _)),
   (fun _ _ _ hs hI hl hd=>by
    obtain⟨_,Bi,rfl⟩:=hI.aE 41 46 (dq hd 41) rfl;obtain⟨_,e48,rfl⟩:=hI.aE 44 48 (dq hd 44) rfl;exact ou (q:=kQ 2) (k:=8) (v:=lP) hs hI hl (dq hd 41) (fun M hM=>aq.insert (fb e_ (vD:=bR) (k:=(8:Int)) (v:=lP) underlying170 (by exact Bi) rfl (by exact e48) rfl rfl hM))),
   (fun _ _ _ hs hI hl hd=>by
    obtain⟨_,Bi,rfl⟩:=hI.aE 41 46 (dq hd 41) rfl;exact tT (q:=kQ 2) hs zK hI hl rfl rfl rfl rfl rfl (lF zK) zK rfl (dq hd 41) ⟨dq hd 43,dq hd 45,trivial⟩ zK (fun m hm=>⟨m,hm,rfl⟩) (bG (by exact Bi) _)),
   (fun _ _ _ hs hI hl hd=>bV hs hI rfl (cm (n:=1) (rows:=[[D.i 0]]) underlying67 sizeOf3 rfl rfl rfl zeroValue3 rfl rfl rfl rfl rfl rfl rfl _)),
   (fun _ _ _ hs hI hl hd=>by
    obtain⟨_,e45,rfl⟩:=hI.aE 40 45 (dq hd 40) rfl;obtain⟨_,e49,R8,SP,rfl⟩:=hI.aE 46 49 (dq hd 46) rfl;obtain⟨_,e50,rfl⟩:=hI.aE 47 50 (dq hd 47) rfl;exact bV hs hI ⟨R8,SP,rfl⟩ (cR call136 (by exact e45) (cB rfl (cB rfl (cB (by exact e49) (cB (by exact e50) rfl)))) (qM _ _ R8 [0] zD zD (dC.uN SP zD)).sub _)),
   (fun _ _ _ hs hI hl hd=>by
    obtain⟨_,fO,rfl⟩:=hI.aE 0 15 (dq hd 0) rfl;obtain⟨_,e51,Ck,n51,rfl⟩:=hI.aE 48 51 (dq hd 48) rfl;exact lV (k:=8) (v:=⟨[115,112,108,105,116],1,ca Ck [0],some Ck,false⟩) hs hI hl (dq hd 0) ⟨_,rfl,rfl,rfl,rfl,Ck,n51,rfl,rfl⟩ (fun M hM=>aq.insert (fb e_ (vD:=fK) (k:=(8:Int)) (v:=⟨[115,112,108,105,116],1,ca Ck [0],some Ck,false⟩) underlying174 (by exact fO) rfl (by exact e51) rfl rfl hM))),
   (fun _ _ _ hs hI hl hd=>bV hs hI rfl (cG isAgg227 (by exact hI.dF.b3) _)),
   (fun _ _ _ hs hI hl hd=>uw (q:=kQ 3) hs zK hI hl rfl rfl rfl rfl rfl rfl (lF zK) zK rfl zK zK (fun cz=>oI 54 iH bR cz)),
   (fun _ _ _ hs hI hl hd=>bV hs hI rfl (bG (by exact hI.dF.b2) _)),
   (fun _ _ _ hs hI hl hd=>by
    obtain⟨_,w8,rfl⟩:=hI.aE 51 53 (dq hd 51) rfl;obtain⟨_,e54,rfl⟩:=hI.aE 52 54 (dq hd 52) rfl;exact ou (q:=kQ 3) (k:=7) (v:=lL) hs hI hl (dq hd 51) (fun M hM=>aq.insert (fb e_ (vD:=bR) (k:=(7:Int)) (v:=lL) underlying170 (by exact w8) rfl (by exact e54) rfl rfl hM))),
   (fun _ _ _ hs hI hl hd=>bV hs hI rfl (cG isAgg225 (by exact hI.dF.b1) _)),
   (fun _ _ _ hs hI hl hd=>by
    obtain⟨_,w8,rfl⟩:=hI.aE 51 53 (dq hd 51) rfl;obtain⟨_,e55,rfl⟩:=hI.aE 54 55 (dq hd 54) rfl;exact ou (q:=kQ 3) (k:=8) (v:=lP) hs hI hl (dq hd 51) (fun M hM=>aq.insert (fb e_ (vD:=bR) (k:=(8:Int)) (v:=lP) underlying170 (by exact w8) rfl (by exact e55) rfl rfl hM))),
   (fun _ _ _ hs hI hl hd=>bV hs hI rfl (aj call135 rfl (A8 false true) _)),
   (fun _ _ _ hs hI hl hd=>by
    obtain⟨_,w8,rfl⟩:=hI.aE 51 53 (dq hd 51) rfl;obtain⟨_,e56,rfl⟩:=hI.aE 56 56 (dq hd 56) rfl;exact ou (q:=kQ 3) (k:=9) (v:=lQ) hs hI hl (dq hd 51) (fun M hM=>aq.insert (fb e_ (vD:=bR) (k:=(9:Int)) (v:=lQ) underlying170 (by exact w8) rfl (by exact e56) rfl rfl hM))),
   (fun _ _ _ hs hI hl hd=>by
    obtain⟨_,w8,rfl⟩:=hI.aE 51 53 (dq hd 51) rfl;exact tT (q:=kQ 3) hs zK hI hl rfl rfl rfl rfl rfl (lF zK) zK rfl (dq hd 51) ⟨dq hd 53,dq hd 55,dq hd 57,trivial⟩ zK (fun m hm=>⟨m,hm,rfl⟩) (bG (by exact w8) _)),
   (fun _ _ _ hs hI hl hd=>bV hs hI rfl (cm (n:=2) (rows:=[[D.i 0],[D.i 1]]) underlying67 sizeOf3 rfl rfl rfl zeroValue3 rfl rfl rfl rfl rfl rfl rfl _)),
   (fun _ _ _ hs hI hl hd=>by
    obtain⟨_,e52,rfl⟩:=hI.aE 50 52 (dq hd 50) rfl;obtain⟨_,e57,R9,SQ,rfl⟩:=hI.aE 58 57 (dq hd 58) rfl;obtain⟨_,e58,rfl⟩:=hI.aE 59 58 (dq hd 59) rfl;exact bV hs hI ⟨R9,SQ,rfl⟩ (cR call136 (by exact e52) (cB rfl (cB rfl (cB (by exact e57) (cB (by exact e58) rfl)))) (qM _ _ R9 [0,1] zD zD (dC.uN SQ zD)).sub _)),
   (fun _ _ _ hs hI hl hd=>by
    obtain⟨_,fO,rfl⟩:=hI.aE 0 15 (dq hd 0) rfl;obtain⟨_,e59,Cl,n59,rfl⟩:=hI.aE 60 59 (dq hd 60) rfl;exact lV (k:=9) (v:=⟨[115,112,105,110,111,102,102],1,ca Cl [0,1],some Cl,false⟩) hs hI hl (dq hd 0) ⟨_,rfl,rfl,rfl,rfl,Cl,n59,rfl,rfl⟩ (fun M hM=>aq.insert (fb e_ (vD:=fK) (k:=(9:Int)) (v:=⟨[115,112,105,110,111,102,102],1,ca Cl [0,1],some Cl,false⟩) underlying174 (by exact fO) rfl (by exact e59) rfl rfl hM))),
   (fun _ _ _ hs hI hl hd=>bV hs hI rfl (cG isAgg227 (by exact hI.dF.b3) _)),
   (fun _ _ _ hs hI hl hd=>bV hs hI rfl (cm (n:=2) (rows:=[[D.i 0],[D.i 11]]) underlying67 sizeOf3 rfl rfl rfl zeroValue3 rfl rfl rfl rfl rfl rfl rfl _)),
   (fun _ _ _ hs hI hl hd=>by
    obtain⟨_,e60,rfl⟩:=hI.aE 62 60 (dq hd 62) rfl;obtain⟨_,e61,rfl⟩:=hI.aE 63 61 (dq hd 63) rfl;exact bV hs hI rfl (cR call136 (by exact e60) (cB rfl (cB rfl (cB rfl (cB (by exact e61) rfl)))) (RC _ _ [0,11] zD zD).sub _)),
   (fun _ _ _ hs hI hl hd=>by
    obtain⟨_,fO,rfl⟩:=hI.aE 0 15 (dq hd 0) rfl;obtain⟨_,e62,rfl⟩:=hI.aE 64 62 (dq hd 64) rfl;exact lV (k:=10) (v:=⟨[101,120,99,104,97,110,103,101],1,ca [] [0,11],none,false⟩) hs hI hl (dq hd 0) ⟨_,rfl,rfl,rfl,rfl,rfl,rfl⟩ (fun M hM=>aq.insert (fb e_ (vD:=fK) (k:=(10:Int)) (v:=⟨[101,120,99,104,97,110,103,101],1,ca [] [0,11],none,false⟩) underlying174 (by exact fO) rfl (by exact e62) rfl rfl hM))),
   (fun _ _ _ hs hI hl hd=>bV hs hI rfl (cG isAgg227 (by exact hI.dF.b3) _)),
   (fun _ _ _ hs hI hl hd=>bV hs hI rfl (cm (n:=3) (rows:=[[D.i 0],[D.i 3],[D.i 12]]) underlying67 sizeOf3 rfl rfl rfl zeroValue3 rfl rfl rfl rfl rfl rfl rfl _)),
   (fun _ _ _ hs hI hl hd=>by
    obtain⟨_,e63,rfl⟩:=hI.aE 66 63 (dq hd 66) rfl;obtain⟨_,e64,rfl⟩:=hI.aE 67 64 (dq hd 67) rfl;exact bV hs hI rfl (cR call136 (by exact e63) (cB rfl (cB rfl (cB rfl (cB (by exact e64) rfl)))) (RC _ _ [0,3,12] zD zD).sub _)),
   (fun _ _ _ hs hI hl hd=>by
    obtain⟨_,fO,rfl⟩:=hI.aE 0 15 (dq hd 0) rfl;obtain⟨_,e65,rfl⟩:=hI.aE 68 65 (dq hd 68) rfl;exact lV (k:=11) (v:=⟨[101,108,101,99,116],4,ca [] [0,3,12],none,false⟩) hs hI hl (dq hd 0) ⟨_,rfl,rfl,rfl,rfl,rfl,rfl⟩ (fun M hM=>aq.insert (fb e_ (vD:=fK) (k:=(11:Int)) (v:=⟨[101,108,101,99,116],4,ca [] [0,3,12],none,false⟩) underlying174 (by exact fO) rfl (by exact e65) rfl rfl hM))),
   (fun _ _ _ hs hI hl hd=>bV hs hI rfl (cG isAgg227 (by exact hI.dF.b3) _)),
   (fun _ _ _ hs hI hl hd=>uw (q:=kQ 4) hs zK hI hl rfl rfl rfl rfl rfl rfl (lF zK) zK rfl zK zK (fun cz=>oI 55 iH bR cz)),
   (fun _ _ _ hs hI hl hd=>bV hs hI rfl (cG isAgg225 (by exact hI.dF.b1) _)),
   (fun _ _ _ hs hI hl hd=>by
    obtain⟨_,w9,rfl⟩:=hI.aE 71 67 (dq hd 71) rfl;obtain⟨_,e68,rfl⟩:=hI.aE 72 68 (dq hd 72) rfl;exact ou (q:=kQ 4) (k:=4) (v:=lP) hs hI hl (dq hd 71) (fun M hM=>aq.insert (fb e_ (vD:=bR) (k:=(4:Int)) (v:=lP) underlying170 (by exact w9) rfl (by exact e68) rfl rfl hM))),
   (fun _ _ _ hs hI hl hd=>bV hs hI rfl (bG (by exact hI.dF.b2) _)),
   (fun _ _ _ hs hI hl hd=>by
    obtain⟨_,w9,rfl⟩:=hI.aE 71 67 (dq hd 71) rfl;obtain⟨_,e69,rfl⟩:=hI.aE 74 69 (dq hd 74) rfl;exact ou (q:=kQ 4) (k:=7) (v:=lL) hs hI hl (dq hd 71) (fun M hM=>aq.insert (fb e_ (vD:=bR) (k:=(7:Int)) (v:=lL) underlying170 (by exact w9) rfl (by exact e69) rfl rfl hM))),
   (fun _ _ _ hs hI hl hd=>bV hs hI rfl (cG isAgg225 (by exact hI.dF.b1) _)),
   (fun _ _ _ hs hI hl hd=>by
    obtain⟨_,w9,rfl⟩:=hI.aE 71 67 (dq hd 71) rfl;obtain⟨_,e70,rfl⟩:=hI.aE 76 70 (dq hd 76) rfl;exact ou (q:=kQ 4) (k:=8) (v:=lP) hs hI hl (dq hd 71) (fun M hM=>aq.insert (fb e_ (vD:=bR) (k:=(8:Int)) (v:=lP) underlying170 (by exact w9) rfl (by exact e70) rfl rfl hM))),
   (fun _ _ _ hs hI hl hd=>by
    obtain⟨_,w9,rfl⟩:=hI.aE 71 67 (dq hd 71) rfl;exact tT (q:=kQ 4) hs zK hI hl rfl rfl rfl rfl rfl (lF zK) zK rfl (dq hd 71) ⟨dq hd 73,dq hd 75,dq hd 77,trivial⟩ zK (fun m hm=>⟨m,hm,rfl⟩) (bG (by exact w9) _)),
   (fun _ _ _ hs hI hl hd=>bV hs hI rfl (cm (n:=2) (rows:=[[D.i 0],[D.i 1]]) underlying67 sizeOf3 rfl rfl rfl zeroValue3 rfl rfl rfl rfl rfl rfl rfl _)),
   (fun _ _ _ hs hI hl hd=>by
    obtain⟨_,e66,rfl⟩:=hI.aE 70 66 (dq hd 70) rfl;obtain⟨_,e71,R_,SR,rfl⟩:=hI.aE 78 71 (dq hd 78) rfl;obtain⟨_,e72,rfl⟩:=hI.aE 79 72 (dq hd 79) rfl;exact bV hs hI ⟨R_,SR,rfl⟩ (cR call136 (by exact e66) (cB rfl (cB rfl (cB (by exact e71) (cB (by exact e72) rfl)))) (qM _ _ R_ [0,1] zD zD (dC.uN SR zD)).sub _)),
   (fun _ _ _ hs hI hl hd=>by
    obtain⟨_,fO,rfl⟩:=hI.aE 0 15 (dq hd 0) rfl;obtain⟨_,e73,Cm,n73,rfl⟩:=hI.aE 80 73 (dq hd 80) rfl;exact lV (k:=12) (v:=⟨[101,120,101,114,99,105,115,101],3,ca Cm [0,1],some Cm,false⟩) hs hI hl (dq hd 0) ⟨_,rfl,rfl,rfl,rfl,Cm,n73,rfl,rfl⟩ (fun M hM=>aq.insert (fb e_ (vD:=fK) (k:=(12:Int)) (v:=⟨[101,120,101,114,99,105,115,101],3,ca Cm [0,1],some Cm,false⟩) underlying174 (by exact fO) rfl (by exact e73) rfl rfl hM))),
   (fun _ _ _ hs hI hl hd=>bV hs hI rfl (cG isAgg227 (by exact hI.dF.b3) _)),
   (fun _ _ _ hs hI hl hd=>uw (q:=kQ 5) hs zK hI hl rfl rfl rfl rfl rfl rfl (lF zK) zK rfl zK zK (fun cz=>oI 56 iH bR cz)),
   (fun _ _ _ hs hI hl hd=>bV hs hI rfl (cG isAgg225 (by exact hI.dF.b1) _)),
   (fun _ _ _ hs hI hl hd=>by
    obtain⟨_,HW,rfl⟩:=hI.aE 83 75 (dq hd 83) rfl;obtain⟨_,e76,rfl⟩:=hI.aE 84 76 (dq hd 84) rfl;exact ou (q:=kQ 5) (k:=7) (v:=lP) hs hI hl (dq hd 83) (fun M hM=>aq.insert (fb e_ (vD:=bR) (k:=(7:Int)) (v:=lP) underlying170 (by exact HW) rfl (by exact e76) rfl rfl hM))),
   (fun _ _ _ hs hI hl hd=>by
    obtain⟨_,HW,rfl⟩:=hI.aE 83 75 (dq hd 83) rfl;exact tT (q:=kQ 5) hs zK hI hl rfl rfl rfl rfl rfl (lF zK) zK rfl (dq hd 83) ⟨dq hd 85,trivial⟩ zK (fun m hm=>⟨m,hm,rfl⟩) (bG (by exact HW) _)),
   (fun _ _ _ hs hI hl hd=>bV hs hI rfl (cm (n:=1) (rows:=[[D.i 0]]) underlying67 sizeOf3 rfl rfl rfl zeroValue3 rfl rfl rfl rfl rfl rfl rfl _)),
   (fun _ _ _ hs hI hl hd=>by
    obtain⟨_,e74,rfl⟩:=hI.aE 82 74 (dq hd 82) rfl;obtain⟨_,e77,Sa,SS,rfl⟩:=hI.aE 86 77 (dq hd 86) rfl;obtain⟨_,e78,rfl⟩:=hI.aE 87 78 (dq hd 87) rfl;exact bV hs hI ⟨Sa,SS,rfl⟩ (cR call136 (by exact e74) (cB rfl (cB rfl (cB (by exact e77) (cB (by exact e78) rfl)))) (qM _ _ Sa [0] zD zD (dC.uN SS zD)).sub _)),
   (fun _ _ _ hs hI hl hd=>by
    obtain⟨_,fO,rfl⟩:=hI.aE 0 15 (dq hd 0) rfl;obtain⟨_,e79,Cn,n79,rfl⟩:=hI.aE 88 79 (dq hd 88) rfl;exact lV (k:=13) (v:=⟨[99,97,112,105,116,97,108],1,ca Cn [0],some Cn,false⟩) hs hI hl (dq hd 0) ⟨_,rfl,rfl,rfl,rfl,Cn,n79,rfl,rfl⟩ (fun M hM=>aq.insert (fb e_ (vD:=fK) (k:=(13:Int)) (v:=⟨[99,97,112,105,116,97,108],1,ca Cn [0],some Cn,false⟩) underlying174 (by exact fO) rfl (by exact e79) rfl rfl hM))),
   (fun _ _ _ hs hI hl hd=>bV hs hI rfl (cG isAgg227 (by exact hI.dF.b3) _)),
   (fun _ _ _ hs hI hl hd=>uw (q:=kQ 6) hs zK hI hl rfl rfl rfl rfl rfl rfl (lF zK) zK rfl zK zK (fun cz=>oI 57 iH bR cz)),
   (fun _ _ _ hs hI hl hd=>bV hs hI rfl (bG (by exact hI.dF.b2) _)),
   (fun _ _ _ hs hI hl hd=>by
    obtain⟨_,HX,rfl⟩:=hI.aE 91 81 (dq hd 91) rfl;obtain⟨_,e82,rfl⟩:=hI.aE 92 82 (dq hd 92) rfl;exact ou (q:=kQ 6) (k:=7) (v:=lL) hs hI hl (dq hd 91) (fun M hM=>aq.insert (fb e_ (vD:=bR) (k:=(7:Int)) (v:=lL) underlying170 (by exact HX) rfl (by exact e82) rfl rfl hM))),
   (fun _ _ _ hs hI hl hd=>by
    obtain⟨_,HX,rfl⟩:=hI.aE 91 81 (dq hd 91) rfl;exact tT (q:=kQ 6) hs zK hI hl rfl rfl rfl rfl rfl (lF zK) zK rfl (dq hd 91) ⟨dq hd 93,trivial⟩ zK (fun m hm=>⟨m,hm,rfl⟩) (bG (by exact HX) _)),
   (fun _ _ _ hs hI hl hd=>bV hs hI rfl (cm (n:=1) (rows:=[[D.i 0]]) underlying67 sizeOf3 rfl rfl rfl zeroValue3 rfl rfl rfl rfl rfl rfl rfl _)),
   (fun _ _ _ hs hI hl hd=>by
    obtain⟨_,e80,rfl⟩:=hI.aE 90 80 (dq hd 90) rfl;obtain⟨_,e83,Sb,SU,rfl⟩:=hI.aE 94 83 (dq hd 94) rfl;obtain⟨_,e84,rfl⟩:=hI.aE 95 84 (dq hd 95) rfl;exact bV hs hI ⟨Sb,SU,rfl⟩ (cR call136 (by exact e80) (cB rfl (cB rfl (cB (by exact e83) (cB (by exact e84) rfl)))) (qM _ _ Sb [0] zD zD (dC.uN SU zD)).sub _)),
   (fun _ _ _ hs hI hl hd=>by
    obtain⟨_,fO,rfl⟩:=hI.aE 0 15 (dq hd 0) rfl;obtain⟨_,e85,Co,n85,rfl⟩:=hI.aE 96 85 (dq hd 96) rfl;exact lV (k:=14) (v:=⟨[99,97,108,108],1,ca Co [0],some Co,false⟩) hs hI hl (dq hd 0) ⟨_,rfl,rfl,rfl,rfl,Co,n85,rfl,rfl⟩ (fun M hM=>aq.insert (fb e_ (vD:=fK) (k:=(14:Int)) (v:=⟨[99,97,108,108],1,ca Co [0],some Co,false⟩) underlying174 (by exact fO) rfl (by exact e85) rfl rfl hM))),
   (fun _ _ _ hs hI hl hd=>bV hs hI rfl (cG isAgg227 (by exact hI.dF.b3) _)),
   (fun _ _ _ hs hI hl hd=>uw (q:=kQ 7) hs zK hI hl rfl rfl rfl rfl rfl rfl (lF zK) zK rfl zK zK (fun cz=>oI 58 iH bR cz)),
   (fun _ _ _ hs hI hl hd=>bV hs hI rfl (bG (by exact hI.dF.b2) _)),
   (fun _ _ _ hs hI hl hd=>by
    obtain⟨_,HY,rfl⟩:=hI.aE 99 87 (dq hd 99) rfl;obtain⟨_,e88,rfl⟩:=hI.aE 100 88 (dq hd 100) rfl;exact ou (q:=kQ 7) (k:=7) (v:=lL) hs hI hl (dq hd 99) (fun M hM=>aq.insert (fb e_ (vD:=bR) (k:=(7:Int)) (v:=lL) underlying170 (by exact HY) rfl (by exact e88) rfl rfl hM))),
   (fun _ _ _ hs hI hl hd=>by
    obtain⟨_,HY,rfl⟩:=hI.aE 99 87 (dq hd 99) rfl;exact tT (q:=kQ 7) hs zK hI hl rfl rfl rfl rfl rfl (lF zK) zK rfl (dq hd 99) ⟨dq hd 101,trivial⟩ zK (fun m hm=>⟨m,hm,rfl⟩) (bG (by exact HY) _)),
   (fun _ _ _ hs hI hl hd=>bV hs hI rfl (cm (n:=1) (rows:=[[D.i 0]]) underlying67 sizeOf3 rfl rfl rfl zeroValue3 rfl rfl rfl rfl rfl rfl rfl _)),
   (fun _ _ _ hs hI hl hd=>by
    obtain⟨_,e86,rfl⟩:=hI.aE 98 86 (dq hd 98) rfl;obtain⟨_,e89,Sc,SV,rfl⟩:=hI.aE 102 89 (dq hd 102) rfl;obtain⟨_,e90,rfl⟩:=hI.aE 103 90 (dq hd 103) rfl;exact bV hs hI ⟨Sc,SV,rfl⟩ (cR call136 (by exact e86) (cB rfl (cB rfl (cB (by exact e89) (cB (by exact e90) rfl)))) (qM _ _ Sc [0] zD zD (dC.uN SV zD)).sub _)),
   (fun _ _ _ hs hI hl hd=>by
    obtain⟨_,fO,rfl⟩:=hI.aE 0 15 (dq hd 0) rfl;obtain⟨_,e91,Cp,n91,rfl⟩:=hI.aE 104 91 (dq hd 104) rfl;exact lV (k:=15) (v:=⟨[112,114,105,99,101],4,ca Cp [0],some Cp,false⟩) hs hI hl (dq hd 0) ⟨_,rfl,rfl,rfl,rfl,Cp,n91,rfl,rfl⟩ (fun M hM=>aq.insert (fb e_ (vD:=fK) (k:=(15:Int)) (v:=⟨[112,114,105,99,101],4,ca Cp [0],some Cp,false⟩) underlying174 (by exact fO) rfl (by exact e91) rfl rfl hM))),
   (fun _ _ _ hs hI hl hd=>bV hs hI rfl (bG (by exact hI.dF.b5) _)),
   (fun _ _ _ hs hI hl hd=>bV hs hI rfl (cG isAgg227 (by exact hI.dF.b3) _)),
   (fun _ _ _ hs hI hl hd=>uw (q:=kQ 8) hs zK hI hl rfl rfl rfl rfl rfl rfl (lF zK) zK rfl zK zK (fun cz=>oI 59 iH bR cz)),
   (fun _ _ _ hs hI hl hd=>bV hs hI rfl (cG isAgg225 (by exact hI.dF.b1) _)),
   (fun _ _ _ hs hI hl hd=>by
    obtain⟨_,HZ,rfl⟩:=hI.aE 108 94 (dq hd 108) rfl;obtain⟨_,e95,rfl⟩:=hI.aE 109 95 (dq hd 109) rfl;exact ou (q:=kQ 8) (k:=8) (v:=lP) hs hI hl (dq hd 108) (fun M hM=>aq.insert (fb e_ (vD:=bR) (k:=(8:Int)) (v:=lP) underlying170 (by exact HZ) rfl (by exact e95) rfl rfl hM))),
   (fun _ _ _ hs hI hl hd=>by
    obtain⟨_,HZ,rfl⟩:=hI.aE 108 94 (dq hd 108) rfl;exact tT (q:=kQ 8) hs zK hI hl rfl rfl rfl rfl rfl (lF zK) zK rfl (dq hd 108) ⟨dq hd 110,trivial⟩ zK (fun m hm=>⟨m,hm,rfl⟩) (bG (by exact HZ) _)),
   (fun _ _ _ hs hI hl hd=>bV hs hI rfl (cm (n:=2) (rows:=[[D.i 1],[D.i 2]]) underlying67 sizeOf3 rfl rfl rfl zeroValue3 rfl rfl rfl rfl rfl rfl rfl _)),
   (fun _ _ _ hs hI hl hd=>by
    obtain⟨_,e93,rfl⟩:=hI.aE 107 93 (dq hd 107) rfl;obtain⟨_,e96,Se,SX,rfl⟩:=hI.aE 111 96 (dq hd 111) rfl;obtain⟨_,e97,rfl⟩:=hI.aE 112 97 (dq hd 112) rfl;exact bV hs hI ⟨Se,SX,rfl⟩ (cR call136 (by exact e93) (cB rfl (cB rfl (cB (by exact e96) (cB (by exact e97) rfl)))) (qM _ _ Se [1,2] zD zD (dC.uN SX zD)).sub _)),
   (fun _ _ _ hs hI hl hd=>by
    obtain⟨_,e92,rfl⟩:=hI.aE 106 92 (dq hd 106) rfl;obtain⟨_,e98,Sf,n98,rfl⟩:=hI.aE 113 98 (dq hd 113) rfl;exact bV hs hI ⟨Sf,n98,rfl⟩ (cR call138 (by exact e92) (cB (by exact e98) rfl) (V2 _ _ _ Sf) _)),
   (fun _ _ _ hs hI hl hd=>by
    obtain⟨_,fO,rfl⟩:=hI.aE 0 15 (dq hd 0) rfl;obtain⟨_,e99,Cq,n99,rfl⟩:=hI.aE 114 99 (dq hd 114) rfl;exact lV (k:=16) (v:=⟨[114,97,116,101],4,ca Cq [1,2],some Cq,true⟩) hs hI hl (dq hd 0) ⟨_,rfl,rfl,rfl,rfl,Cq,n99,rfl,rfl⟩ (fun M hM=>aq.insert (fb e_ (vD:=fK) (k:=(16:Int)) (v:=⟨[114,97,116,101],4,ca Cq [1,2],some Cq,true⟩) underlying174 (by exact fO) rfl (by exact e99) rfl rfl hM))),
   (fun _ _ _ hs hI hl hd=>bV hs hI rfl (bG (by exact hI.dF.b4) _)),
   (fun _ _ _ hs hI hl hd=>by
    obtain⟨_,Z7,rfl⟩:=hI.aE 116 100 (dq hd 116) rfl;exact bV hs hI ⟨eA,dC.refl _,rfl⟩ (cR call137 (by exact Z7) rfl (A5 _) _)),
   (fun _ _ _ hs hI hl hd=>by
    obtain⟨_,fO,rfl⟩:=hI.aE 0 15 (dq hd 0) rfl;obtain⟨_,Z8,Cd,agi,rfl⟩:=hI.aE 117 101 (dq hd 117) rfl;exact lV (k:=17) (v:=⟨[105,115,115,117,101],2,ca Cd [2],some Cd,false⟩) hs hI hl (dq hd 0) ⟨_,rfl,rfl,rfl,rfl,Cd,agi,rfl,rfl⟩ (fun M hM=>aq.insert (fb e_ (vD:=fK) (k:=(17:Int)) (v:=⟨[105,115,115,117,101],2,ca Cd [2],some Cd,false⟩) underlying174 (by exact fO) rfl (by exact Z8) rfl rfl hM))),
   (fun _ _ _ hs hI hl hd=>bV hs hI rfl (bG (by exact hI.dF.b4) _)),
   (fun _ _ _ hs hI hl hd=>by
    obtain⟨_,Z9,rfl⟩:=hI.aE 119 102 (dq hd 119) rfl;exact bV hs hI ⟨eA,dC.refl _,rfl⟩ (cR call137 (by exact Z9) rfl (A5 _) _)),
   (fun _ _ _ hs hI hl hd=>by
    obtain⟨_,fO,rfl⟩:=hI.aE 0 15 (dq hd 0) rfl;obtain⟨_,Z_,Ce,SL,rfl⟩:=hI.aE 120 103 (dq hd 120) rfl;exact lV (k:=18) (v:=⟨[99,97,110,99,101,108],2,ca Ce [2],some Ce,false⟩) hs hI hl (dq hd 0) ⟨_,rfl,rfl,rfl,rfl,Ce,SL,rfl,rfl⟩ (fun M hM=>aq.insert (fb e_ (vD:=fK) (k:=(18:Int)) (v:=⟨[99,97,110,99,101,108],2,ca Ce [2],some Ce,false⟩) underlying174 (by exact fO) rfl (by exact Z_) rfl rfl hM))),
   (fun _ _ _ hs hI hl hd=>by
    obtain⟨_,fO,rfl⟩:=hI.aE 0 15 (dq hd 0) rfl;exact bV hs hI rfl (bG (by exact fO) _)),
   (fun _ _ _ hs hI hl hd=>by
    obtain⟨_,Z',rfl⟩:=hI.aE 122 104 (dq hd 122) rfl;exact bV hs hI rfl (Ax (by exact Z') _)),trivial⟩
 ·intro listed e ob hs eI hI;exact aai hs eI hI
 ·intro m hA;exact U.ret<|⟨m,[_],hA,rfl,Sub.refl _⟩
end Go.T
namespace Go.T
open Go
def uy(s:ae):Int:=if(!isName s)=true then 23 else 0
def p6(f:Fact)(code:Bool):Int:=
 if code=true then(if(!ig f.other)=true then 12 else if decide (f.other=f.cur)=true then 18 else 0)
 else if decide (uy f.other≠0)=true then uy f.other else if decide (f.other=f.ie)=true then 18 else 0
def fx(f:Fact)(code:Bool)(n:Int)(L:Bool×Bool):Int:=
 if decide (n=0)=true then uy f.ie else if decide (n=3)=true then uy f.target else if decide (n=1)=true then p6 f code
 else if decide (n=2)=true then(if(!ig f.cur)=true then 12 else 0)else if decide (n=10)=true then ya f else if decide (n=11)=true then tf f
 else if decide (n=12)=true then(if decide (f.choice<0)=true then 2 else 0)else mF L.1 L.2 (r3 f n)
theorem ana{f:Fact}(h:qp f)(n:Int):mO (r3 f n):=by
 have e:([]:ae).length≤60:=by simp
 unfold r3;split
 ·exact⟨h.eX,e⟩
 ·split
  ·exact⟨h.cV,e⟩
  ·split
   ·exact⟨h.tS,e⟩
   ·split
    ·exact h.iQ
    ·split
     ·exact h.ratio
     ·split
      ·exact h.share
      ·exact⟨e,e⟩
theorem TD{f:Fact}{code:Bool}(h:code=true)(h2:(!ig f.other)=true):12=p6 f code:=by rw[p6,if_pos h,if_pos h2]
theorem TE{f:Fact}{code:Bool}(h:code=true)(h2:(!ig f.other)=false)(h3:decide (f.other=f.cur)=true):18=p6 f code:=by rw[p6,if_pos h,if_neg (by rw[h2];simp),if_pos h3]
theorem TF{f:Fact}{code:Bool}(h:code=true)(h2:(!ig f.other)=false)(h3:decide (f.other=f.cur)=false):0=p6 f code:=by rw[p6,if_pos h,if_neg (by rw[h2];simp),if_neg (by rw[h3];simp)]
theorem TG{f:Fact}{code:Bool}(h:code=false)(h2:decide (uy f.other≠0)=true):uy f.other=p6 f code:=by rw[p6,if_neg (by rw[h];simp),if_pos h2]
theorem TH{f:Fact}{code:Bool}(h:code=false)(h2:decide (uy f.other≠0)=false)(h3:decide (f.other=f.ie)=true):18=p6 f code:=by rw[p6,if_neg (by rw[h];simp),if_neg (by rw[h2];simp),if_pos h3]
theorem TJ{f:Fact}{code:Bool}(h:code=false)(h2:decide (uy f.other≠0)=false)(h3:decide (f.other=f.ie)=false):0=p6 f code:=by rw[p6,if_neg (by rw[h];simp),if_neg (by rw[h2];simp),if_neg (by rw[h3];simp)]
theorem kg{α:Type}{b:Bool}{x y z:α}(h:b=true)(k:z=x):z=if b=true then x else y:=by rw[if_pos h];exact k
theorem abg{f:Fact}{code:Bool}{n:Int}{L:Bool×Bool}(h4:4≤n)(h9:n≤9):mF L.1 L.2 (r3 f n)=fx f code n L:=by
 have key:∀k:Int,(k<4∨9<k)→¬decide (n=k)=true:=fun k hk e=>by have:=of_decide_eq_true e;omega
 unfold fx;rw[if_neg (key 0 zO),if_neg (key 3 zO),if_neg (key 1 zO),if_neg (key 2 zO),if_neg (key 10 zO),if_neg (key 11 zO),if_neg (key 12 zO)]
open Go.Proofs Go.Proofs.Tryz
set_option maxRecDepth 20000
theorem afo(w:World)(O:Nat→Prop)(ρ:aC):V w O ρ (bR none) .nilFunc:=by simp[V]
theorem Ah(s:ae):Fc Tryz.prog 139 [.str s] (.i (uy s)):=agj s
theorem abe(f:Fact)(hf:qp f)(w:ae)(c:Int)(h:Nat→Bool)(m:jo)(code:Bool)(n:Int)(L:Bool×Bool)(hs:n=0∨n=3∨n=1∨n=2∨n=10∨n=11∨n=12):Fc Tryz.prog 100 [.agg (ed f),.agg (dR w c h (ej m) code),.i n] (.i (fx f code n L)):=by
 refine bE func100 ntmps100 results100 ?_;refine go []<|br (fun h1=>?_) (fun h1=>?_)
 ·exact oP (cR call139 rfl rfl (Ah _))<|an rfl (Sub.int (by unfold fx;exact iT h1))
 ·refine br (fun h2=>?_) (fun h2=>?_)
  ·exact oP (cR call139 rfl rfl (Ah _))<|an rfl (Sub.int (by unfold fx;exact iF h1 (iT h2)))
  ·refine br (fun h3=>?_) (fun h3=>?_)
   ·refine br (fun h4=>?_) (fun h4=>?_)
    ·refine oP (aj call140 rfl (Fa _))<|br (fun h5=>?_) (fun h5=>?_)
     ·exact an rfl (Sub.int (by unfold fx;exact iF h1 (iF h2 (kg h3 (TD h4 h5)))))
     ·refine br (fun h6=>?_) (fun h6=>?_)
      ·exact an rfl (Sub.int (by unfold fx;exact iF h1 (iF h2 (kg h3 (TE h4 h5 h6)))))
      ·exact an rfl (Sub.int (by unfold fx;exact iF h1 (iF h2 (kg h3 (TF h4 h5 h6)))))
    ·refine oP (cR call139 rfl rfl (Ah _))<|br (fun h7=>?_) (fun h7=>?_)
     ·exact an rfl (Sub.int (by unfold fx;exact iF h1 (iF h2 (kg h3 (TG h4 h7)))))
     ·refine br (fun h8=>?_) (fun h8=>?_)
      ·exact an rfl (Sub.int (by unfold fx;exact iF h1 (iF h2 (kg h3 (TH h4 h7 h8)))))
      ·exact an rfl (Sub.int (by unfold fx;exact iF h1 (iF h2 (kg h3 (TJ h4 h7 h8)))))
   ·refine br (fun h9=>?_) (fun h9=>?_)
    ·refine oP (aj call140 rfl (Fa _))<|br (fun gE=>?_) (fun gE=>?_)
     ·exact an rfl (Sub.int (by unfold fx;exact iF h1 (iF h2 (iF h3 (kg h9 (iT gE))))))
     ·exact an rfl (Sub.int (by unfold fx;exact iF h1 (iF h2 (iF h3 (kg h9 (iF gE rfl))))))
    ·refine br (fun f_=>?_) (fun f_=>?_)
     ·exact oP (aj call141 rfl (Np f hf))<|an rfl (Sub.int (by unfold fx;exact iF h1 (iF h2 (iF h3 (iF h9 (iT f_))))))
     ·refine br (fun ja=>?_) (fun ja=>?_)
      ·exact oP (aj call142 rfl (No f hf))<|an rfl (Sub.int (by unfold fx;exact iF h1 (iF h2 (iF h3 (iF h9 (iF f_ (iT ja)))))))
      ·refine bM (decide_eq_true (by simp at h1 h2 h3 h9 f_ ja;omega))<|br (fun kW=>?_) (fun kW=>?_)
       ·exact an rfl (Sub.int (by unfold fx;exact iF h1 (iF h2 (iF h3 (iF h9 (iF f_ (iF ja (kg (decide_eq_true (by simp at h1 h2 h3 h9 f_ ja;omega)) (iT kW)))))))))
       ·exact an rfl (Sub.int (by unfold fx;exact iF h1 (iF h2 (iF h3 (iF h9 (iF f_ (iF ja (kg (decide_eq_true (by simp at h1 h2 h3 h9 f_ ja;omega)) (iF kW rfl)))))))))
theorem abi(f:Fact)(hf:qp f)(w:ae)(c:Int)(h:Nat→Bool)(code:Bool)(n:Int)(L:Bool×Bool)(hs:n=0∨n=3∨n=1∨n=2∨n=10∨n=11∨n=12):Fc Tryz.prog 100 [.agg (ed f),.agg (dR w c h (D.raw (.map none)) code),.i n] (.i (fx f code n L)):=by
 refine bE func100 ntmps100 results100 ?_;refine go []<|br (fun h1=>?_) (fun h1=>?_)
 ·exact oP (cR call139 rfl rfl (Ah _))<|an rfl (Sub.int (by unfold fx;exact iT h1))
 ·refine br (fun h2=>?_) (fun h2=>?_)
  ·exact oP (cR call139 rfl rfl (Ah _))<|an rfl (Sub.int (by unfold fx;exact iF h1 (iT h2)))
  ·refine br (fun h3=>?_) (fun h3=>?_)
   ·refine br (fun h4=>?_) (fun h4=>?_)
    ·refine oP (aj call140 rfl (Fa _))<|br (fun h5=>?_) (fun h5=>?_)
     ·exact an rfl (Sub.int (by unfold fx;exact iF h1 (iF h2 (kg h3 (TD h4 h5)))))
     ·refine br (fun h6=>?_) (fun h6=>?_)
      ·exact an rfl (Sub.int (by unfold fx;exact iF h1 (iF h2 (kg h3 (TE h4 h5 h6)))))
      ·exact an rfl (Sub.int (by unfold fx;exact iF h1 (iF h2 (kg h3 (TF h4 h5 h6)))))
    ·refine oP (cR call139 rfl rfl (Ah _))<|br (fun h7=>?_) (fun h7=>?_)
     ·exact an rfl (Sub.int (by unfold fx;exact iF h1 (iF h2 (kg h3 (TG h4 h7)))))
     ·refine br (fun h8=>?_) (fun h8=>?_)
      ·exact an rfl (Sub.int (by unfold fx;exact iF h1 (iF h2 (kg h3 (TH h4 h7 h8)))))
      ·exact an rfl (Sub.int (by unfold fx;exact iF h1 (iF h2 (kg h3 (TJ h4 h7 h8)))))
   ·refine br (fun h9=>?_) (fun h9=>?_)
    ·refine oP (aj call140 rfl (Fa _))<|br (fun gE=>?_) (fun gE=>?_)
     ·exact an rfl (Sub.int (by unfold fx;exact iF h1 (iF h2 (iF h3 (kg h9 (iT gE))))))
     ·exact an rfl (Sub.int (by unfold fx;exact iF h1 (iF h2 (iF h3 (kg h9 (iF gE rfl))))))
    ·refine br (fun f_=>?_) (fun f_=>?_)
     ·exact oP (aj call141 rfl (Np f hf))<|an rfl (Sub.int (by unfold fx;exact iF h1 (iF h2 (iF h3 (iF h9 (iT f_))))))
     ·refine br (fun ja=>?_) (fun ja=>?_)
      ·exact oP (aj call142 rfl (No f hf))<|an rfl (Sub.int (by unfold fx;exact iF h1 (iF h2 (iF h3 (iF h9 (iF f_ (iT ja)))))))
      ·refine bM (decide_eq_true (by simp at h1 h2 h3 h9 f_ ja;omega))<|br (fun kW=>?_) (fun kW=>?_)
       ·exact an rfl (Sub.int (by unfold fx;exact iF h1 (iF h2 (iF h3 (iF h9 (iF f_ (iF ja (kg (decide_eq_true (by simp at h1 h2 h3 h9 f_ ja;omega)) (iT kW)))))))))
       ·exact an rfl (Sub.int (by unfold fx;exact iF h1 (iF h2 (iF h3 (iF h9 (iF f_ (iF ja (kg (decide_eq_true (by simp at h1 h2 h3 h9 f_ ja;omega)) (iF kW rfl)))))))))
theorem abh(f:Fact)(hf:qp f)(w:ae)(c:Int)(h:Nat→Bool)(m:jo)(code:Bool)(n:Int)(L:Bool×Bool)(h4:4≤n)(h9:n≤9)(hB:fJ none m n=some L):Fc Tryz.prog 100 [.agg (ed f),.agg (dR w c h (ej m) code),.i n] (.i (fx f code n L)):=by
 refine bE func100 ntmps100 results100 ?_;exact go []<|aQ zQ<|aQ zQ<|aQ zQ<|aQ zQ<|aQ zQ<|aQ zQ<|aQ zQ<|oP (fun _=>ais e_ (vD:=bR) (m:=m) (k:=n) (d:=none) underlying170 zeroValue225 afo rfl rfl rfl rfl)<|oP (aj call143 rfl (VU f n zO zO))<|oP (cR call187 (by exact congrArg (fun z=>some (bR z)) hB) rfl (KM (r3 f n) L.1 L.2 (ana hf n)))<|ord<|an rfl (Sub.int (by exact abg zO zO))
end Go.T
namespace Go.T
open Go
variable[bT]
section
variable{P:Program} {F:Fr} {ops:Array Oper} {K:Env→aa→Prop}
theorem aq.uZ{o:Oper}{env:Env}{J:aa}{d:D}{ai:aa}(h:aq P o env J d ai):tD P o env J (fun _:Unit=>True) (fun _=>d) (fun _=>ai):=fun O ρ a w af hg hv=>
 Oper.wp_mono (by rintro a' w' ⟨aw,v,h⟩;exact⟨(),aw,v,trivial,h⟩) (h O ρ a w af hg hv)
def G3(P:Program)(F:Fr)(ops:Array Oper)(I:Array Bool→Env→aa→Prop)(i:Nat)(o:Oper):Prop:=
 ∀listed env J,listed.size=ops.size→I listed env J→aZ listed i=false→(∀e∈o.after,Region.binds .any e=true→aZ listed e.on=true)→
  ∃(ι:Type) (A:ι→Prop) (d:ι→D) (ai:ι→aa),eQ F.N o.dst=true∧On ops env o∧tD P o env J A d ai∧∀j,A j→∃fH dn,Le F (env.put o.dst (d j)) (ai j) fH dn∧I (listed.setIfInBounds i true) fH dn
def wQ(P:Program)(F:Fr)(ops:Array Oper)(I:Array Bool→Env→aa→Prop):Nat→List Oper→Prop
 |_,[]=>True
 |i,o::l=>G3 P F ops I i o∧wQ P F ops I (i+1) l
theorem wQ.get{I:Array Bool→Env→aa→Prop}:∀{l:List Oper}{k i:Nat}{o:Oper},wQ P F ops I k l→l[i]?=some o→G3 P F ops I (k+i) o
 |[],k,i,o,_,h=>by simp at h
 |x::l,k,0,o,hs,h=>by simp at h;subst h;exact hs.1
 |x::l,k,i+1,o,hs,h=>by
  have:=wQ.get hs.2 (i:=i) (o:=o) (by simpa using h);rwa[Nat.add_right_comm,Nat.add_assoc]at this
theorem j7.adZ{I:Array Bool→Env→aa→Prop}(hb:A7 ops=true)(t_:∀listed env J,listed.size=ops.size→(∀i,i<ops.size→aZ listed i=true)→I listed env J→K env J)
  (bd:wQ P F ops I 0 ops.toList):∀(eF:Nat)(listed:Array Bool)(env:Env)(J:aa),listed.size=ops.size→wD listed ops.size≤eF→I listed env J→j7 P F ops K eF listed env J:=by
 intro eF;induction eF with
 |zero=>
  intro listed env J hs hf hI;have eI:∀i,i<ops.size→aZ listed i=true:=fun i hi=>by
   cases e:aZ listed i with
   |true=>rfl
   |false=>have:=VO hi e;omega
  refine j7.nil ?_ (t_ listed env J hs eI hI);rw[List.eq_nil_iff_forall_not_mem];intro i hi;have:=F_ hs hi;rw[eI i this.1]at this;cases this.2.1
 |succ eF ih=>
  intro listed env J hs hf hI;refine⟨fun C Q hQ a w BV=>⟨fun hr=>hQ a w env J (t_ listed env J hs (Un hs hb hr) hI) BV,fun i hi=>?_⟩⟩;obtain⟨h1,h2,h3⟩:=F_ hs hi;have ho:ops[i]?=some ops[i]:=Array.getElem?_eq_getElem h1;have h4:G3 P F ops I (0+i) ops[i]:=wQ.get bd (by simpa using ho);rw[Nat.zero_add]at h4;obtain⟨ι,A,d,ai,q1,q2,q3,q4⟩:=h4 listed env J hs hI h2 (h3 _ ho);obtain⟨ρ,sN⟩:=BV;unfold wpOpIn;simp only[ho];rw[if_pos (Ds q2 fun g b t _ _ d hd=>sN.env t d hd)];have:=q3 C.O ρ a w sN.tr.ok sN.xl (fun x _ d' h=>uG sN.env x d' h);refine Oper.wpIn_mono ?_ (yC C.ro this (by rintro a' w' ⟨j,aw,v,_,rfl,_⟩;exact Act.mI ..));rintro a' w' ⟨j,aw,v,hA,rfl,kZ,hv⟩;obtain⟨fH,dn,q5,q6⟩:=q4 j hA;exact(j7.bC q5 (ih _ _ _ (by simpa using hs) (by have:=VP h1 hs.symm h2;omega) q6)).out C Q hQ _ _ ⟨aw,sN.step kZ (vj sN.size q1 (fun t d h=>kZ.V (sN.env t d h)) hv) (Act.uS _ _ _) (Act.mI ..)⟩
theorem U.aiY{ι:Type}{A:ι→Prop}{fH:ι→Env}{dn:ι→aa}{env:Env}{J:aa}{Q:Exit→Env→aa→Prop}{cs:List Code}{id:Nat}{l:List Oper}{c:Code}(I:Array Bool→Env→aa→Prop)(hm:P.follows .mixedOrders=true)(hb:A7 l.toArray=true)
  (h0:I (Array.replicate l.length false) env J)(bd:wQ P F l.toArray I 0 l)(t_:∀listed e o,listed.size=l.length→(∀i,i<l.length→aZ listed i=true)→I listed e o→∃i,A i∧Le F e o (fH i) (dn i))
  (k:∀i,A i→U P F (c::cs) Q (fH i) (dn i)):U P F (.region id l.toArray true::c::cs) Q env J:=⟨⟨fun C a w hs=>by
 refine wpIn_region_any hm ?_;have hT:j7 P F l.toArray (fun e o=>∃i,A i∧Le F e o (fH i) (dn i)) l.length (Array.replicate l.length false) env J:=
  j7.adZ (I:=I) hb (by simpa using t_) (by simpa using bd) l.length _ env J zS (by
   have:wD (Array.replicate l.length false) l.toArray.size≤(List.range l.toArray.size).length:=List.countP_le_length;simpa using this) h0
 have:=hT.out C (fun e a' w'=>∃aS ai,kr (pI P F (c::cs) Q) Q e aS ai∧St F C aS ai a' w') (fun a w aS ai hk hs=>by
  obtain⟨i,hA,gv⟩:=hk;exact⟨fH i,dn i,(k i hA).out,gv.out C a w hs⟩) a _ hs.drew
 simpa using this⟩⟩
end
end Go.T
namespace Go.T
open Go
def AW:oS:=⟨[],0,fun _=>false,none,false⟩
def KZ(k:Int)(v:oS):Prop:=r7 k v∨(jb k=none∧v=AW)
theorem UH{k:Int}{r:lO}(h:jb k=some r):1≤k∧k≤18:=by
 rcases Decidable.em (1≤k∧k≤18)with g|g
 ·exact g
 ·unfold jb at h;rw[if_neg zO,if_neg zO,if_neg zO,if_neg zO,if_neg zO,if_neg zO,if_neg zO,if_neg zO,if_neg zO,if_neg zO,if_neg zO,if_neg zO,if_neg zO,if_neg zO,if_neg zO,if_neg zO,if_neg zO,if_neg zO]at h;cases h
theorem ajg{k:Int}(h:∀j:Int,1≤j→j≤18→k≠j):jb k=none:=by
 cases e:jb k with
 |none=>rfl
 |some r=>have:=UH e;exact absurd rfl (h k this.1 this.2)
def Fe:List Int:=[1,2,3,4,5,6,7,8,9,10,11,12,13,14,15,16,17,18]
theorem afO{k:Int}:k∈Fe↔1≤k∧k≤18:=by
 constructor
 ·intro h;simp only[Fe,List.mem_cons,List.not_mem_nil,or_false]at h;omega
 ·intro h;simp only[Fe,List.mem_cons,List.not_mem_nil,or_false];omega
theorem EE{β:Type}(d:β):∀(m:List (Int×β))(k:Int),k∈m.map (·.1)→(k,fJ d m k)∈m
 |[],k,h=>by cases h
 |(a,v)::r,k,h=>by
  by_cases e:k=a
  ·subst e;simp[fJ]
  ·simp only[fJ,if_neg e];exact List.mem_cons_of_mem _ (EE d r k (by simpa[e]using h))
theorem Pz{β:Type}(d:β):∀(m:List (Int×β))(k:Int),k∉m.map (·.1)→fJ d m k=d
 |[],k,_=>rfl
 |(a,v)::r,k,h=>by
  simp only[List.map_cons,List.mem_cons,not_or]at h;simp only[fJ,if_neg h.1];exact Pz d r k h.2
theorem P'{β:Type}(m:List (Int×β))(k:Int):kX m k=true↔k∈m.map (·.1):=by
 unfold kX;rw[List.any_eq_true,List.mem_map];constructor
 ·rintro⟨p,hp,h⟩;exact⟨p,hp,(of_decide_eq_true h).symm⟩
 ·rintro⟨p,hp,rfl⟩;exact⟨p,hp,by simp⟩
theorem aeG{m:List (Int×oS)}(h1:(m.map (·.1)).Perm Fe)(h2:∀p∈m,r7 p.1 p.2)(k:Int):KZ k (fJ AW m k)∧kX m k=(jb k).isSome:=by
 by_cases hk:k∈m.map (·.1)
 ·have h3:=h2 _ (EE AW m k hk);refine⟨.inl h3,?_⟩;obtain⟨r,hr,_⟩:=h3;rw[show kX m k=true from(P' m k).2 hk];simp only at hr;rw[hr];rfl
 ·have h3:jb k=none:=ajg fun j hj Ji e=>hk (h1.mem_iff.2 (afO.2 ⟨by omega,by omega⟩));refine⟨.inr ⟨h3,Pz _ _ _ hk⟩,?_⟩;rw[h3];cases e:kX m k with
  |false=>rfl
  |true=>exact absurd ((P' m k).1 e) hk
def xQ(r:lO)(n:Int):Bool×Bool:=(fJ none (r.num.getD []) n).getD (false,false)
def U'(n:Int):Bool:=decide (n=0)||decide (n=3)||decide (n=1)||decide (n=2)||decide (n=10)||decide (n=11)||decide (n=12)
def UE(r:lO):Bool:=r.more.all U'&&(match r.num with|none=>true|some E=>E.all (fun p=>decide (4≤p.1)&&decide (p.1≤9)&&p.2.isSome)&&decide ((E.map (·.1)).Nodup))
theorem ajf{k:Int}{r:lO}(h:jb k=some r):UE r=true:=by
 have h1:=UH h;have h2:k=1∨k=2∨k=3∨k=4∨k=5∨k=6∨k=7∨k=8∨k=9∨k=10∨k=11∨k=12∨k=13∨k=14∨k=15∨k=16∨k=17∨k=18:=by omega
 rcases h2 with rfl|rfl|rfl|rfl|rfl|rfl|rfl|rfl|rfl|rfl|rfl|rfl|rfl|rfl|rfl|rfl|rfl|rfl<;>(have h':=Option.some.inj h;rw[←h'];decide)
def rv(r:lO)(n:Nat):Bool:=ca (r.num.getD []) r.more n
theorem acu{E m:jo}(h:dC E m)(more:List Int)(j:Nat):ca m more j=ca E more j:=by
 have key:∀a:jo,(a.any fun p=>decide (p.1=(j:Int)))=true↔(j:Int)∈a.map (·.1):=by
  intro a;rw[List.any_eq_true,List.mem_map];constructor
  ·rintro⟨p,hp,h⟩;exact⟨p,hp,of_decide_eq_true h⟩
  ·rintro⟨p,hp,h⟩;exact⟨p,hp,decide_eq_true h⟩
 unfold ca
 congr 1
 rw[Bool.eq_iff_iff,key,key];exact h.1.mem_iff
theorem agx{E:jo}(hn:(E.map (·.1)).Nodup){k:Int}{a b:nU}(ha:(k,a)∈E)(hb:(k,b)∈E):a=b:=by
 induction E with
 |nil=>cases ha
 |cons p E ih=>
  rw[List.map_cons,List.nodup_cons]at hn;rcases List.mem_cons.1 ha with e1|h1<;>rcases List.mem_cons.1 hb with e2|h2
  ·rw[←e1]at e2;exact(Prod.mk.inj e2).2.symm
  ·exact absurd (by have:=List.mem_map_of_mem (f:=Prod.fst) h2;rw[←e1];exact this) hn.1
  ·exact absurd (by have:=List.mem_map_of_mem (f:=Prod.fst) h1;rw[←e2];exact this) hn.1
  ·exact ih hn.2 h1 h2
theorem agF{E m:jo}{n:Int}(h:dC E m)(hn:(E.map (·.1)).Nodup)(hs:∀p∈E,p.2.isSome=true)(hk:n∈m.map (·.1)):fJ none m n=some ((fJ none E n).getD (false,false)):=by
 have h1:=h.2 _ (EE none m n hk);have h2:=EE none E n (h.1.mem_iff.1 hk);have h3:=agx hn h1 h2;rw[h3];have h4:=hs _ h2;simp only at h4;cases e:fJ none E n with
 |none=>rw[e]at h4;cases h4
 |some L=>rfl
def ni(f:Fact)(r:lO):List Int→Int
 |[]=>0
 |n::l=>if rv r n.toNat=true then(if decide (fx f r.code n (xQ r n)≠0)=true then fx f r.code n (xQ r n)else ni f r l)else if(!qn f n)=true then 1 else ni f r l
@[reducible] def xi:List Int:=[0,1,2,3,4,5,6,7,8,9,10,11,12]
theorem Pa{pre rest:List Int}{x:Int}(h:xi=pre++x::rest):x=(pre.length:Int)∧x<13:=by
 have h1:xi[pre.length]?=some x:=by rw[h];simp
 have hl:pre.length<13:=by
  have:=congrArg List.length h;simp at this;omega
 have key:∀i:Nat,i<13→xi[i]?=some (i:Int):=by decide
 rw[key _ hl]at h1;cases h1;exact⟨rfl,by omega⟩
def Md(f:Fact):Fact:=⟨f.key,f.yw,true,0,0,[],[],[],[],[],[],[],⟨[],[]⟩,⟨[],[]⟩,⟨[],[]⟩,[],[],0⟩
def zT(f:Fact):Int:=
 match jb f.kind with
 |none=>7
 |some r=>ni f r xi
def mX(f:Fact):Int:=
 if(!isName f.key)=true then 23 else if decide (f.yw<0)=true then 2 else if f.cancelled=true then(if(!UN f (Md f))=true then 1 else 0)
 else if(decide (f.day< -25567)||decide (84005<f.day))=true then 13 else zT f
theorem OQ{e:Int}{f:Fact}{r:lO}{n:Int}{l:List Int}(hp:e=ni f r (n::l))(h:rv r n.toNat=true)(h2:decide (fx f r.code n (xQ r n)≠0)=true):fx f r.code n (xQ r n)=e:=by rw[hp,ni,if_pos h,if_pos h2]
theorem OR{e:Int}{f:Fact}{r:lO}{n:Int}{l:List Int}(hp:e=ni f r (n::l))(h:rv r n.toNat=true)(h2:decide (fx f r.code n (xQ r n)≠0)=false):e=ni f r l:=by rw[hp,ni,if_pos h,if_neg (by rw[h2];simp)]
theorem OS{e:Int}{f:Fact}{r:lO}{n:Int}{l:List Int}(hp:e=ni f r (n::l))(h:rv r n.toNat=false)(h2:(!qn f n)=true):1=e:=by rw[hp,ni,if_neg (by rw[h];simp),if_pos h2]
theorem OT{e:Int}{f:Fact}{r:lO}{n:Int}{l:List Int}(hp:e=ni f r (n::l))(h:rv r n.toNat=false)(h2:(!qn f n)=false):e=ni f r l:=by rw[hp,ni,if_neg (by rw[h];simp),if_neg (by rw[h2];simp)]
theorem Ov{w:ae}{c:Int}{h:Nat→Bool}{num:D}{code:Bool}{j:Nat}(hj:j<13):(dR w c h num code)[2+j]?=some (.b (h j)):=by
 have:=aac (w:=w) (c:=c) (h:=h) (num:=num) (code:=code) (i:=(j:Int)) zO zO;simpa using this
theorem RE{k:Int}{v:oS}{r:lO}(hv:r7 k v)(hr:jb k=some r)(j:Nat):v.h j=rv r j:=by
 obtain⟨r',pg,_,_,_,h4⟩:=hv;rw[hr]at pg;cases pg;unfold LH at h4;unfold rv;cases e:r.num with
 |none=>rw[e]at h4;rw[h4.2];rfl
 |some E=>
  rw[e]at h4;obtain⟨m,hm,_,h5⟩:=h4;rw[h5];exact acu hm r.more j
theorem RG{k:Int}{v:oS}{r:lO}(hv:KZ k v)(hr:jb k=some r):r7 k v:=by
 rcases hv with hv|⟨hn,_⟩
 ·exact hv
 ·rw[hr]at hn;cases hn
theorem UG{k:Int}(h:(!(jb k).isSome)=false):∃r,jb k=some r:=by
 cases e:jb k with
 |none=>rw[e]at h;cases h
 |some r=>exact⟨r,rfl⟩
theorem Nq{f:Fact}(h:(!(jb f.kind).isSome)=true):7=zT f:=by
 unfold zT;cases e:jb f.kind with
 |none=>rfl
 |some r=>rw[e]at h;cases h
theorem Nr{f:Fact}{r:lO}(h:jb f.kind=some r):zT f=ni f r xi:=by unfold zT;rw[h]
theorem DT{f:Fact}(h1:(!isName f.key)=false)(h2:decide (f.yw<0)=false)(h3:f.cancelled=false)(h4:(decide (f.day< -25567)||decide (84005<f.day))=false):mX f=zT f:=by
 unfold mX;rw[if_neg (by rw[h1];simp),if_neg (by rw[h2];simp),if_neg (by rw[h3];simp),if_neg (by rw[h4];simp)]
theorem ane(f:Fact):jG [.agg (ed f),.agg [.str f.key,.i f.yw,.b true,.raw (.int .i64 0),.raw (.int .i64 0),.str [],.str [],.str [],.str [],.str [],.str [],.str [],.str [],.str [],.str [],.str [],.str [],.str [],.raw (.slice none 0 0),.raw (.slice none 0 0),.raw (.int .i64 0)]] [.agg (ed f),.agg (ed (Md f))]:=by
 refine .cons (Sub.refl _) (.cons (Sub.agg ?_) .nil);repeat(first|exact .nil|refine .cons (Sub.refl _) ?_|refine .cons (Sub.nil _ _) ?_)
open Go.Proofs Go.Proofs.Tryz
set_option maxRecDepth 20000
theorem OP{f:Fact}(hf:qp f){k:Int}{v:oS}{r:lO}(hv:r7 k v)(hr:jb k=some r){n:Int}(h0:0≤n)(kW:n<13)(hh:rv r n.toNat=true):Fc Tryz.prog 100 [.agg (ed f),fK v,.i n] (.i (fx f r.code n (xQ r n))):=by
 obtain⟨r',pg,e1,e2,e3,h4⟩:=hv;rw[hr]at pg;cases pg;have hg:=ajf hr;unfold UE at hg;rw[Bool.and_eq_true]at hg;have zI:∀x∈r.more,x=0∨x=3∨x=1∨x=2∨x=10∨x=11∨x=12:=fun x hx=>by
  have:=List.all_eq_true.1 hg.1 x hx;simp only[U',Bool.or_eq_true,decide_eq_true_eq]at this;omega
 obtain⟨vw,vc,vh,vn,r4⟩:=v;simp only at e1 e2 e3;subst e3;have hnt:((n.toNat:Nat):Int)=n:=by omega
 unfold rv ca at hh;rw[Bool.or_eq_true,hnt]at hh;have zy:(r.more.any fun x=>decide (x=n))=true→n=0∨n=3∨n=1∨n=2∨n=10∨n=11∨n=12:=fun h=>by
  obtain⟨x,hx,e⟩:=List.any_eq_true.1 h;obtain rfl:x=n:=of_decide_eq_true e;exact zI x hx
 unfold LH at h4;cases e:r.num with
 |none=>
  rw[e]at h4 hh;simp only at h4;obtain⟨rfl,_⟩:=h4;refine abi f hf vw vc vh r.code n _ (zy ?_);rcases hh with hh|hh
  ·simp at hh
  ·exact hh
 |some E=>
  rw[e]at h4 hh hg;simp only at h4 hg;obtain⟨m,hm,rfl,_⟩:=h4;rw[Bool.and_eq_true]at hg;have fB:=of_decide_eq_true hg.2.2;have hE:∀p∈E,(4≤p.1∧p.1≤9)∧p.2.isSome=true:=fun p hp=>by
   have:=List.all_eq_true.1 hg.2.1 p hp;rw[Bool.and_eq_true,Bool.and_eq_true]at this;exact⟨⟨of_decide_eq_true this.1.1,of_decide_eq_true this.1.2⟩,this.2⟩
  rcases hh with hh|hh
  ·simp only[Option.getD_some]at hh;obtain⟨p,hp,e2⟩:=List.any_eq_true.1 hh;have e2:=of_decide_eq_true e2;have h49:=(hE p hp).1;have Jl:n∈m.map (·.1):=hm.1.mem_iff.2 (e2▸List.mem_map_of_mem (f:=Prod.fst) hp);have hB:=agF hm fB (fun p hp=>(hE p hp).2) Jl;refine abh f hf vw vc vh m r.code n _ zO zO ?_;rw[hB];unfold xQ;rw[e];rfl
  ·exact abe f hf vw vc vh m r.code n _ (zy hh)
def A_:List (Option Nat):=[some 33,some 34,some 35,some 36,some 32,some 37,some 38,some 3,none,some 4]
def Xq(f:Fact):List (D→Prop):=[fun d=>∃m,Fh m∧d=vM iH fK m,fun d=>d=.bz ((ed f).drop 4),fun d=>d=.i f.kind,fun d=>∃v,KZ f.kind v∧d=.bl [fK v,.b (jb f.kind).isSome],fun d=>∃v,KZ f.kind v∧d=.bl [fK v,.b (jb f.kind).isSome],
 fun d=>∃v,KZ f.kind v∧d=fK v,fun d=>d=.b (jb f.kind).isSome,fun d=>d=.box 1 0,fun _=>True,fun d=>d=.b (jb f.kind).isSome]
def Hu(f:Fact)(i:Nat):D→Prop:=((Xq f)[i]?).getD fun _=>True
theorem Nh:wX A_=true:=by decide+kernel
abbrev CF:Fr:=⟨60,[],false,none⟩
structure wL(f:Fact)(listed:Array Bool)(env:Env)(J:aa):Prop where
 aE:qd A_ (Hu f) listed env
 b1:env.get 1=some (.bz (ed f))
 bo:aZ listed 7=false→J.get 1=none
 al:aZ listed 7=true→aZ listed 8=false→∃ds:List D,ds.length=17∧J.get 1=some (.cells ds)
 c8:aZ listed 8=true→aZ listed 7=true
 st:aZ listed 8=true→∃v,KZ f.kind v∧J.get 1=some (.cells (dR v.w v.c v.h (CB v.num) v.code))
abbrev GU(f:Fact)(listed:Array Bool)(env:Env)(J:aa)(i:Nat)(o:Oper)(ops:Array Oper):Prop:=
 ∃(ι:Type) (A:ι→Prop) (d:ι→D) (ai:ι→aa),eQ CF.N o.dst=true∧On ops env o∧tD Tryz.prog o env J A d ai∧∀j,A j→∃fH dn,Le CF (env.put o.dst (d j)) (ai j) fH dn∧wL f (listed.setIfInBounds i true) fH dn
section
variable{f:Fact} {ops:Array Oper} {listed:Array Bool} {env:Env} {J:aa} {i t:Nat} {o:Oper}
theorem we{ι:Type}{A:ι→Prop}{d:ι→D}(hs:listed.size=ops.size)(hn:Nat.blt i ops.size=true)(hI:wL f listed env J)(hi:A_[i]?=some (some t))(ht:(!(t==1))=true)(IP:(!(i==7)&&!(i==8))=true)(hN:eQ CF.N (some t)=true)(ho:o.dst=some t)(hg:o.guard=none)(hV:∀j,A j→Hu f i (d j))(hq:tD Tryz.prog o env J A d (fun _=>J)):GU f listed env J i o ops:=by
 have aY:i<listed.size:=by rw[hs];simpa[Nat.blt_eq]using hn
 rw[Bool.and_eq_true]at IP;have h7:i≠7:=by simpa using IP.1
 have h8:i≠8:=by simpa using IP.2
 have JK:t≠1:=by simpa using ht
 refine⟨ι,A,d,_,by rw[ho];exact hN,uF hg,hq,fun j hj=>⟨(t,d j)::env,J,by rw[ho];exact Le.refl _ _ _,hI.aE.put Nh aY hi (hV j hj),by rw[Env.bf,if_neg JK];exact hI.b1,fun e=>hI.bo ?_,fun e e'=>hI.al ?_ ?_,fun e=>Cc aY (hI.c8 ?_),fun e=>hI.st ?_⟩⟩;all_goals first|(rwa[gd aY,if_neg h7]at e;done)|(rwa[gd aY,if_neg h8]at e';done)|(rwa[gd aY,if_neg h8]at e;done)
theorem WG{z:Value}(hs:listed.size=ops.size)(hn:Nat.blt 8 ops.size=true)(hI:wL f listed env J)(hl:aZ listed 7=false)(hi:A_[7]?=some (some t))(ht:(!(t==1))=true)(hN:eQ CF.N (some t)=true)(ho:o.dst=some t)(hg:o.guard=none)(hV:Hu f 7 (.box 1 0))(hz:(z.cells.toList.map mK).length=17)
  (hq:J.get 1=none→aq Tryz.prog o env J (.box 1 0) ((1,.cells (z.cells.toList.map mK))::J)):GU f listed env J 7 o ops:=by
 have pf:8<listed.size:=by rw[hs];simpa[Nat.blt_eq]using hn
 have aY:7<listed.size:=by omega
 have h8:aZ listed 8=false:=by
  cases e:aZ listed 8 with
  |false=>rfl
  |true=>have:=hI.c8 e;rw[hl]at this;cases this
 have JK:t≠1:=by simpa using ht
 refine⟨_,_,_,_,by rw[ho];exact hN,uF hg,(hq (hI.bo hl)).uZ,fun j hj=>⟨(t,.box 1 0)::env,_,by rw[ho];exact Le.refl _ _ _,hI.aE.put Nh aY hi hV,by rw[Env.bf,if_neg JK];exact hI.b1,fun e=>?_,fun _ _=>⟨_,hz,by rw[aa.bf,if_pos rfl]⟩,fun _=>by rw[gd aY,if_pos rfl],fun e=>?_⟩⟩
 ·rw[gd aY,if_pos rfl]at e;cases e
 ·rw[gd aY,if_neg zD,h8]at e;cases e
theorem akm{v:oS}(hs:listed.size=ops.size)(hn:Nat.blt 8 ops.size=true)(hI:wL f listed env J)(hl:aZ listed 8=false)(h7:aZ listed 7=true)(hi:A_[8]?=some none)(ho:o.dst=none)(hg:o.guard=none)(hv:KZ f.kind v)
  (hq:∀ds:List D,ds.length=17→J.get 1=some (.cells ds)→aq Tryz.prog o env J (.raw undef) (J.set 1 (.cells (dR v.w v.c v.h (CB v.num) v.code)))):GU f listed env J 8 o ops:=by
 have aY:8<listed.size:=by rw[hs];simpa[Nat.blt_eq]using hn
 obtain⟨ds,g1,g2⟩:=hI.al h7 hl;refine⟨_,_,_,_,by rw[ho];rfl,uF hg,(hq ds g1 g2).uZ,fun j hj=>⟨env,_,by rw[ho];exact Le.refl _ _ _,hI.aE.none aY hi,hI.b1,fun e=>?_,fun _ e=>?_,fun _=>Cc aY h7,fun _=>⟨v,hv,by rw[aa.eG,if_pos rfl]⟩⟩⟩
 ·rw[gd aY,if_neg zD,h7]at e;cases e
 ·rw[gd aY,if_pos rfl]at e;cases e
end
theorem adX{f:Fact}{n:Nat}{env:Env}{J:aa}(h1:env.get 1=some (.bz (ed f)))(cz:J.get 1=none):wL f (Array.replicate n false) env J:=by
 refine⟨fun j t h=>?_,h1,fun _=>cz,fun h=>?_,fun h=>?_,fun h=>?_⟩<;>(rw[z6]at h;cases h)
theorem aah{f:Fact}{listed:Array Bool}{env:Env}{J:aa}(eI:∀i,i<10→aZ listed i=true)(hI:wL f listed env J):∃v,KZ f.kind v∧Le CF env J [(1,.bz (ed f)),(3,.box 1 0),(4,.b (jb f.kind).isSome)] [(1,.cells (dR v.w v.c v.h (CB v.num) v.code))]:=by
 obtain⟨v,hv,ho⟩:=hI.st (eI 8 zD);obtain⟨d3,e3,q3⟩:=hI.aE 7 3 (eI 7 zD) rfl;obtain⟨d4,e4,q4⟩:=hI.aE 9 4 (eI 9 zD) rfl;have q3:d3=.box 1 0:=q3;have q4:d4=.b (jb f.kind).isSome:=q4;subst q3;subst q4;refine⟨v,hv,Le.mk rfl (.cons hI.b1 (Sub.refl _) rfl (.cons e3 (Sub.refl _) rfl (.cons e4 (Sub.refl _) rfl .nil))) (.cons ho ?_ .nil)⟩;obtain⟨w,c,h,nu,code⟩:=v;cases nu<;>rfl
theorem aeF(w:World)(O:Nat→Prop)(ρ:aC):V w O ρ (fK AW) (.agg #[.string ⟨#[]⟩,.int .i64 0,.bool false,.bool false,.bool false,.bool false,.bool false,.bool false,.bool false,.bool false,.bool false,.bool false,.bool false,.bool false,.bool false,.map none,.bool false]):=by
 simp only[V];exact⟨_,rfl,by simp[V,Vs,aH,AW,D.i,D.b]⟩
structure X8(f:Fact)(vw:ae)(vc:Int)(vh:Nat→Bool)(r4:Bool)(r:lO)where
 pre:List Int
 rest:List Int
 hx:xi=pre++rest
 hp:mX f=ni f r rest
structure X7(f:Fact)(vw:ae)(vc:Int)(vh:Nat→Bool)(m:jo)(r4:Bool)(r:lO)where
 pre:List Int
 rest:List Int
 hx:xi=pre++rest
 hp:mX f=ni f r rest
theorem X6(f:Fact)(hf:qp f):Fc Tryz.prog 70 [.agg (ed f)] (.i (mX f)):=by
 refine bE func70 ntmps70 results70 ?_;refine go [11,17]<|oP (aj call97 rfl (Cw _))<|br (fun h1=>?_) (fun h1=>?_)
 ·exact an rfl (Sub.int (by unfold mX;exact iT h1))
 ·refine br (fun h2=>?_) (fun h2=>?_)
  ·exact an rfl (Sub.int (by(unfold mX;exact iF h1 (iT h2))))
  ·refine br (fun h3=>?_) (fun h3=>?_)
   ·refine oP (aj call98 rfl (Fc.sub (ajx f (Md f)) (ane f)))<|br (fun h4=>?_) (fun h4=>?_)
    ·exact an rfl (Sub.int (by(unfold mX;exact iF h1 (iF h2 (kg h3 (iT h4))))))
    ·exact an rfl (Sub.int (by(unfold mX;exact iF h1 (iF h2 (kg h3 (iF h4 rfl))))))
   ·refine br (fun h5=>?_) (fun h5=>?_)
    ·exact an rfl (Sub.int (by(unfold mX;exact iF h1 (iF h2 (iF h3 (iT h5))))))
    ·refine U.bC (Le.h_ 1 0 rfl rfl rfl rfl) ?_;refine U.aiY (A:=fun v=>KZ f.kind v) (fH:=fun _=>[(1,.bz (ed f)),(3,.box 1 0),(4,.b (jb f.kind).isSome)]) (dn:=fun v=>[(1,.cells (dR v.w v.c v.h (CB v.num) v.code))]) (wL f) mS zK ?_ ?_ ?_ ?_
     ·exact adX rfl rfl
     ·exact⟨(fun _ _ _ hs hI hl hd=>by
    skip;exact we hs zK hI rfl rfl rfl rfl rfl rfl (fun m hm=>⟨m,hm,rfl⟩) (T' call99 rfl aeH _)),
   (fun _ _ _ hs hI hl hd=>by
    skip;exact we hs zK hI rfl rfl rfl rfl rfl rfl (fun _ _=>rfl) (aq.uZ (oH (n:=0) 3 4 underlying81 sizeOf3 rfl (by exact hI.b1) rfl _))),
   (fun _ _ _ hs hI hl hd=>by
    obtain⟨_,HS,rfl⟩:=hI.aE 1 34 (dp hd 1 zK) rfl;exact we hs zK hI rfl rfl rfl rfl rfl rfl (fun _ _=>rfl) (aq.uZ (cG isAgg3 (by exact HS) _))),
   (fun _ _ _ hs hI hl hd=>by
    obtain⟨_,HR,mm,hA,rfl⟩:=hI.aE 0 33 (dp hd 0 zK) rfl;obtain⟨_,HT,rfl⟩:=hI.aE 2 35 (dp hd 2 zK) rfl;obtain⟨hk1,ua⟩:=aeG hA.1 hA.2 f.kind;exact we hs zK hI rfl rfl rfl rfl rfl rfl (fun _ _=>⟨_,hk1,by rw[←ua]⟩) (aq.uZ (aiu e_ (vD:=fK) (m:=mm) (k:=f.kind) (d:=AW) underlying174 zeroValue172 aeF (by exact HR) rfl (by exact HT) rfl))),
   (fun _ _ _ hs hI hl hd=>by
    obtain⟨_,HU,v,hv,rfl⟩:=hI.aE 3 36 (dp hd 3 zK) rfl;exact we hs zK hI rfl rfl rfl rfl rfl rfl (fun _ _=>⟨v,hv,rfl⟩) (aq.uZ (bG (by exact HU) _))),
   (fun _ _ _ hs hI hl hd=>by
    obtain⟨_,Bh,v,hv,rfl⟩:=hI.aE 4 32 (dp hd 4 zK) rfl;exact we hs zK hI rfl rfl rfl rfl rfl rfl (fun _ _=>⟨v,hv,rfl⟩) (aq.uZ (iJ (by exact Bh) rfl _))),
   (fun _ _ _ hs hI hl hd=>by
    obtain⟨_,Bh,v,hv,rfl⟩:=hI.aE 4 32 (dp hd 4 zK) rfl;exact we hs zK hI rfl rfl rfl rfl rfl rfl (fun _ _=>rfl) (aq.uZ (iJ (by exact Bh) rfl _))),
   (fun _ _ _ hs hI hl hd=>by
    skip;exact WG hs zK hI hl rfl rfl rfl rfl rfl rfl rfl (fun cz=>ln 1 zeroValue172 cz)),
   (fun _ _ _ hs hI hl hd=>by
    obtain⟨_,HV,v,hv,rfl⟩:=hI.aE 5 37 (dp hd 5 zK) rfl;obtain⟨_,e3,rfl⟩:=hI.aE 7 3 (dp hd 7 zK) rfl;exact akm (v:=v) hs zK hI hl (dp hd 7 zK) rfl rfl rfl hv (fun ds h1 h2=>mJ sizeOf172 (by exact e3) (by exact HV) rfl (by obtain⟨w,c,h,nu,code⟩:=v;cases nu<;>rfl) h2 h1)),
   (fun _ _ _ hs hI hl hd=>by
    obtain⟨_,w7,rfl⟩:=hI.aE 6 38 (dp hd 6 zK) rfl;exact we hs zK hI rfl rfl rfl rfl rfl rfl (fun _ _=>rfl) (aq.uZ (Ax (by exact w7) _))),trivial⟩
     ·intro listed e ob hs eI hI;exact aah eI hI
     ·rintro⟨vw,vc,vh,_|m,r4⟩ hv
      ·show U _ _ _ _ [(1,.bz (ed f)),(3,.box 1 0),(4,.b (jb f.kind).isSome)] [(1,.cells (dR vw vc vh (D.raw (.map none)) r4))];refine go [11,17]<|br (fun h6=>?_) (fun h6=>?_)
       ·exact an rfl (Sub.int (by exact(Nq h6).trans (DT h1 h2 h3 h5).symm))
       ·obtain⟨r,hr⟩:=UG h6;have hk:=RG hv hr;have hh:∀j,vh j=rv r j:=RE hk hr;refine U.loop (ι:=X8 f vw vc vh r4 r) (fun sx=>[(1,.bz (ed f)),(3,.box 1 0),(41,.i sx.pre.length)]) (fun sx=>[(1,.cells (dR vw vc vh (D.raw (.map none)) r4))]) (fun sx=>sx.rest.length) ⟨[],_,rfl,(DT h1 h2 h3 h5).trans (Nr hr)⟩ ?_ ?_
        ·exact Le.mk rfl (.n 3 rfl rfl .nil) (.cons rfl rfl .nil)
        ·rintro⟨pre,rest,hx,hp⟩;dsimp only;rcases rest with _|⟨x,rest⟩
         ·have hl:=congrArg List.length hx;simp only[List.length_append,List.length_cons,List.length_nil]at hl;exact go [11,17]<|aQ zQ<|go [11,17]<|an rfl (Sub.int (by exact hp.symm))
         ·obtain⟨e9,kW⟩:=Pa hx;subst e9;refine go [11,17]<|bM zQ<|rg<|.mv rfl rfl<|.P rfl (bJ (n:=12) 169 2 underlying172 sizeOf169 rfl rfl)<|.P rfl (CY (o2:=2+pre.length) underlying169 sizeOf4 rfl rfl zO zO zO)<|.R rfl (bP isAgg4 rfl rfl (Ov zO))<|.nil<|go [11,17]<|br (fun h7=>?_) (fun h7=>?_)
          ·refine oP (aj call100 rfl (OP (v:=⟨vw,vc,vh,none,r4⟩) hf hk hr (n:=(pre.length:Int)) zO zO (by rw[Int.toNat_natCast,←hh];assumption)))<|br (fun h8=>?_) (fun h8=>?_)
           ·exact an rfl (Sub.int (by exact OQ hp (by rw[Int.toNat_natCast,←hh];assumption) zA))
           ·exact go [11,17]<|sd (aB zO)<|nx ⟨pre++[(pre.length:Int)],rest,by simp[hx],by exact OR hp (by rw[Int.toNat_natCast,←hh];assumption) zA⟩ zS (Le.mk rfl (.n 2 rfl rfl (.cons rfl (Sub.int zS) rfl .nil)) (.cons rfl rfl .nil))
          ·refine oP (aj call101 rfl (Ou f (pre.length:Int) zO zO))<|br (fun h9=>?_) (fun h9=>?_)
           ·exact an rfl (Sub.int (by exact OS hp (by rw[Int.toNat_natCast,←hh];assumption) zA))
           ·exact go [11,17]<|sd (aB zO)<|nx ⟨pre++[(pre.length:Int)],rest,by simp[hx],by exact OT hp (by rw[Int.toNat_natCast,←hh];assumption) zA⟩ zS (Le.mk rfl (.n 2 rfl rfl (.cons rfl (Sub.int zS) rfl .nil)) (.cons rfl rfl .nil))
      ·show U _ _ _ _ [(1,.bz (ed f)),(3,.box 1 0),(4,.b (jb f.kind).isSome)] [(1,.cells (dR vw vc vh (ej m) r4))];refine go [11,17]<|br (fun gE=>?_) (fun gE=>?_)
       ·exact an rfl (Sub.int (by exact(Nq gE).trans (DT h1 h2 h3 h5).symm))
       ·obtain⟨r,hr⟩:=UG gE;have hk:=RG hv hr;have hh:∀j,vh j=rv r j:=RE hk hr;refine U.loop (ι:=X7 f vw vc vh m r4 r) (fun sx=>[(1,.bz (ed f)),(3,.box 1 0),(41,.i sx.pre.length)]) (fun sx=>[(1,.cells (dR vw vc vh (ej m) r4))]) (fun sx=>sx.rest.length) ⟨[],_,rfl,(DT h1 h2 h3 h5).trans (Nr hr)⟩ ?_ ?_
        ·exact Le.mk rfl (.n 3 rfl rfl .nil) (.cons rfl rfl .nil)
        ·rintro⟨pre,rest,hx,hp⟩;dsimp only;rcases rest with _|⟨x,rest⟩
         ·have hl:=congrArg List.length hx;simp only[List.length_append,List.length_cons,List.length_nil]at hl;exact go [11,17]<|aQ zQ<|go [11,17]<|an rfl (Sub.int (by exact hp.symm))
         ·obtain⟨e9,kW⟩:=Pa hx;subst e9;refine go [11,17]<|bM zQ<|rg<|.mv rfl rfl<|.P rfl (bJ (n:=12) 169 2 underlying172 sizeOf169 rfl rfl)<|.P rfl (CY (o2:=2+pre.length) underlying169 sizeOf4 rfl rfl zO zO zO)<|.R rfl (bP isAgg4 rfl rfl (Ov zO))<|.nil<|go [11,17]<|br (fun f_=>?_) (fun f_=>?_)
          ·refine oP (aj call100 rfl (OP (v:=⟨vw,vc,vh,some m,r4⟩) hf hk hr (n:=(pre.length:Int)) zO zO (by rw[Int.toNat_natCast,←hh];assumption)))<|br (fun ja=>?_) (fun ja=>?_)
           ·exact an rfl (Sub.int (by exact OQ hp (by rw[Int.toNat_natCast,←hh];assumption) zA))
           ·exact go [11,17]<|sd (aB zO)<|nx ⟨pre++[(pre.length:Int)],rest,by simp[hx],by exact OR hp (by rw[Int.toNat_natCast,←hh];assumption) zA⟩ zS (Le.mk rfl (.n 2 rfl rfl (.cons rfl (Sub.int zS) rfl .nil)) (.cons rfl rfl .nil))
          ·refine oP (aj call101 rfl (Ou f (pre.length:Int) zO zO))<|br (fun kW=>?_) (fun kW=>?_)
           ·exact an rfl (Sub.int (by exact OS hp (by rw[Int.toNat_natCast,←hh];assumption) zA))
           ·exact go [11,17]<|sd (aB zO)<|nx ⟨pre++[(pre.length:Int)],rest,by simp[hx],by exact OT hp (by rw[Int.toNat_natCast,←hh];assumption) zA⟩ zS (Le.mk rfl (.n 2 rfl rfl (.cons rfl (Sub.int zS) rfl .nil)) (.cons rfl rfl .nil))
end Go.T
