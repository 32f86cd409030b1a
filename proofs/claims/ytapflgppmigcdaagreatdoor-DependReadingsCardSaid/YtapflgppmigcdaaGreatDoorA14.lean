/- Contracts of functions that the statement reaches, and the logic in which they are proved (no condition). -/
import Derived.Test.YtapflgppmigcdaaGreatDoorA13
set_option linter.all false
set_option maxRecDepth 20000
namespace Go.T
open Go Go.Proofs Go.Proofs.Tryz
def dC.vN{E m:i_}(h:dC E m)(hE:∀p∈E,0<=p.1/\p.1<13):∀p∈m,0<=p.1/\p.1<13:=fun p hp=>hE p (h.2 p hp)
def Bm(m:List (Int×mz)):Prop:=(m.map (·.1)).Perm (nS.map (·.2))/\∀p∈m,sN p.1 p.2
def Bu(n i:Nat):bf (Array.replicate n false) i=false:=by
 unfold bf;rw[ja,Ep];split<;>rfl
def Sz(n:Nat)(l:List (Nat×Int)):nE (Array.replicate n false) l=[]:=by
 unfold nE;rw[List.filter_eq_nil_iff.2 (fun e _=>by rw[Bu];simp)];rfl
def aku{n:Nat}{env:Env}{Z:ae}(h1:env.get 1=some (.bj [bS lP]))(h2:env.get 2=some (bS lL))(h3:env.get 3=some (.bj [.fn (.func 121) [] []]))(h4:env.get 4=some (.fn (.func 122) [] [.bj [.fn (.func 121) [] []],.bj [bS (some (true,false))]]))(h5:env.get 5=some (.fn (.func 123) [] []))(h6:env.get 6=some (ek eT))(ajr:(List.range 10).all (fun i=>(ae.get Z (50+i)).isNone)=true)(hid:lT.all (fun q=>Nat.ble 50 q.id&&Nat.blt q.id 60)=true):oV (Array.replicate n false) env Z:=by
 have ce:∀i,i<10->ae.get Z (50+i)=none:=fun i hi=>by simpa using List.all_eq_true.1 ajr i (px.2 hi)
 refine⟨fun j t h=>?_,⟨h1,h2,h3,h4,h5,h6⟩,⟨fun _=>⟨ce 0 zD,Sz _ _⟩,fun h=>?_⟩,fun q hq=>⟨fun _=>⟨?_,Sz _ _⟩,fun h=>?_⟩,fun q hq h=>?_⟩
 ·rw[Bu]at h;cases h
 ·rw[Bu]at h;cases h
 ·have h0:=de.1 hid q hq;rw[bd]at h0;have h1:=nA h0.1;have h2:q.id<60:=by simpa[jE]using h0.2
  have:=ce (q.id-50) zO;rwa[show 50+(q.id-50)=q.id by omega]at this
 ·rw[Bu]at h;cases h
 ·rw[Bu]at h;cases h
def ags{listed:Array Bool}{env:Env}{Z:ae}(hs:listed.size=124)(eI:∀i,i<124->bf listed i=true)(hI:oV listed env Z):∃m,Bm m/\Le KF env Z [(0,w6 ib fE m)] []:=by
 have s9:bf listed 1000=false:=by unfold bf;rw[ja,tT zO];rfl
 obtain⟨m,g1,g2,g3⟩:=hI.By.yes (eI 0 zD) s9;have hd:nE listed nS=nS.map (·.2):=Sy (fun e he=>eI e.1 (by
  have h1:nS.all (fun e=>Nat.blt e.1 124)=true:=by decide+kernel
  simpa[jE]using List.all_eq_true.1 h1 e he))
 rw[hd]at g2;obtain⟨d,e1,e2⟩:=hI.aB 123 0 (eI 123 zD) rfl;have e2:d=.cL 50:=e2;subst e2;exact⟨m,⟨g2,g3⟩,(Le.GW (kD:=ib) (vD:=fE) (m:=m) 0 50 e1 g1 (fun _=>rfl) akX).trans (Le.mk rfl (.s rfl rfl .nil) .nil)⟩
section
variable{ops:Array Oper} {listed:Array Bool} {env:Env} {Z:ae} {i t:Nat} {o:Oper} {d:D}
def dq{listed:Array Bool}{o:Oper}(hd:∀e∈o.after,Region.binds .any e=true->bf listed e.on=true)(j:Nat)(h:(o.after.any fun e=>e.on==j&&Region.binds .any e)=true:=by decide+kernel):bf listed j=true:=dp hd j h
def bV(hs:listed.size=ops.size)(hI:oV listed env Z)(hV:Bk i d)(hq:aq prog o env Z d Z)(hi:r4[i]?=some (some t):=by rfl)(ht:(Nat.blt 6 t||t==0)=true:=by rfl)(hN:eF KF.N (some t)=true:=by rfl)(ho:o.dst=some t:=by rfl)(hg:o.guard=none:=by rfl)
  (hn:Nat.blt i ops.size=true:=by decide+kernel)(hf:LY i=true:=by decide+kernel)(hz:vm i=true:=by decide+kernel):ug listed env Z i o ops:=ao4 hs hn hI hi ht hN ho hg hV hf hz hq
def mg{k:Int}{v:mz}(hs:listed.size=ops.size)(hI:oV listed env Z)(hl:bf listed i=false)(pm:bf listed 0=true)(hv:sN k v)
  (aU:∀m,Z.get 50=some (.mp (bP ib fE m))->aq prog o env Z (.raw undef) (Z.set 50 (.mp (bP ib fE (eD m k v)))))(VE:ops.size=124:=by rfl)(hi:r4[i]?=some none:=by rfl)(ho:o.dst=none:=by rfl)(hg:o.guard=none:=by rfl)
  (hn:Nat.blt i ops.size=true:=by decide+kernel)(hm:(i,k)∈nS:=by decide+kernel)(aC:(!(i==0)&&!(i==1000)&&lT.all fun r=>r.ok i&&!(r.id==50))=true:=by decide+kernel)(pX:(nS.map (·.1)).Nodup:=by decide+kernel)(wW:(nS.map (·.2)).Nodup:=by decide+kernel)(hz:vm i=true:=by decide+kernel):ug listed env Z i o ops:=
 akb hs hn VE hI hl hi ho hg pm hm aC pX wW hv hz aU
def oC{q:MQ}{k:Int}{v:oa}(hs:listed.size=ops.size)(hI:oV listed env Z)(hl:bf listed i=false)(pm:bf listed q.bo=true)
  (aU:∀m,Z.get q.id=some (.mp (bP ib bS m))->aq prog o env Z (.raw undef) (Z.set q.id (.mp (bP ib bS (eD m k v)))))(hi:r4[i]?=some none:=by rfl)(ho:o.dst=none:=by rfl)(hg:o.guard=none:=by rfl)
  (hn:Nat.blt i ops.size=true:=by decide+kernel)(hq:q∈lT:=by exact lU zK)(hf:zk i q=true:=by decide+kernel)(hz:vm i=true:=by decide+kernel)(hm:(i,k)∈q.ins:=by decide+kernel)(aC:(!(i==q.bo)&&!(i==q.fz))=true:=by decide+kernel)(pX:(q.ins.map (·.1)).Nodup:=by decide+kernel)(wW:(q.ins.map (·.2)).Nodup:=by decide+kernel)(hv:(k,v)∈q.E:=by decide+kernel):ug listed env Z i o ops:=
 aka hs hn hI hl hi ho hg hq hf pm hz hm aC pX wW hv aU
end
set_option maxHeartbeats 6400000 in
def Wz:z7 Tryz.prog 87 [] Bm (fun m=>w6 ib fE m):=by
 refine z7.mk' [0] func87 rfl ntmps87 rfl rfl (fun _=>rfl) (fun t w=>results_tmp results87 t _ w) ?_;refine U.seq<|rg<|.ag rfl rfl<|.nil<|U.seq<|rg<|.P rfl (ah call120 rfl (CI _ _))<|.P rfl (ah call120 rfl (CI _ _))<|.W rfl (jC 0 zeroValue154 rfl)<|.W rfl (sq sizeOf154 rfl rfl rfl rfl zD)<|.ag rfl rfl<|.nil<|U.seq<|rg<|.W rfl (jC 1 zeroValue156 rfl)<|.W rfl (sq sizeOf156 rfl rfl rfl rfl zD)<|.nil ?_;refine U.bc (Le.fx 3 1 rfl rfl rfl rfl) ?_;refine U.bc (Le.fx 1 0 rfl rfl rfl rfl) ?_;refine U.seq<|rg<|.P rfl (Py (xs:=[]) (ys:=_) rfl rfl)<|.ag rfl rfl<|.nil<|U.seq<|rg<|.ag rfl rfl<|.nil<|U.seq<|rg<|.W rfl (ni 2 (fun n:Int=>D.raw (.int .i64 n)) (bS) rfl)<|.P rfl (bE isAgg154 rfl)<|.W rfl (aq.insert (eV e6 (vD:=bS) (k:=(4:Int)) (v:=lP) underlying119 rfl rfl rfl rfl rfl rfl))<|.mv rfl rfl<|.W rfl (aq.insert (eV e6 (vD:=bS) (k:=(5:Int)) (v:=lL) underlying119 rfl rfl rfl rfl rfl rfl))<|.mv rfl rfl<|.W rfl (aq.insert (eV e6 (vD:=bS) (k:=(6:Int)) (v:=lL) underlying119 rfl rfl rfl rfl rfl rfl))<|.mv rfl rfl<|.ag rfl rfl<|.nil ?_;refine U.bc (Le.GW (kD:=(fun n:Int=>D.raw (.int .i64 n))) (vD:=bS) (m:=eT) 6 2 rfl rfl (fun _=>rfl) NV) ?_;refine U.seq (U.ZY (A:=Bm) (gb:=fun m=>[(0,w6 ib fE m)]) (dG:=fun _=>[]) oV l7 zK ?_ ?_ ?_ ?_)
 ·exact aku rfl rfl rfl rfl rfl rfl rfl zK
 ·exact⟨(fun _ _ _ hs hI hl hd=>amq hs zK hI hl rfl rfl rfl rfl rfl rfl zK zK (fun ce=>ni 50 ib fE ce)),
   (fun _ _ _ hs hI hl hd=>bV hs hI rfl (aX (by exact hI.cZ.b4) _)),
   (fun _ _ _ hs hI hl hd=>by
    obtain⟨_,K5,rfl⟩:=hI.aB 1 16 (dq hd 1) rfl;exact bV hs hI ⟨eA,dC.refl _,rfl⟩ (eO call122 (by exact K5) rfl (CE _) _)),
   (fun _ _ _ hs hI hl hd=>by
    obtain⟨_,fu,rfl⟩:=hI.aB 0 15 (dq hd 0) rfl;obtain⟨_,K6,m17,n17,rfl⟩:=hI.aB 2 17 (dq hd 2) rfl;exact mg (k:=1) (v:=⟨[100,101,112,111,115,105,116],2,ck m17 [2],some m17,false⟩) hs hI hl (dq hd 0) ⟨_,rfl,rfl,rfl,rfl,m17,n17,rfl,rfl⟩ (fun M hM=>aq.insert (eV e6 (vD:=fE) (k:=(1:Int)) (v:=⟨[100,101,112,111,115,105,116],2,ck m17 [2],some m17,false⟩) underlying123 (by exact fu) rfl (by exact K6) rfl rfl hM))),
   (fun _ _ _ hs hI hl hd=>bV hs hI rfl (aX (by exact hI.cZ.b4) _)),
   (fun _ _ _ hs hI hl hd=>by
    obtain⟨_,K7,rfl⟩:=hI.aB 4 18 (dq hd 4) rfl;exact bV hs hI ⟨eA,dC.refl _,rfl⟩ (eO call122 (by exact K7) rfl (CE _) _)),
   (fun _ _ _ hs hI hl hd=>by
    obtain⟨_,fu,rfl⟩:=hI.aB 0 15 (dq hd 0) rfl;obtain⟨_,e19,m19,n19,rfl⟩:=hI.aB 5 19 (dq hd 5) rfl;exact mg (k:=2) (v:=⟨[119,105,116,104,100,114,97,119],2,ck m19 [2],some m19,false⟩) hs hI hl (dq hd 0) ⟨_,rfl,rfl,rfl,rfl,m19,n19,rfl,rfl⟩ (fun M hM=>aq.insert (eV e6 (vD:=fE) (k:=(2:Int)) (v:=⟨[119,105,116,104,100,114,97,119],2,ck m19 [2],some m19,false⟩) underlying123 (by exact fu) rfl (by exact e19) rfl rfl hM))),
   (fun _ _ _ hs hI hl hd=>bV hs hI rfl (bE isAgg156 (by exact hI.cZ.b3) _)),
   (fun _ _ _ hs hI hl hd=>bV hs hI rfl (aX (by exact hI.cZ.b6) _)),
   (fun _ _ _ hs hI hl hd=>bV hs hI rfl (bK (n:=1) (rows:=[[D.i 0]]) underlying25 sizeOf3 rfl rfl rfl zeroValue3 rfl rfl rfl rfl rfl rfl rfl _)),
   (fun _ _ _ hs hI hl hd=>by
    obtain⟨_,e20,rfl⟩:=hI.aB 7 20 (dq hd 7) rfl;obtain⟨_,e21,rfl⟩:=hI.aB 8 21 (dq hd 8) rfl;obtain⟨_,e22,rfl⟩:=hI.aB 9 22 (dq hd 9) rfl;exact bV hs hI ⟨eT,dC.refl _,rfl⟩ (eO call121 (by exact e20) (cG rfl (cG rfl (cG (by exact e21) (cG (by exact e22) rfl)))) (qW _ _ eT [0] zD zD zD).sub _)),
   (fun _ _ _ hs hI hl hd=>by
    obtain⟨_,fu,rfl⟩:=hI.aB 0 15 (dq hd 0) rfl;obtain⟨_,e23,D9,n23,rfl⟩:=hI.aB 10 23 (dq hd 10) rfl;exact mg (k:=3) (v:=⟨[98,117,121],3,ck D9 [0],some D9,false⟩) hs hI hl (dq hd 0) ⟨_,rfl,rfl,rfl,rfl,D9,n23,rfl,rfl⟩ (fun M hM=>aq.insert (eV e6 (vD:=fE) (k:=(3:Int)) (v:=⟨[98,117,121],3,ck D9 [0],some D9,false⟩) underlying123 (by exact fu) rfl (by exact e23) rfl rfl hM))),
   (fun _ _ _ hs hI hl hd=>bV hs hI rfl (bE isAgg156 (by exact hI.cZ.b3) _)),
   (fun _ _ _ hs hI hl hd=>bV hs hI rfl (aX (by exact hI.cZ.b6) _)),
   (fun _ _ _ hs hI hl hd=>bV hs hI rfl (bK (n:=2) (rows:=[[D.i 0],[D.i 10]]) underlying25 sizeOf3 rfl rfl rfl zeroValue3 rfl rfl rfl rfl rfl rfl rfl _)),
   (fun _ _ _ hs hI hl hd=>by
    obtain⟨_,e24,rfl⟩:=hI.aB 12 24 (dq hd 12) rfl;obtain⟨_,e25,rfl⟩:=hI.aB 13 25 (dq hd 13) rfl;obtain⟨_,e26,rfl⟩:=hI.aB 14 26 (dq hd 14) rfl;exact bV hs hI ⟨eT,dC.refl _,rfl⟩ (eO call121 (by exact e24) (cG rfl (cG rfl (cG (by exact e25) (cG (by exact e26) rfl)))) (qW _ _ eT [0,10] zD zD zD).sub _)),
   (fun _ _ _ hs hI hl hd=>by
    obtain⟨_,fu,rfl⟩:=hI.aB 0 15 (dq hd 0) rfl;obtain⟨_,e27,D_,n27,rfl⟩:=hI.aB 15 27 (dq hd 15) rfl;exact mg (k:=4) (v:=⟨[115,101,108,108],3,ck D_ [0,10],some D_,false⟩) hs hI hl (dq hd 0) ⟨_,rfl,rfl,rfl,rfl,D_,n27,rfl,rfl⟩ (fun M hM=>aq.insert (eV e6 (vD:=fE) (k:=(4:Int)) (v:=⟨[115,101,108,108],3,ck D_ [0,10],some D_,false⟩) underlying123 (by exact fu) rfl (by exact e27) rfl rfl hM))),
   (fun _ _ _ hs hI hl hd=>bV hs hI rfl (bE isAgg156 (by exact hI.cZ.b3) _)),
   (fun _ _ _ hs hI hl hd=>vf (q:=kQ 0) hs zK hI hl rfl rfl rfl rfl rfl rfl (lU zK) zK rfl zK zK (fun ce=>ni 51 ib bS ce)),
   (fun _ _ _ hs hI hl hd=>bV hs hI rfl (bE isAgg154 (by exact hI.cZ.b1) _)),
   (fun _ _ _ hs hI hl hd=>by
    obtain⟨_,K8,rfl⟩:=hI.aB 18 29 (dq hd 18) rfl;obtain⟨_,e30,rfl⟩:=hI.aB 19 30 (dq hd 19) rfl;exact oC (q:=kQ 0) (k:=7) (v:=lP) hs hI hl (dq hd 18) (fun M hM=>aq.insert (eV e6 (vD:=bS) (k:=(7:Int)) (v:=lP) underlying119 (by exact K8) rfl (by exact e30) rfl rfl hM))),
   (fun _ _ _ hs hI hl hd=>by
    obtain⟨_,K8,rfl⟩:=hI.aB 18 29 (dq hd 18) rfl;exact uG (q:=kQ 0) hs zK hI hl rfl rfl rfl rfl rfl (lU zK) zK rfl (dq hd 18) ⟨dq hd 20,trivial⟩ zK (fun m hm=>⟨m,hm,rfl⟩) (aX (by exact K8) _)),
   (fun _ _ _ hs hI hl hd=>bV hs hI rfl (bK (n:=1) (rows:=[[D.i 0]]) underlying25 sizeOf3 rfl rfl rfl zeroValue3 rfl rfl rfl rfl rfl rfl rfl _)),
   (fun _ _ _ hs hI hl hd=>by
    obtain⟨_,e28,rfl⟩:=hI.aB 17 28 (dq hd 17) rfl;obtain⟨_,e31,Xj,X3,rfl⟩:=hI.aB 21 31 (dq hd 21) rfl;obtain⟨_,CW,rfl⟩:=hI.aB 22 32 (dq hd 22) rfl;exact bV hs hI ⟨Xj,X3,rfl⟩ (eO call121 (by exact e28) (cG rfl (cG rfl (cG (by exact e31) (cG (by exact CW) rfl)))) (qW _ _ Xj [0] zD zD (dC.vN X3 zD)).sub _)),
   (fun _ _ _ hs hI hl hd=>by
    obtain⟨_,fu,rfl⟩:=hI.aB 0 15 (dq hd 0) rfl;obtain⟨_,K9,D',n33,rfl⟩:=hI.aB 23 33 (dq hd 23) rfl;exact mg (k:=5) (v:=⟨[105,110,99,111,109,101],1,ck D' [0],some D',false⟩) hs hI hl (dq hd 0) ⟨_,rfl,rfl,rfl,rfl,D',n33,rfl,rfl⟩ (fun M hM=>aq.insert (eV e6 (vD:=fE) (k:=(5:Int)) (v:=⟨[105,110,99,111,109,101],1,ck D' [0],some D',false⟩) underlying123 (by exact fu) rfl (by exact K9) rfl rfl hM))),
   (fun _ _ _ hs hI hl hd=>bV hs hI rfl (aX (by exact hI.cZ.b4) _)),
   (fun _ _ _ hs hI hl hd=>by
    obtain⟨_,K_,rfl⟩:=hI.aB 25 34 (dq hd 25) rfl;exact bV hs hI ⟨eA,dC.refl _,rfl⟩ (eO call122 (by exact K_) rfl (CE _) _)),
   (fun _ _ _ hs hI hl hd=>by
    obtain⟨_,fu,rfl⟩:=hI.aB 0 15 (dq hd 0) rfl;obtain⟨_,La,Ea,n35,rfl⟩:=hI.aB 26 35 (dq hd 26) rfl;exact mg (k:=6) (v:=⟨[101,120,112,101,110,115,101],2,ck Ea [2],some Ea,false⟩) hs hI hl (dq hd 0) ⟨_,rfl,rfl,rfl,rfl,Ea,n35,rfl,rfl⟩ (fun M hM=>aq.insert (eV e6 (vD:=fE) (k:=(6:Int)) (v:=⟨[101,120,112,101,110,115,101],2,ck Ea [2],some Ea,false⟩) underlying123 (by exact fu) rfl (by exact La) rfl rfl hM))),
   (fun _ _ _ hs hI hl hd=>bV hs hI rfl (aX (by exact hI.cZ.b5) _)),
   (fun _ _ _ hs hI hl hd=>bV hs hI rfl (bE isAgg156 (by exact hI.cZ.b3) _)),
   (fun _ _ _ hs hI hl hd=>vf (q:=kQ 1) hs zK hI hl rfl rfl rfl rfl rfl rfl (lU zK) zK rfl zK zK (fun ce=>ni 52 ib bS ce)),
   (fun _ _ _ hs hI hl hd=>bV hs hI rfl (bE isAgg154 (by exact hI.cZ.b1) _)),
   (fun _ _ _ hs hI hl hd=>by
    obtain⟨_,yc,rfl⟩:=hI.aB 30 38 (dq hd 30) rfl;obtain⟨_,e39,rfl⟩:=hI.aB 31 39 (dq hd 31) rfl;exact oC (q:=kQ 1) (k:=4) (v:=lP) hs hI hl (dq hd 30) (fun M hM=>aq.insert (eV e6 (vD:=bS) (k:=(4:Int)) (v:=lP) underlying119 (by exact yc) rfl (by exact e39) rfl rfl hM))),
   (fun _ _ _ hs hI hl hd=>bV hs hI rfl (bE isAgg154 (by exact hI.cZ.b1) _)),
   (fun _ _ _ hs hI hl hd=>by
    obtain⟨_,yc,rfl⟩:=hI.aB 30 38 (dq hd 30) rfl;obtain⟨_,e40,rfl⟩:=hI.aB 33 40 (dq hd 33) rfl;exact oC (q:=kQ 1) (k:=5) (v:=lP) hs hI hl (dq hd 30) (fun M hM=>aq.insert (eV e6 (vD:=bS) (k:=(5:Int)) (v:=lP) underlying119 (by exact yc) rfl (by exact e40) rfl rfl hM))),
   (fun _ _ _ hs hI hl hd=>by
    obtain⟨_,yc,rfl⟩:=hI.aB 30 38 (dq hd 30) rfl;exact uG (q:=kQ 1) hs zK hI hl rfl rfl rfl rfl rfl (lU zK) zK rfl (dq hd 30) ⟨dq hd 32,dq hd 34,trivial⟩ zK (fun m hm=>⟨m,hm,rfl⟩) (aX (by exact yc) _)),
   (fun _ _ _ hs hI hl hd=>bV hs hI rfl (bK (n:=2) (rows:=[[D.i 1],[D.i 2]]) underlying25 sizeOf3 rfl rfl rfl zeroValue3 rfl rfl rfl rfl rfl rfl rfl _)),
   (fun _ _ _ hs hI hl hd=>by
    obtain⟨_,Lc,rfl⟩:=hI.aB 29 37 (dq hd 29) rfl;obtain⟨_,e41,Xk,X4,rfl⟩:=hI.aB 35 41 (dq hd 35) rfl;obtain⟨_,e42,rfl⟩:=hI.aB 36 42 (dq hd 36) rfl;exact bV hs hI ⟨Xk,X4,rfl⟩ (eO call121 (by exact Lc) (cG rfl (cG rfl (cG (by exact e41) (cG (by exact e42) rfl)))) (qW _ _ Xk [1,2] zD zD (dC.vN X4 zD)).sub _)),
   (fun _ _ _ hs hI hl hd=>by
    obtain⟨_,Lb,rfl⟩:=hI.aB 28 36 (dq hd 28) rfl;obtain⟨_,e43,Xl,n43,rfl⟩:=hI.aB 37 43 (dq hd 37) rfl;exact bV hs hI ⟨Xl,n43,rfl⟩ (eO call123 (by exact Lb) (cG (by exact e43) rfl) (abx _ _ _ Xl) _)),
   (fun _ _ _ hs hI hl hd=>by
    obtain⟨_,fu,rfl⟩:=hI.aB 0 15 (dq hd 0) rfl;obtain⟨_,e44,Eb,n44,rfl⟩:=hI.aB 38 44 (dq hd 38) rfl;exact mg (k:=7) (v:=⟨[99,111,110,118,101,114,116],2,ck Eb [1,2],some Eb,true⟩) hs hI hl (dq hd 0) ⟨_,rfl,rfl,rfl,rfl,Eb,n44,rfl,rfl⟩ (fun M hM=>aq.insert (eV e6 (vD:=fE) (k:=(7:Int)) (v:=⟨[99,111,110,118,101,114,116],2,ck Eb [1,2],some Eb,true⟩) underlying123 (by exact fu) rfl (by exact e44) rfl rfl hM))),
   (fun _ _ _ hs hI hl hd=>bV hs hI rfl (bE isAgg156 (by exact hI.cZ.b3) _)),
   (fun _ _ _ hs hI hl hd=>vf (q:=kQ 2) hs zK hI hl rfl rfl rfl rfl rfl rfl (lU zK) zK rfl zK zK (fun ce=>ni 53 ib bS ce)),
   (fun _ _ _ hs hI hl hd=>bV hs hI rfl (aX (by exact hI.cZ.b2) _)),
   (fun _ _ _ hs hI hl hd=>by
    obtain⟨_,CX,rfl⟩:=hI.aB 41 46 (dq hd 41) rfl;obtain⟨_,e47,rfl⟩:=hI.aB 42 47 (dq hd 42) rfl;exact oC (q:=kQ 2) (k:=7) (v:=lL) hs hI hl (dq hd 41) (fun M hM=>aq.insert (eV e6 (vD:=bS) (k:=(7:Int)) (v:=lL) underlying119 (by exact CX) rfl (by exact e47) rfl rfl hM))),
   (fun _ _ _ hs hI hl hd=>bV hs hI rfl (bE isAgg154 (by exact hI.cZ.b1) _)),
   (fun _ _ _ hs hI hl hd=>by
    obtain⟨_,CX,rfl⟩:=hI.aB 41 46 (dq hd 41) rfl;obtain⟨_,e48,rfl⟩:=hI.aB 44 48 (dq hd 44) rfl;exact oC (q:=kQ 2) (k:=8) (v:=lP) hs hI hl (dq hd 41) (fun M hM=>aq.insert (eV e6 (vD:=bS) (k:=(8:Int)) (v:=lP) underlying119 (by exact CX) rfl (by exact e48) rfl rfl hM))),
   (fun _ _ _ hs hI hl hd=>by
    obtain⟨_,CX,rfl⟩:=hI.aB 41 46 (dq hd 41) rfl;exact uG (q:=kQ 2) hs zK hI hl rfl rfl rfl rfl rfl (lU zK) zK rfl (dq hd 41) ⟨dq hd 43,dq hd 45,trivial⟩ zK (fun m hm=>⟨m,hm,rfl⟩) (aX (by exact CX) _)),
   (fun _ _ _ hs hI hl hd=>bV hs hI rfl (bK (n:=1) (rows:=[[D.i 0]]) underlying25 sizeOf3 rfl rfl rfl zeroValue3 rfl rfl rfl rfl rfl rfl rfl _)),
   (fun _ _ _ hs hI hl hd=>by
    obtain⟨_,e45,rfl⟩:=hI.aB 40 45 (dq hd 40) rfl;obtain⟨_,e49,Xm,X5,rfl⟩:=hI.aB 46 49 (dq hd 46) rfl;obtain⟨_,e50,rfl⟩:=hI.aB 47 50 (dq hd 47) rfl;exact bV hs hI ⟨Xm,X5,rfl⟩ (eO call121 (by exact e45) (cG rfl (cG rfl (cG (by exact e49) (cG (by exact e50) rfl)))) (qW _ _ Xm [0] zD zD (dC.vN X5 zD)).sub _)),
   (fun _ _ _ hs hI hl hd=>by
    obtain⟨_,fu,rfl⟩:=hI.aB 0 15 (dq hd 0) rfl;obtain⟨_,e51,Ec,n51,rfl⟩:=hI.aB 48 51 (dq hd 48) rfl;exact mg (k:=8) (v:=⟨[115,112,108,105,116],1,ck Ec [0],some Ec,false⟩) hs hI hl (dq hd 0) ⟨_,rfl,rfl,rfl,rfl,Ec,n51,rfl,rfl⟩ (fun M hM=>aq.insert (eV e6 (vD:=fE) (k:=(8:Int)) (v:=⟨[115,112,108,105,116],1,ck Ec [0],some Ec,false⟩) underlying123 (by exact fu) rfl (by exact e51) rfl rfl hM))),
   (fun _ _ _ hs hI hl hd=>bV hs hI rfl (bE isAgg156 (by exact hI.cZ.b3) _)),
   (fun _ _ _ hs hI hl hd=>vf (q:=kQ 3) hs zK hI hl rfl rfl rfl rfl rfl rfl (lU zK) zK rfl zK zK (fun ce=>ni 54 ib bS ce)),
   (fun _ _ _ hs hI hl hd=>bV hs hI rfl (aX (by exact hI.cZ.b2) _)),
   (fun _ _ _ hs hI hl hd=>by
    obtain⟨_,yd,rfl⟩:=hI.aB 51 53 (dq hd 51) rfl;obtain⟨_,e54,rfl⟩:=hI.aB 52 54 (dq hd 52) rfl;exact oC (q:=kQ 3) (k:=7) (v:=lL) hs hI hl (dq hd 51) (fun M hM=>aq.insert (eV e6 (vD:=bS) (k:=(7:Int)) (v:=lL) underlying119 (by exact yd) rfl (by exact e54) rfl rfl hM))),
   (fun _ _ _ hs hI hl hd=>bV hs hI rfl (bE isAgg154 (by exact hI.cZ.b1) _)),
   (fun _ _ _ hs hI hl hd=>by
    obtain⟨_,yd,rfl⟩:=hI.aB 51 53 (dq hd 51) rfl;obtain⟨_,e55,rfl⟩:=hI.aB 54 55 (dq hd 54) rfl;exact oC (q:=kQ 3) (k:=8) (v:=lP) hs hI hl (dq hd 51) (fun M hM=>aq.insert (eV e6 (vD:=bS) (k:=(8:Int)) (v:=lP) underlying119 (by exact yd) rfl (by exact e55) rfl rfl hM))),
   (fun _ _ _ hs hI hl hd=>bV hs hI rfl (ah call120 rfl (CI false true) _)),
   (fun _ _ _ hs hI hl hd=>by
    obtain⟨_,yd,rfl⟩:=hI.aB 51 53 (dq hd 51) rfl;obtain⟨_,e56,rfl⟩:=hI.aB 56 56 (dq hd 56) rfl;exact oC (q:=kQ 3) (k:=9) (v:=lQ) hs hI hl (dq hd 51) (fun M hM=>aq.insert (eV e6 (vD:=bS) (k:=(9:Int)) (v:=lQ) underlying119 (by exact yd) rfl (by exact e56) rfl rfl hM))),
   (fun _ _ _ hs hI hl hd=>by
    obtain⟨_,yd,rfl⟩:=hI.aB 51 53 (dq hd 51) rfl;exact uG (q:=kQ 3) hs zK hI hl rfl rfl rfl rfl rfl (lU zK) zK rfl (dq hd 51) ⟨dq hd 53,dq hd 55,dq hd 57,trivial⟩ zK (fun m hm=>⟨m,hm,rfl⟩) (aX (by exact yd) _)),
   (fun _ _ _ hs hI hl hd=>bV hs hI rfl (bK (n:=2) (rows:=[[D.i 0],[D.i 1]]) underlying25 sizeOf3 rfl rfl rfl zeroValue3 rfl rfl rfl rfl rfl rfl rfl _)),
   (fun _ _ _ hs hI hl hd=>by
    obtain⟨_,e52,rfl⟩:=hI.aB 50 52 (dq hd 50) rfl;obtain⟨_,e57,Xn,X6,rfl⟩:=hI.aB 58 57 (dq hd 58) rfl;obtain⟨_,e58,rfl⟩:=hI.aB 59 58 (dq hd 59) rfl;exact bV hs hI ⟨Xn,X6,rfl⟩ (eO call121 (by exact e52) (cG rfl (cG rfl (cG (by exact e57) (cG (by exact e58) rfl)))) (qW _ _ Xn [0,1] zD zD (dC.vN X6 zD)).sub _)),
   (fun _ _ _ hs hI hl hd=>by
    obtain⟨_,fu,rfl⟩:=hI.aB 0 15 (dq hd 0) rfl;obtain⟨_,e59,Ed,n59,rfl⟩:=hI.aB 60 59 (dq hd 60) rfl;exact mg (k:=9) (v:=⟨[115,112,105,110,111,102,102],1,ck Ed [0,1],some Ed,false⟩) hs hI hl (dq hd 0) ⟨_,rfl,rfl,rfl,rfl,Ed,n59,rfl,rfl⟩ (fun M hM=>aq.insert (eV e6 (vD:=fE) (k:=(9:Int)) (v:=⟨[115,112,105,110,111,102,102],1,ck Ed [0,1],some Ed,false⟩) underlying123 (by exact fu) rfl (by exact e59) rfl rfl hM))),
   (fun _ _ _ hs hI hl hd=>bV hs hI rfl (bE isAgg156 (by exact hI.cZ.b3) _)),
   (fun _ _ _ hs hI hl hd=>bV hs hI rfl (bK (n:=2) (rows:=[[D.i 0],[D.i 11]]) underlying25 sizeOf3 rfl rfl rfl zeroValue3 rfl rfl rfl rfl rfl rfl rfl _)),
   (fun _ _ _ hs hI hl hd=>by
    obtain⟨_,e60,rfl⟩:=hI.aB 62 60 (dq hd 62) rfl;obtain⟨_,e61,rfl⟩:=hI.aB 63 61 (dq hd 63) rfl;exact bV hs hI rfl (eO call121 (by exact e60) (cG rfl (cG rfl (cG rfl (cG (by exact e61) rfl)))) (Wx _ _ [0,11] zD zD).sub _)),
   (fun _ _ _ hs hI hl hd=>by
    obtain⟨_,fu,rfl⟩:=hI.aB 0 15 (dq hd 0) rfl;obtain⟨_,e62,rfl⟩:=hI.aB 64 62 (dq hd 64) rfl;exact mg (k:=10) (v:=⟨[101,120,99,104,97,110,103,101],1,ck [] [0,11],none,false⟩) hs hI hl (dq hd 0) ⟨_,rfl,rfl,rfl,rfl,rfl,rfl⟩ (fun M hM=>aq.insert (eV e6 (vD:=fE) (k:=(10:Int)) (v:=⟨[101,120,99,104,97,110,103,101],1,ck [] [0,11],none,false⟩) underlying123 (by exact fu) rfl (by exact e62) rfl rfl hM))),
   (fun _ _ _ hs hI hl hd=>bV hs hI rfl (bE isAgg156 (by exact hI.cZ.b3) _)),
   (fun _ _ _ hs hI hl hd=>bV hs hI rfl (bK (n:=3) (rows:=[[D.i 0],[D.i 3],[D.i 12]]) underlying25 sizeOf3 rfl rfl rfl zeroValue3 rfl rfl rfl rfl rfl rfl rfl _)),
   (fun _ _ _ hs hI hl hd=>by
    obtain⟨_,e63,rfl⟩:=hI.aB 66 63 (dq hd 66) rfl;obtain⟨_,e64,rfl⟩:=hI.aB 67 64 (dq hd 67) rfl;exact bV hs hI rfl (eO call121 (by exact e63) (cG rfl (cG rfl (cG rfl (cG (by exact e64) rfl)))) (Wx _ _ [0,3,12] zD zD).sub _)),
   (fun _ _ _ hs hI hl hd=>by
    obtain⟨_,fu,rfl⟩:=hI.aB 0 15 (dq hd 0) rfl;obtain⟨_,e65,rfl⟩:=hI.aB 68 65 (dq hd 68) rfl;exact mg (k:=11) (v:=⟨[101,108,101,99,116],4,ck [] [0,3,12],none,false⟩) hs hI hl (dq hd 0) ⟨_,rfl,rfl,rfl,rfl,rfl,rfl⟩ (fun M hM=>aq.insert (eV e6 (vD:=fE) (k:=(11:Int)) (v:=⟨[101,108,101,99,116],4,ck [] [0,3,12],none,false⟩) underlying123 (by exact fu) rfl (by exact e65) rfl rfl hM))),
   (fun _ _ _ hs hI hl hd=>bV hs hI rfl (bE isAgg156 (by exact hI.cZ.b3) _)),
   (fun _ _ _ hs hI hl hd=>vf (q:=kQ 4) hs zK hI hl rfl rfl rfl rfl rfl rfl (lU zK) zK rfl zK zK (fun ce=>ni 55 ib bS ce)),
   (fun _ _ _ hs hI hl hd=>bV hs hI rfl (bE isAgg154 (by exact hI.cZ.b1) _)),
   (fun _ _ _ hs hI hl hd=>by
    obtain⟨_,ye,rfl⟩:=hI.aB 71 67 (dq hd 71) rfl;obtain⟨_,e68,rfl⟩:=hI.aB 72 68 (dq hd 72) rfl;exact oC (q:=kQ 4) (k:=4) (v:=lP) hs hI hl (dq hd 71) (fun M hM=>aq.insert (eV e6 (vD:=bS) (k:=(4:Int)) (v:=lP) underlying119 (by exact ye) rfl (by exact e68) rfl rfl hM))),
   (fun _ _ _ hs hI hl hd=>bV hs hI rfl (aX (by exact hI.cZ.b2) _)),
   (fun _ _ _ hs hI hl hd=>by
    obtain⟨_,ye,rfl⟩:=hI.aB 71 67 (dq hd 71) rfl;obtain⟨_,e69,rfl⟩:=hI.aB 74 69 (dq hd 74) rfl;exact oC (q:=kQ 4) (k:=7) (v:=lL) hs hI hl (dq hd 71) (fun M hM=>aq.insert (eV e6 (vD:=bS) (k:=(7:Int)) (v:=lL) underlying119 (by exact ye) rfl (by exact e69) rfl rfl hM))),
   (fun _ _ _ hs hI hl hd=>bV hs hI rfl (bE isAgg154 (by exact hI.cZ.b1) _)),
   (fun _ _ _ hs hI hl hd=>by
    obtain⟨_,ye,rfl⟩:=hI.aB 71 67 (dq hd 71) rfl;obtain⟨_,e70,rfl⟩:=hI.aB 76 70 (dq hd 76) rfl;exact oC (q:=kQ 4) (k:=8) (v:=lP) hs hI hl (dq hd 71) (fun M hM=>aq.insert (eV e6 (vD:=bS) (k:=(8:Int)) (v:=lP) underlying119 (by exact ye) rfl (by exact e70) rfl rfl hM))),
   (fun _ _ _ hs hI hl hd=>by
    obtain⟨_,ye,rfl⟩:=hI.aB 71 67 (dq hd 71) rfl;exact uG (q:=kQ 4) hs zK hI hl rfl rfl rfl rfl rfl (lU zK) zK rfl (dq hd 71) ⟨dq hd 73,dq hd 75,dq hd 77,trivial⟩ zK (fun m hm=>⟨m,hm,rfl⟩) (aX (by exact ye) _)),
   (fun _ _ _ hs hI hl hd=>bV hs hI rfl (bK (n:=2) (rows:=[[D.i 0],[D.i 1]]) underlying25 sizeOf3 rfl rfl rfl zeroValue3 rfl rfl rfl rfl rfl rfl rfl _)),
   (fun _ _ _ hs hI hl hd=>by
    obtain⟨_,e66,rfl⟩:=hI.aB 70 66 (dq hd 70) rfl;obtain⟨_,e71,Xo,X7,rfl⟩:=hI.aB 78 71 (dq hd 78) rfl;obtain⟨_,e72,rfl⟩:=hI.aB 79 72 (dq hd 79) rfl;exact bV hs hI ⟨Xo,X7,rfl⟩ (eO call121 (by exact e66) (cG rfl (cG rfl (cG (by exact e71) (cG (by exact e72) rfl)))) (qW _ _ Xo [0,1] zD zD (dC.vN X7 zD)).sub _)),
   (fun _ _ _ hs hI hl hd=>by
    obtain⟨_,fu,rfl⟩:=hI.aB 0 15 (dq hd 0) rfl;obtain⟨_,e73,Ee,n73,rfl⟩:=hI.aB 80 73 (dq hd 80) rfl;exact mg (k:=12) (v:=⟨[101,120,101,114,99,105,115,101],3,ck Ee [0,1],some Ee,false⟩) hs hI hl (dq hd 0) ⟨_,rfl,rfl,rfl,rfl,Ee,n73,rfl,rfl⟩ (fun M hM=>aq.insert (eV e6 (vD:=fE) (k:=(12:Int)) (v:=⟨[101,120,101,114,99,105,115,101],3,ck Ee [0,1],some Ee,false⟩) underlying123 (by exact fu) rfl (by exact e73) rfl rfl hM))),
   (fun _ _ _ hs hI hl hd=>bV hs hI rfl (bE isAgg156 (by exact hI.cZ.b3) _)),
   (fun _ _ _ hs hI hl hd=>vf (q:=kQ 5) hs zK hI hl rfl rfl rfl rfl rfl rfl (lU zK) zK rfl zK zK (fun ce=>ni 56 ib bS ce)),
   (fun _ _ _ hs hI hl hd=>bV hs hI rfl (bE isAgg154 (by exact hI.cZ.b1) _)),
   (fun _ _ _ hs hI hl hd=>by
    obtain⟨_,CY,rfl⟩:=hI.aB 83 75 (dq hd 83) rfl;obtain⟨_,Lf,rfl⟩:=hI.aB 84 76 (dq hd 84) rfl;exact oC (q:=kQ 5) (k:=7) (v:=lP) hs hI hl (dq hd 83) (fun M hM=>aq.insert (eV e6 (vD:=bS) (k:=(7:Int)) (v:=lP) underlying119 (by exact CY) rfl (by exact Lf) rfl rfl hM))),
   (fun _ _ _ hs hI hl hd=>by
    obtain⟨_,CY,rfl⟩:=hI.aB 83 75 (dq hd 83) rfl;exact uG (q:=kQ 5) hs zK hI hl rfl rfl rfl rfl rfl (lU zK) zK rfl (dq hd 83) ⟨dq hd 85,trivial⟩ zK (fun m hm=>⟨m,hm,rfl⟩) (aX (by exact CY) _)),
   (fun _ _ _ hs hI hl hd=>bV hs hI rfl (bK (n:=1) (rows:=[[D.i 0]]) underlying25 sizeOf3 rfl rfl rfl zeroValue3 rfl rfl rfl rfl rfl rfl rfl _)),
   (fun _ _ _ hs hI hl hd=>by
    obtain⟨_,Ld,rfl⟩:=hI.aB 82 74 (dq hd 82) rfl;obtain⟨_,Lg,Xp,X8,rfl⟩:=hI.aB 86 77 (dq hd 86) rfl;obtain⟨_,Lh,rfl⟩:=hI.aB 87 78 (dq hd 87) rfl;exact bV hs hI ⟨Xp,X8,rfl⟩ (eO call121 (by exact Ld) (cG rfl (cG rfl (cG (by exact Lg) (cG (by exact Lh) rfl)))) (qW _ _ Xp [0] zD zD (dC.vN X8 zD)).sub _)),
   (fun _ _ _ hs hI hl hd=>by
    obtain⟨_,fu,rfl⟩:=hI.aB 0 15 (dq hd 0) rfl;obtain⟨_,Li,Ef,n79,rfl⟩:=hI.aB 88 79 (dq hd 88) rfl;exact mg (k:=13) (v:=⟨[99,97,112,105,116,97,108],1,ck Ef [0],some Ef,false⟩) hs hI hl (dq hd 0) ⟨_,rfl,rfl,rfl,rfl,Ef,n79,rfl,rfl⟩ (fun M hM=>aq.insert (eV e6 (vD:=fE) (k:=(13:Int)) (v:=⟨[99,97,112,105,116,97,108],1,ck Ef [0],some Ef,false⟩) underlying123 (by exact fu) rfl (by exact Li) rfl rfl hM))),
   (fun _ _ _ hs hI hl hd=>bV hs hI rfl (bE isAgg156 (by exact hI.cZ.b3) _)),
   (fun _ _ _ hs hI hl hd=>vf (q:=kQ 6) hs zK hI hl rfl rfl rfl rfl rfl rfl (lU zK) zK rfl zK zK (fun ce=>ni 57 ib bS ce)),
   (fun _ _ _ hs hI hl hd=>bV hs hI rfl (aX (by exact hI.cZ.b2) _)),
   (fun _ _ _ hs hI hl hd=>by
    obtain⟨_,CZ,rfl⟩:=hI.aB 91 81 (dq hd 91) rfl;obtain⟨_,Lk,rfl⟩:=hI.aB 92 82 (dq hd 92) rfl;exact oC (q:=kQ 6) (k:=7) (v:=lL) hs hI hl (dq hd 91) (fun M hM=>aq.insert (eV e6 (vD:=bS) (k:=(7:Int)) (v:=lL) underlying119 (by exact CZ) rfl (by exact Lk) rfl rfl hM))),
   (fun _ _ _ hs hI hl hd=>by
    obtain⟨_,CZ,rfl⟩:=hI.aB 91 81 (dq hd 91) rfl;exact uG (q:=kQ 6) hs zK hI hl rfl rfl rfl rfl rfl (lU zK) zK rfl (dq hd 91) ⟨dq hd 93,trivial⟩ zK (fun m hm=>⟨m,hm,rfl⟩) (aX (by exact CZ) _)),
   (fun _ _ _ hs hI hl hd=>bV hs hI rfl (bK (n:=1) (rows:=[[D.i 0]]) underlying25 sizeOf3 rfl rfl rfl zeroValue3 rfl rfl rfl rfl rfl rfl rfl _)),
   (fun _ _ _ hs hI hl hd=>by
    obtain⟨_,Lj,rfl⟩:=hI.aB 90 80 (dq hd 90) rfl;obtain⟨_,Ll,Xq,X9,rfl⟩:=hI.aB 94 83 (dq hd 94) rfl;obtain⟨_,Lm,rfl⟩:=hI.aB 95 84 (dq hd 95) rfl;exact bV hs hI ⟨Xq,X9,rfl⟩ (eO call121 (by exact Lj) (cG rfl (cG rfl (cG (by exact Ll) (cG (by exact Lm) rfl)))) (qW _ _ Xq [0] zD zD (dC.vN X9 zD)).sub _)),
   (fun _ _ _ hs hI hl hd=>by
    obtain⟨_,fu,rfl⟩:=hI.aB 0 15 (dq hd 0) rfl;obtain⟨_,e85,Eg,n85,rfl⟩:=hI.aB 96 85 (dq hd 96) rfl;exact mg (k:=14) (v:=⟨[99,97,108,108],1,ck Eg [0],some Eg,false⟩) hs hI hl (dq hd 0) ⟨_,rfl,rfl,rfl,rfl,Eg,n85,rfl,rfl⟩ (fun M hM=>aq.insert (eV e6 (vD:=fE) (k:=(14:Int)) (v:=⟨[99,97,108,108],1,ck Eg [0],some Eg,false⟩) underlying123 (by exact fu) rfl (by exact e85) rfl rfl hM))),
   (fun _ _ _ hs hI hl hd=>bV hs hI rfl (bE isAgg156 (by exact hI.cZ.b3) _)),
   (fun _ _ _ hs hI hl hd=>vf (q:=kQ 7) hs zK hI hl rfl rfl rfl rfl rfl rfl (lU zK) zK rfl zK zK (fun ce=>ni 58 ib bS ce)),
   (fun _ _ _ hs hI hl hd=>bV hs hI rfl (aX (by exact hI.cZ.b2) _)),
   (fun _ _ _ hs hI hl hd=>by
    obtain⟨_,Ln,rfl⟩:=hI.aB 99 87 (dq hd 99) rfl;obtain⟨_,e88,rfl⟩:=hI.aB 100 88 (dq hd 100) rfl;exact oC (q:=kQ 7) (k:=7) (v:=lL) hs hI hl (dq hd 99) (fun M hM=>aq.insert (eV e6 (vD:=bS) (k:=(7:Int)) (v:=lL) underlying119 (by exact Ln) rfl (by exact e88) rfl rfl hM))),
   (fun _ _ _ hs hI hl hd=>by
    obtain⟨_,Ln,rfl⟩:=hI.aB 99 87 (dq hd 99) rfl;exact uG (q:=kQ 7) hs zK hI hl rfl rfl rfl rfl rfl (lU zK) zK rfl (dq hd 99) ⟨dq hd 101,trivial⟩ zK (fun m hm=>⟨m,hm,rfl⟩) (aX (by exact Ln) _)),
   (fun _ _ _ hs hI hl hd=>bV hs hI rfl (bK (n:=1) (rows:=[[D.i 0]]) underlying25 sizeOf3 rfl rfl rfl zeroValue3 rfl rfl rfl rfl rfl rfl rfl _)),
   (fun _ _ _ hs hI hl hd=>by
    obtain⟨_,e86,rfl⟩:=hI.aB 98 86 (dq hd 98) rfl;obtain⟨_,e89,Xr,X_,rfl⟩:=hI.aB 102 89 (dq hd 102) rfl;obtain⟨_,e90,rfl⟩:=hI.aB 103 90 (dq hd 103) rfl;exact bV hs hI ⟨Xr,X_,rfl⟩ (eO call121 (by exact e86) (cG rfl (cG rfl (cG (by exact e89) (cG (by exact e90) rfl)))) (qW _ _ Xr [0] zD zD (dC.vN X_ zD)).sub _)),
   (fun _ _ _ hs hI hl hd=>by
    obtain⟨_,fu,rfl⟩:=hI.aB 0 15 (dq hd 0) rfl;obtain⟨_,e91,Eh,n91,rfl⟩:=hI.aB 104 91 (dq hd 104) rfl;exact mg (k:=15) (v:=⟨[112,114,105,99,101],4,ck Eh [0],some Eh,false⟩) hs hI hl (dq hd 0) ⟨_,rfl,rfl,rfl,rfl,Eh,n91,rfl,rfl⟩ (fun M hM=>aq.insert (eV e6 (vD:=fE) (k:=(15:Int)) (v:=⟨[112,114,105,99,101],4,ck Eh [0],some Eh,false⟩) underlying123 (by exact fu) rfl (by exact e91) rfl rfl hM))),
   (fun _ _ _ hs hI hl hd=>bV hs hI rfl (aX (by exact hI.cZ.b5) _)),
   (fun _ _ _ hs hI hl hd=>bV hs hI rfl (bE isAgg156 (by exact hI.cZ.b3) _)),
   (fun _ _ _ hs hI hl hd=>vf (q:=kQ 8) hs zK hI hl rfl rfl rfl rfl rfl rfl (lU zK) zK rfl zK zK (fun ce=>ni 59 ib bS ce)),
   (fun _ _ _ hs hI hl hd=>bV hs hI rfl (bE isAgg154 (by exact hI.cZ.b1) _)),
   (fun _ _ _ hs hI hl hd=>by
    obtain⟨_,Lo,rfl⟩:=hI.aB 108 94 (dq hd 108) rfl;obtain⟨_,e95,rfl⟩:=hI.aB 109 95 (dq hd 109) rfl;exact oC (q:=kQ 8) (k:=8) (v:=lP) hs hI hl (dq hd 108) (fun M hM=>aq.insert (eV e6 (vD:=bS) (k:=(8:Int)) (v:=lP) underlying119 (by exact Lo) rfl (by exact e95) rfl rfl hM))),
   (fun _ _ _ hs hI hl hd=>by
    obtain⟨_,Lo,rfl⟩:=hI.aB 108 94 (dq hd 108) rfl;exact uG (q:=kQ 8) hs zK hI hl rfl rfl rfl rfl rfl (lU zK) zK rfl (dq hd 108) ⟨dq hd 110,trivial⟩ zK (fun m hm=>⟨m,hm,rfl⟩) (aX (by exact Lo) _)),
   (fun _ _ _ hs hI hl hd=>bV hs hI rfl (bK (n:=2) (rows:=[[D.i 1],[D.i 2]]) underlying25 sizeOf3 rfl rfl rfl zeroValue3 rfl rfl rfl rfl rfl rfl rfl _)),
   (fun _ _ _ hs hI hl hd=>by
    obtain⟨_,e93,rfl⟩:=hI.aB 107 93 (dq hd 107) rfl;obtain⟨_,e96,Xt,X',rfl⟩:=hI.aB 111 96 (dq hd 111) rfl;obtain⟨_,e97,rfl⟩:=hI.aB 112 97 (dq hd 112) rfl;exact bV hs hI ⟨Xt,X',rfl⟩ (eO call121 (by exact e93) (cG rfl (cG rfl (cG (by exact e96) (cG (by exact e97) rfl)))) (qW _ _ Xt [1,2] zD zD (dC.vN X' zD)).sub _)),
   (fun _ _ _ hs hI hl hd=>by
    obtain⟨_,e92,rfl⟩:=hI.aB 106 92 (dq hd 106) rfl;obtain⟨_,e98,Xu,n98,rfl⟩:=hI.aB 113 98 (dq hd 113) rfl;exact bV hs hI ⟨Xu,n98,rfl⟩ (eO call123 (by exact e92) (cG (by exact e98) rfl) (abx _ _ _ Xu) _)),
   (fun _ _ _ hs hI hl hd=>by
    obtain⟨_,fu,rfl⟩:=hI.aB 0 15 (dq hd 0) rfl;obtain⟨_,e99,Ei,n99,rfl⟩:=hI.aB 114 99 (dq hd 114) rfl;exact mg (k:=16) (v:=⟨[114,97,116,101],4,ck Ei [1,2],some Ei,true⟩) hs hI hl (dq hd 0) ⟨_,rfl,rfl,rfl,rfl,Ei,n99,rfl,rfl⟩ (fun M hM=>aq.insert (eV e6 (vD:=fE) (k:=(16:Int)) (v:=⟨[114,97,116,101],4,ck Ei [1,2],some Ei,true⟩) underlying123 (by exact fu) rfl (by exact e99) rfl rfl hM))),
   (fun _ _ _ hs hI hl hd=>bV hs hI rfl (aX (by exact hI.cZ.b4) _)),
   (fun _ _ _ hs hI hl hd=>by
    obtain⟨_,agc,rfl⟩:=hI.aB 116 100 (dq hd 116) rfl;exact bV hs hI ⟨eA,dC.refl _,rfl⟩ (eO call122 (by exact agc) rfl (CE _) _)),
   (fun _ _ _ hs hI hl hd=>by
    obtain⟨_,fu,rfl⟩:=hI.aB 0 15 (dq hd 0) rfl;obtain⟨_,agd,D7,am5,rfl⟩:=hI.aB 117 101 (dq hd 117) rfl;exact mg (k:=17) (v:=⟨[105,115,115,117,101],2,ck D7 [2],some D7,false⟩) hs hI hl (dq hd 0) ⟨_,rfl,rfl,rfl,rfl,D7,am5,rfl,rfl⟩ (fun M hM=>aq.insert (eV e6 (vD:=fE) (k:=(17:Int)) (v:=⟨[105,115,115,117,101],2,ck D7 [2],some D7,false⟩) underlying123 (by exact fu) rfl (by exact agd) rfl rfl hM))),
   (fun _ _ _ hs hI hl hd=>bV hs hI rfl (aX (by exact hI.cZ.b4) _)),
   (fun _ _ _ hs hI hl hd=>by
    obtain⟨_,age,rfl⟩:=hI.aB 119 102 (dq hd 119) rfl;exact bV hs hI ⟨eA,dC.refl _,rfl⟩ (eO call122 (by exact age) rfl (CE _) _)),
   (fun _ _ _ hs hI hl hd=>by
    obtain⟨_,fu,rfl⟩:=hI.aB 0 15 (dq hd 0) rfl;obtain⟨_,agf,D8,X2,rfl⟩:=hI.aB 120 103 (dq hd 120) rfl;exact mg (k:=18) (v:=⟨[99,97,110,99,101,108],2,ck D8 [2],some D8,false⟩) hs hI hl (dq hd 0) ⟨_,rfl,rfl,rfl,rfl,D8,X2,rfl,rfl⟩ (fun M hM=>aq.insert (eV e6 (vD:=fE) (k:=(18:Int)) (v:=⟨[99,97,110,99,101,108],2,ck D8 [2],some D8,false⟩) underlying123 (by exact fu) rfl (by exact agf) rfl rfl hM))),
   (fun _ _ _ hs hI hl hd=>by
    obtain⟨_,fu,rfl⟩:=hI.aB 0 15 (dq hd 0) rfl;exact bV hs hI rfl (aX (by exact fu) _)),
   (fun _ _ _ hs hI hl hd=>by
    obtain⟨_,agh,rfl⟩:=hI.aB 122 104 (dq hd 122) rfl;exact bV hs hI rfl (zu (by exact agh) _)),trivial⟩
 ·intro listed e ob hs eI hI;exact ags hs eI hI
 ·intro m hA;exact U.ret<|⟨m,[_],hA,rfl,Sub.refl _⟩
end Go.T
namespace Go.T
open Go
def kc(s:aa):Int:=if(!isName s)=true then 23 else 0
def nW(f:Fact)(code:Bool):Int:=
 if code=true then(if(!gf f.other)=true then 12 else if decide (f.other=f.cur)=true then 18 else 0)
 else if decide (kc f.other≠0)=true then kc f.other else if decide (f.other=f.dV)=true then 18 else 0
def eR(f:Fact)(code:Bool)(n:Int)(L:Bool×Bool):Int:=
 if decide (n=0)=true then kc f.dV else if decide (n=3)=true then kc f.target else if decide (n=1)=true then nW f code
 else if decide (n=2)=true then(if(!gf f.cur)=true then 12 else 0)else if decide (n=10)=true then tZ f else if decide (n=11)=true then rj f
 else if decide (n=12)=true then(if decide (f.choice<0)=true then 2 else 0)else fL L.1 L.2 (jR f n)
def atA{f:Fact}(h:lM f)(n:Int):nn (jR f n):=by
 have e:([]:aa).length<=60:=by simp
 unfold jR;split
 ·exact⟨h.dc,e⟩
 ·split
  ·exact⟨h.l9,e⟩
  ·split
   ·exact⟨h.mb,e⟩
   ·split
    ·exact h.dn
    ·split
     ·exact h.ratio
     ·split
      ·exact h.share
      ·exact⟨e,e⟩
def O4{f:Fact}{code:Bool}(h:code=true)(h2:(!gf f.other)=true):12=nW f code:=by rw[nW,aV h,aV h2]
def O5{f:Fact}{code:Bool}(h:code=true)(h2:(!gf f.other)=false)(h3:decide (f.other=f.cur)=true):18=nW f code:=by rw[nW,aV h,aF (by rw[h2];simp),aV h3]
def O6{f:Fact}{code:Bool}(h:code=true)(h2:(!gf f.other)=false)(h3:decide (f.other=f.cur)=false):0=nW f code:=by rw[nW,aV h,aF (by rw[h2];simp),aF (by rw[h3];simp)]
def O7{f:Fact}{code:Bool}(h:code=false)(h2:decide (kc f.other≠0)=true):kc f.other=nW f code:=by rw[nW,aF (by rw[h];simp),aV h2]
def O8{f:Fact}{code:Bool}(h:code=false)(h2:decide (kc f.other≠0)=false)(h3:decide (f.other=f.dV)=true):18=nW f code:=by rw[nW,aF (by rw[h];simp),aF (by rw[h2];simp),aV h3]
def O9{f:Fact}{code:Bool}(h:code=false)(h2:decide (kc f.other≠0)=false)(h3:decide (f.other=f.dV)=false):0=nW f code:=by rw[nW,aF (by rw[h];simp),aF (by rw[h2];simp),aF (by rw[h3];simp)]
def fI{α:Type}{b:Bool}{x y z:α}(h:b=true)(k:z=x):z=if b=true then x else y:=by rw[aV h];exact k
def ahb{f:Fact}{code:Bool}{n:Int}{L:Bool×Bool}(h4:4<=n)(h9:n<=9):fL L.1 L.2 (jR f n)=eR f code n L:=by
 have key:∀k:Int,(k<4\/9<k)->¬decide (n=k)=true:=fun k hk e=>by have:=aG e;omega
 unfold eR;rw[aF (key 0 zO),aF (key 3 zO),aF (key 1 zO),aF (key 2 zO),aF (key 10 zO),aF (key 11 zO),aF (key 12 zO)]
open Go.Proofs Go.Proofs.Tryz
def alX(w:World)(O:Nat->Prop)(ρ:aA):V w O ρ (bS none) .nilFunc:=by simp[V]
def BE(s:aa):Fc prog 124 [.str s] (.i (kc s)):=am9 s
def ag'(f:Fact)(hf:lM f)(w:aa)(c:Int)(h:Nat->Bool)(m:i_)(code:Bool)(n:Int)(L:Bool×Bool)(hs:n=0\/n=3\/n=1\/n=2\/n=10\/n=11\/n=12):Fc prog 88 [.agg (aJ f),.agg (dN w c h (ek m) code),.i n] (.i (eR f code n L)):=by
 refine ay func88 ntmps88 results88 ?_;refine go []<|br (fun h1=>?_) (fun h1=>?_)
 ·exact oP (eO call124 rfl rfl (BE _))<|af rfl (Sub.int (by unfold eR;exact iT h1))
 ·refine br (fun h2=>?_) (fun h2=>?_)
  ·exact oP (eO call124 rfl rfl (BE _))<|af rfl (Sub.int (by unfold eR;exact iF h1 (iT h2)))
  ·refine br (fun h3=>?_) (fun h3=>?_)
   ·refine br (fun h4=>?_) (fun h4=>?_)
    ·refine oP (ah call125 rfl (HS _))<|br (fun h5=>?_) (fun h5=>?_)
     ·exact af rfl (Sub.int (by unfold eR;exact iF h1 (iF h2 (fI h3 (O4 h4 h5)))))
     ·refine br (fun h6=>?_) (fun h6=>?_)
      ·exact af rfl (Sub.int (by unfold eR;exact iF h1 (iF h2 (fI h3 (O5 h4 h5 h6)))))
      ·exact af rfl (Sub.int (by unfold eR;exact iF h1 (iF h2 (fI h3 (O6 h4 h5 h6)))))
    ·refine oP (eO call124 rfl rfl (BE _))<|br (fun h7=>?_) (fun h7=>?_)
     ·exact af rfl (Sub.int (by unfold eR;exact iF h1 (iF h2 (fI h3 (O7 h4 h7)))))
     ·refine br (fun h8=>?_) (fun h8=>?_)
      ·exact af rfl (Sub.int (by unfold eR;exact iF h1 (iF h2 (fI h3 (O8 h4 h7 h8)))))
      ·exact af rfl (Sub.int (by unfold eR;exact iF h1 (iF h2 (fI h3 (O9 h4 h7 h8)))))
   ·refine br (fun h9=>?_) (fun h9=>?_)
    ·refine oP (ah call125 rfl (HS _))<|br (fun cB=>?_) (fun cB=>?_)
     ·exact af rfl (Sub.int (by unfold eR;exact iF h1 (iF h2 (iF h3 (fI h9 (iT cB))))))
     ·exact af rfl (Sub.int (by unfold eR;exact iF h1 (iF h2 (iF h3 (fI h9 (iF cB rfl))))))
    ·refine br (fun cD=>?_) (fun cD=>?_)
     ·exact oP (ah call126 rfl (Rv f hf))<|af rfl (Sub.int (by unfold eR;exact iF h1 (iF h2 (iF h3 (iF h9 (iT cD))))))
     ·refine br (fun cW=>?_) (fun cW=>?_)
      ·exact oP (ah call127 rfl (Ru f hf))<|af rfl (Sub.int (by unfold eR;exact iF h1 (iF h2 (iF h3 (iF h9 (iF cD (iT cW)))))))
      ·refine aM (iH (by simp at h1 h2 h3 h9 cD cW;omega))<|br (fun fy=>?_) (fun fy=>?_)
       ·exact af rfl (Sub.int (by unfold eR;exact iF h1 (iF h2 (iF h3 (iF h9 (iF cD (iF cW (fI (iH (by simp at h1 h2 h3 h9 cD cW;omega)) (iT fy)))))))))
       ·exact af rfl (Sub.int (by unfold eR;exact iF h1 (iF h2 (iF h3 (iF h9 (iF cD (iF cW (fI (iH (by simp at h1 h2 h3 h9 cD cW;omega)) (iF fy rfl)))))))))
def ahe(f:Fact)(hf:lM f)(w:aa)(c:Int)(h:Nat->Bool)(code:Bool)(n:Int)(L:Bool×Bool)(hs:n=0\/n=3\/n=1\/n=2\/n=10\/n=11\/n=12):Fc prog 88 [.agg (aJ f),.agg (dN w c h (D.raw (.map none)) code),.i n] (.i (eR f code n L)):=by
 refine ay func88 ntmps88 results88 ?_;refine go []<|br (fun h1=>?_) (fun h1=>?_)
 ·exact oP (eO call124 rfl rfl (BE _))<|af rfl (Sub.int (by unfold eR;exact iT h1))
 ·refine br (fun h2=>?_) (fun h2=>?_)
  ·exact oP (eO call124 rfl rfl (BE _))<|af rfl (Sub.int (by unfold eR;exact iF h1 (iT h2)))
  ·refine br (fun h3=>?_) (fun h3=>?_)
   ·refine br (fun h4=>?_) (fun h4=>?_)
    ·refine oP (ah call125 rfl (HS _))<|br (fun h5=>?_) (fun h5=>?_)
     ·exact af rfl (Sub.int (by unfold eR;exact iF h1 (iF h2 (fI h3 (O4 h4 h5)))))
     ·refine br (fun h6=>?_) (fun h6=>?_)
      ·exact af rfl (Sub.int (by unfold eR;exact iF h1 (iF h2 (fI h3 (O5 h4 h5 h6)))))
      ·exact af rfl (Sub.int (by unfold eR;exact iF h1 (iF h2 (fI h3 (O6 h4 h5 h6)))))
    ·refine oP (eO call124 rfl rfl (BE _))<|br (fun h7=>?_) (fun h7=>?_)
     ·exact af rfl (Sub.int (by unfold eR;exact iF h1 (iF h2 (fI h3 (O7 h4 h7)))))
     ·refine br (fun h8=>?_) (fun h8=>?_)
      ·exact af rfl (Sub.int (by unfold eR;exact iF h1 (iF h2 (fI h3 (O8 h4 h7 h8)))))
      ·exact af rfl (Sub.int (by unfold eR;exact iF h1 (iF h2 (fI h3 (O9 h4 h7 h8)))))
   ·refine br (fun h9=>?_) (fun h9=>?_)
    ·refine oP (ah call125 rfl (HS _))<|br (fun cB=>?_) (fun cB=>?_)
     ·exact af rfl (Sub.int (by unfold eR;exact iF h1 (iF h2 (iF h3 (fI h9 (iT cB))))))
     ·exact af rfl (Sub.int (by unfold eR;exact iF h1 (iF h2 (iF h3 (fI h9 (iF cB rfl))))))
    ·refine br (fun cD=>?_) (fun cD=>?_)
     ·exact oP (ah call126 rfl (Rv f hf))<|af rfl (Sub.int (by unfold eR;exact iF h1 (iF h2 (iF h3 (iF h9 (iT cD))))))
     ·refine br (fun cW=>?_) (fun cW=>?_)
      ·exact oP (ah call127 rfl (Ru f hf))<|af rfl (Sub.int (by unfold eR;exact iF h1 (iF h2 (iF h3 (iF h9 (iF cD (iT cW)))))))
      ·refine aM (iH (by simp at h1 h2 h3 h9 cD cW;omega))<|br (fun fy=>?_) (fun fy=>?_)
       ·exact af rfl (Sub.int (by unfold eR;exact iF h1 (iF h2 (iF h3 (iF h9 (iF cD (iF cW (fI (iH (by simp at h1 h2 h3 h9 cD cW;omega)) (iT fy)))))))))
       ·exact af rfl (Sub.int (by unfold eR;exact iF h1 (iF h2 (iF h3 (iF h9 (iF cD (iF cW (fI (iH (by simp at h1 h2 h3 h9 cD cW;omega)) (iF fy rfl)))))))))
def ahc(f:Fact)(hf:lM f)(w:aa)(c:Int)(h:Nat->Bool)(m:i_)(code:Bool)(n:Int)(L:Bool×Bool)(h4:4<=n)(h9:n<=9)(hB:ei none m n=some L):Fc prog 88 [.agg (aJ f),.agg (dN w c h (ek m) code),.i n] (.i (eR f code n L)):=by
 refine ay func88 ntmps88 results88 ?_;exact go []<|aH zQ<|aH zQ<|aH zQ<|aH zQ<|aH zQ<|aH zQ<|aH zQ<|oP (fun _=>apn e6 (vD:=bS) (m:=m) (k:=n) (d:=none) underlying119 zeroValue154 alX rfl rfl rfl rfl)<|oP (ah call128 rfl (aa' f n zO zO))<|oP (eO call175 (by exact aT (fun z=>some (bS z)) hB) rfl (OM (jR f n) L.1 L.2 (atA hf n)))<|ord<|af rfl (Sub.int (by exact ahb zO zO))
end Go.T
namespace Go.T
open Go
variable[bX]
section
variable{P:Program} {F:Fr} {ops:Array Oper} {K:Env->ae->Prop}
def aq.qn{o:Oper}{env:Env}{Z:ae}{d:D}{aj:ae}(h:aq P o env Z d aj):uj P o env Z (fun _:Unit=>True) (fun _=>d) (fun _=>aj):=fun O ρ a w ai hg hv=>
 Oper.wp_mono (by rintro a' w' ⟨av,v,h⟩;exact⟨(),av,v,trivial,h⟩) (h O ρ a w ai hg hv)
def JY(P:Program)(F:Fr)(ops:Array Oper)(I:Array Bool->Env->ae->Prop)(i:Nat)(o:Oper):Prop:=
 ∀listed env Z,listed.size=ops.size->I listed env Z->bf listed i=false->(∀e∈o.after,Region.binds .any e=true->bf listed e.on=true)->
  ∃(ι:Type) (A:ι->Prop) (d:ι->D) (aj:ι->ae),eF F.N o.dst=true/\On ops env o/\uj P o env Z A d aj/\∀j,A j->∃gb dG,Le F (env.put o.dst (d j)) (aj j) gb dG/\I (listed.setIfInBounds i true) gb dG
def xU(P:Program)(F:Fr)(ops:Array Oper)(I:Array Bool->Env->ae->Prop):Nat->List Oper->Prop
 |_,[]=>True
 |i,o::l=>JY P F ops I i o/\xU P F ops I (i+1) l
theorem xU.get{I:Array Bool->Env->ae->Prop}:∀{l:List Oper}{k i:Nat}{o:Oper},xU P F ops I k l->l[i]?=some o->JY P F ops I (k+i) o
 |[],k,i,o,_,h=>by simp at h
 |x::l,k,0,o,hs,h=>by simp at h;subst h;exact hs.1
 |x::l,k,i+1,o,hs,h=>by
  have:=xU.get hs.2 (i:=i) (o:=o) (by simpa using h);rwa[Nat.add_right_comm,l6]at this
def jU.akv{I:Array Bool->Env->ae->Prop}(hb:CG ops=true)(uP:∀listed env Z,listed.size=ops.size->(∀i,i<ops.size->bf listed i=true)->I listed env Z->K env Z)
  (aU:xU P F ops I 0 ops.toList):∀(eB:Nat)(listed:Array Bool)(env:Env)(Z:ae),listed.size=ops.size->xH listed ops.size<=eB->I listed env Z->jU P F ops K eB listed env Z:=by
 intro eB;induction eB with
 |zero=>
  intro listed env Z hs hf hI;have eI:∀i,i<ops.size->bf listed i=true:=fun i hi=>by
   cases e:bf listed i with
   |true=>rfl
   |false=>have:=aaZ hi e;omega
  refine jU.nil ?_ (uP listed env Z hs eI hI);rw[List.eq_nil_iff_forall_not_mem];intro i hi;have:=Jg hs hi;rw[eI i this.1]at this;cases this.2.1
 |succ eB ih=>
  intro listed env Z hs hf hI;refine⟨fun C Q hQ a w DL=>⟨fun hr=>hQ a w env Z (uP listed env Z hs (ZS hs hb hr) hI) DL,fun i hi=>?_⟩⟩;obtain⟨h1,h2,h3⟩:=Jg hs hi;have ho:ops[i]?=some ops[i]:=dW h1;have h4:JY P F ops I (0+i) ops[i]:=xU.get aU (by simpa using ho);rw[mD]at h4;obtain⟨ι,A,d,aj,q1,q2,q3,q4⟩:=h4 listed env Z hs hI h2 (h3 _ ho);obtain⟨ρ,tm⟩:=DL;unfold wpOpIn;simp only[ho];rw[aV (Fw q2 fun g b t _ _ d hd=>tm.env t d hd)];have:=q3 C.O ρ a w tm.tr.ok tm.ym (fun x _ d' h=>vq tm.env x d' h);refine Oper.wpIn_mono ?_ (zZ C.ro this (by rintro a' w' ⟨j,av,v,_,rfl,_⟩;exact Act.nh ..));rintro a' w' ⟨j,av,v,hA,rfl,k7,hv⟩;obtain⟨gb,dG,q5,q6⟩:=q4 j hA;exact(jU.bc q5 (ih _ _ _ (by simpa using hs) (by have:=aa0 h1 hs.symm h2;omega) q6)).out C Q hQ _ _ ⟨av,tm.step k7 (wE tm.size q1 (fun t d h=>k7.V (tm.env t d h)) hv) (Act.vT _ _ _) (Act.nh ..)⟩
def U.ap5{ι:Type}{A:ι->Prop}{gb:ι->Env}{dG:ι->ae}{env:Env}{Z:ae}{Q:Exit->Env->ae->Prop}{cs:List Code}{id:Nat}{l:List Oper}{c:Code}(I:Array Bool->Env->ae->Prop)(hm:P.follows .mixedOrders=true)(hb:CG l.toArray=true)
  (h0:I (Array.replicate l.length false) env Z)(aU:xU P F l.toArray I 0 l)(uP:∀listed e o,listed.size=l.length->(∀i,i<l.length->bf listed i=true)->I listed e o->∃i,A i/\Le F e o (gb i) (dG i))
  (k:∀i,A i->U P F (c::cs) Q (gb i) (dG i)):U P F (.region id l.toArray true::c::cs) Q env Z:=⟨⟨fun C a w hs=>by
 refine wpIn_region_any hm ?_;have hT:jU P F l.toArray (fun e o=>∃i,A i/\Le F e o (gb i) (dG i)) l.length (Array.replicate l.length false) env Z:=
  jU.akv (I:=I) hb (by simpa using uP) (by simpa using aU) l.length _ env Z zS (by
   have:xH (Array.replicate l.length false) l.toArray.size<=(List.range l.toArray.size).length:=List.countP_le_length;simpa using this) h0
 have:=hT.out C (fun e a' w'=>∃aY aj,kS (pK P F (c::cs) Q) Q e aY aj/\St F C aY aj a' w') (fun a w aY aj hk hs=>by
  obtain⟨i,hA,fh⟩:=hk;exact⟨gb i,dG i,(k i hA).out,fh.out C a w hs⟩) a _ hs.drew
 simpa using this⟩⟩
end
end Go.T
namespace Go.T
open Go
def xK:mz:=⟨[],0,fun _=>false,none,false⟩
def KZ(k:Int)(v:mz):Prop:=sN k v\/(eU k=none/\v=xK)
def E5{k:Int}{r:jT}(h:eU k=some r):1<=k/\k<=18:=by
 rcases Decidable.em (1<=k/\k<=18)with g|g
 ·exact g
 ·unfold eU at h;rw[aF zO,aF zO,aF zO,aF zO,aF zO,aF zO,aF zO,aF zO,aF zO,aF zO,aF zO,aF zO,aF zO,aF zO,aF zO,aF zO,aF zO,aF zO]at h;cases h
def aqh{k:Int}(h:∀j:Int,1<=j->j<=18->k≠j):eU k=none:=by
 cases e:eU k with
 |none=>rfl
 |some r=>have:=E5 e;exact absurd rfl (h k this.1 this.2)
def yV:List Int:=[1,2,3,4,5,6,7,8,9,10,11,12,13,14,15,16,17,18]
def Ig{k:Int}:k∈yV↔1<=k/\k<=18:=by
 constructor
 ·intro h;simp only[yV,cr,tu,GD]at h;omega
 ·intro h;simp only[yV,cr,tu,GD];omega
theorem G_{β:Type}(d:β):∀(m:List (Int×β))(k:Int),k∈m.map (·.1)->(k,ei d m k)∈m
 |[],k,h=>by cases h
 |(a,v)::r,k,h=>by
  by_cases e:k=a
  ·subst e;simp[ei]
  ·simp only[ei,aF e];exact cC _ (G_ d r k (by simpa[e]using h))
theorem Uc{β:Type}(d:β):∀(m:List (Int×β))(k:Int),k∉m.map (·.1)->ei d m k=d
 |[],k,_=>rfl
 |(a,v)::r,k,h=>by
  simp only[cP,cr,HW]at h;simp only[ei,aF h.1];exact Uc d r k h.2
def UJ{β:Type}(m:List (Int×β))(k:Int):j4 m k=true↔k∈m.map (·.1):=by
 unfold j4;rw[j_,dh];constructor
 ·rintro⟨p,hp,h⟩;exact⟨p,hp,(aG h).symm⟩
 ·rintro⟨p,hp,rfl⟩;exact⟨p,hp,by simp⟩
def NI{m:List (Int×mz)}(h1:(m.map (·.1)).Perm yV)(h2:∀p∈m,sN p.1 p.2)(k:Int):KZ k (ei xK m k)/\j4 m k=(eU k).isSome:=by
 by_cases hk:k∈m.map (·.1)
 ·have h3:=h2 _ (G_ xK m k hk);refine⟨.inl h3,?_⟩;obtain⟨r,hr,_⟩:=h3;rw[show j4 m k=true from(UJ m k).2 hk];simp only at hr;rw[hr];rfl
 ·have h3:eU k=none:=aqh fun j hj MY e=>hk (h1.mem_iff.2 (Ig.2 ⟨by omega,by omega⟩));refine⟨.inr ⟨h3,Uc _ _ _ hk⟩,?_⟩;rw[h3];cases e:j4 m k with
  |false=>rfl
  |true=>exact absurd ((UJ m k).1 e) hk
def qa(r:jT)(n:Int):Bool×Bool:=(ei none (r.num.getD []) n).getD (false,false)
def spB(n:Int):Bool:=decide (n=0)||decide (n=3)||decide (n=1)||decide (n=2)||decide (n=10)||decide (n=11)||decide (n=12)
def Z9(r:jT):Bool:=r.more.all spB&&(match r.num with|none=>true|some E=>E.all (fun p=>decide (4<=p.1)&&decide (p.1<=9)&&p.2.isSome)&&decide ((E.map (·.1)).Nodup))
def aqf{k:Int}{r:jT}(h:eU k=some r):Z9 r=true:=by
 have h1:=E5 h;have h2:k=1\/k=2\/k=3\/k=4\/k=5\/k=6\/k=7\/k=8\/k=9\/k=10\/k=11\/k=12\/k=13\/k=14\/k=15\/k=16\/k=17\/k=18:=by omega
 rcases h2 with rfl|rfl|rfl|rfl|rfl|rfl|rfl|rfl|rfl|rfl|rfl|rfl|rfl|rfl|rfl|rfl|rfl|rfl<;>(have h':=qe h;rw[<-h'];decide)
def nJ(r:jT)(n:Nat):Bool:=ck (r.num.getD []) r.more n
def aiU{E m:i_}(h:dC E m)(more:List Int)(j:Nat):ck m more j=ck E more j:=by
 have key:∀a:i_,(a.any fun p=>decide (p.1=(j:Int)))=true↔(j:Int)∈a.map (·.1):=by
  intro a;rw[j_,dh];constructor
  ·rintro⟨p,hp,h⟩;exact⟨p,hp,aG h⟩
  ·rintro⟨p,hp,h⟩;exact⟨p,hp,iH h⟩
 unfold ck
 congr 1
 rw[mE,key,key];exact h.1.mem_iff
def anr{E:i_}(hn:(E.map (·.1)).Nodup){k:Int}{a b:oa}(ha:(k,a)∈E)(hb:(k,b)∈E):a=b:=by
 induction E with
 |nil=>cases ha
 |cons p E ih=>
  rw[cP,kr]at hn;rcases cr.1 ha with e1|h1<;>rcases cr.1 hb with e2|h2
  ·rw[<-e1]at e2;exact(Prod.mk.inj e2).2.symm
  ·exact absurd (by have:=qD (f:=Prod.fst) h2;rw[<-e1];exact this) hn.1
  ·exact absurd (by have:=qD (f:=Prod.fst) h1;rw[<-e2];exact this) hn.1
  ·exact ih hn.2 h1 h2
def anC{E m:i_}{n:Int}(h:dC E m)(hn:(E.map (·.1)).Nodup)(hs:∀p∈E,p.2.isSome=true)(hk:n∈m.map (·.1)):ei none m n=some ((ei none E n).getD (false,false)):=by
 have h1:=h.2 _ (G_ none m n hk);have h2:=G_ none E n (h.1.mem_iff.1 hk);have h3:=anr hn h1 h2;rw[h3];have h4:=hs _ h2;simp only at h4;cases e:ei none E n with
 |none=>rw[e]at h4;cases h4
 |some L=>rfl
def mc(f:Fact)(r:jT):List Int->Int
 |[]=>0
 |n::l=>if nJ r n.toNat=true then(if decide (eR f r.code n (qa r n)≠0)=true then eR f r.code n (qa r n)else mc f r l)else if(!eG f n)=true then 1 else mc f r l
@[reducible] def iU:List Int:=[0,1,2,3,4,5,6,7,8,9,10,11,12]
def GQ{pre rest:List Int}{x:Int}(h:iU=pre++x::rest):x=(pre.length:Int)/\x<13:=by
 have h1:iU[pre.length]?=some x:=by rw[h];simp
 have hl:pre.length<13:=by
  have:=aT List.length h;simp at this;omega
 have key:∀i:Nat,i<13->iU[i]?=some (i:Int):=by decide
 rw[key _ hl]at h1;cases h1;exact⟨rfl,by omega⟩
def zW(f:Fact):Fact:=⟨f.key,f.iB,true,0,0,[],[],[],[],[],[],[],⟨[],[]⟩,⟨[],[]⟩,⟨[],[]⟩,[],[],0⟩
def yW(f:Fact):Int:=
 match eU f.kind with
 |none=>7
 |some r=>mc f r iU
def gy(f:Fact):Int:=
 if(!isName f.key)=true then 23 else if decide (f.iB<0)=true then 2 else if f.cancelled=true then(if(!l4 f (zW f))=true then 1 else 0)
 else if(decide (f.day< -25567)||decide (84005<f.day))=true then 13 else yW f
def Tp{e:Int}{f:Fact}{r:jT}{n:Int}{l:List Int}(hp:e=mc f r (n::l))(h:nJ r n.toNat=true)(h2:decide (eR f r.code n (qa r n)≠0)=true):eR f r.code n (qa r n)=e:=by rw[hp,mc,aV h,aV h2]
def Tq{e:Int}{f:Fact}{r:jT}{n:Int}{l:List Int}(hp:e=mc f r (n::l))(h:nJ r n.toNat=true)(h2:decide (eR f r.code n (qa r n)≠0)=false):e=mc f r l:=by rw[hp,mc,aV h,aF (by rw[h2];simp)]
def Ts{e:Int}{f:Fact}{r:jT}{n:Int}{l:List Int}(hp:e=mc f r (n::l))(h:nJ r n.toNat=false)(h2:(!eG f n)=true):1=e:=by rw[hp,mc,aF (by rw[h];simp),aV h2]
def Tt{e:Int}{f:Fact}{r:jT}{n:Int}{l:List Int}(hp:e=mc f r (n::l))(h:nJ r n.toNat=false)(h2:(!eG f n)=false):e=mc f r l:=by rw[hp,mc,aF (by rw[h];simp),aF (by rw[h2];simp)]
def SQ{w:aa}{c:Int}{h:Nat->Bool}{num:D}{code:Bool}{j:Nat}(hj:j<13):(dN w c h num code)[2+j]?=some (.b (h j)):=by
 have:=agn (w:=w) (c:=c) (h:=h) (num:=num) (code:=code) (i:=(j:Int)) zO zO;simpa using this
def WC{k:Int}{v:mz}{r:jT}(hv:sN k v)(hr:eU k=some r)(j:Nat):v.h j=nJ r j:=by
 obtain⟨r',mP,_,_,_,h4⟩:=hv;rw[hr]at mP;cases mP;unfold PO at h4;unfold nJ;cases e:r.num with
 |none=>rw[e]at h4;rw[h4.2];rfl
 |some E=>
  rw[e]at h4;obtain⟨m,hm,_,h5⟩:=h4;rw[h5];exact aiU hm r.more j
def NJ{k:Int}{v:mz}{r:jT}(hv:KZ k v)(hr:eU k=some r):sN k v:=by
 rcases hv with hv|⟨hn,_⟩
 ·exact hv
 ·rw[hr]at hn;cases hn
def PQ{k:Int}(h:(!(eU k).isSome)=false):∃r,eU k=some r:=by
 cases e:eU k with
 |none=>rw[e]at h;cases h
 |some r=>exact⟨r,rfl⟩
def Rz{f:Fact}(h:(!(eU f.kind).isSome)=true):7=yW f:=by
 unfold yW;cases e:eU f.kind with
 |none=>rfl
 |some r=>rw[e]at h;cases h
def RC{f:Fact}{r:jT}(h:eU f.kind=some r):yW f=mc f r iU:=by unfold yW;rw[h]
def F1{f:Fact}(h1:(!isName f.key)=false)(h2:decide (f.iB<0)=false)(h3:f.cancelled=false)(h4:(decide (f.day< -25567)||decide (84005<f.day))=false):gy f=yW f:=by
 unfold gy;rw[aF (by rw[h1];simp),aF (by rw[h2];simp),aF (by rw[h3];simp),aF (by rw[h4];simp)]
def atF(f:Fact):jx [.agg (aJ f),.agg [.str f.key,.i f.iB,.b true,.raw (.int .i64 0),.raw (.int .i64 0),.str [],.str [],.str [],.str [],.str [],.str [],.str [],.str [],.str [],.str [],.str [],.str [],.str [],.raw (.slice none 0 0),.raw (.slice none 0 0),.raw (.int .i64 0)]] [.agg (aJ f),.agg (aJ (zW f))]:=by
 refine .cons (Sub.refl _) (.cons (Sub.agg ?_) .nil);repeat(first|exact .nil|refine .cons (Sub.refl _) ?_|refine .cons (Sub.nil _ _) ?_)
open Go.Proofs Go.Proofs.Tryz
def To{f:Fact}(hf:lM f){k:Int}{v:mz}{r:jT}(hv:sN k v)(hr:eU k=some r){n:Int}(h0:0<=n)(fy:n<13)(hh:nJ r n.toNat=true):Fc prog 88 [.agg (aJ f),fE v,.i n] (.i (eR f r.code n (qa r n))):=by
 obtain⟨r',mP,e1,e2,e3,h4⟩:=hv;rw[hr]at mP;cases mP;have hg:=aqf hr;unfold Z9 at hg;rw[bd]at hg;have A':∀x∈r.more,x=0\/x=3\/x=1\/x=2\/x=10\/x=11\/x=12:=fun x hx=>by
  have:=de.1 hg.1 x hx;simp only[spB,fZ,cd]at this;omega
 obtain⟨vw,vc,vh,vn,sG⟩:=v;simp only at e1 e2 e3;subst e3;have hnt:((n.toNat:Nat):Int)=n:=by omega
 unfold nJ ck at hh;rw[fZ,hnt]at hh;have A3:(r.more.any fun x=>decide (x=n))=true->n=0\/n=3\/n=1\/n=2\/n=10\/n=11\/n=12:=fun h=>by
  obtain⟨x,hx,e⟩:=j_.1 h;obtain rfl:x=n:=aG e;exact A' x hx
 unfold PO at h4;cases e:r.num with
 |none=>
  rw[e]at h4 hh;simp only at h4;obtain⟨rfl,_⟩:=h4;refine ahe f hf vw vc vh r.code n _ (A3 ?_);rcases hh with hh|hh
  ·simp at hh
  ·exact hh
 |some E=>
  rw[e]at h4 hh hg;simp only at h4 hg;obtain⟨m,hm,rfl,_⟩:=h4;rw[bd]at hg;have fD:=aG hg.2.2;have hE:∀p∈E,(4<=p.1/\p.1<=9)/\p.2.isSome=true:=fun p hp=>by
   have:=de.1 hg.2.1 p hp;rw[bd,bd]at this;exact⟨⟨aG this.1.1,aG this.1.2⟩,this.2⟩
  rcases hh with hh|hh
  ·simp only[l8]at hh;obtain⟨p,hp,e2⟩:=j_.1 hh;have e2:=aG e2;have h49:=(hE p hp).1;have yE:n∈m.map (·.1):=hm.1.mem_iff.2 (e2▸qD (f:=Prod.fst) hp);have hB:=anC hm fD (fun p hp=>(hE p hp).2) yE;refine ahc f hf vw vc vh m r.code n _ zO zO ?_;rw[hB];unfold qa;rw[e];rfl
  ·exact ag' f hf vw vc vh m r.code n _ (A3 hh)
def CJ:List (Option Nat):=[some 33,some 34,some 35,some 36,some 32,some 37,some 38,some 3,none,some 4]
def cVT(f:Fact):List (D->Prop):=[fun d=>∃m,Bm m/\d=w6 ib fE m,fun d=>d=.bj ((aJ f).drop 4),fun d=>d=.i f.kind,fun d=>∃v,KZ f.kind v/\d=.a_ [fE v,.b (eU f.kind).isSome],fun d=>∃v,KZ f.kind v/\d=.a_ [fE v,.b (eU f.kind).isSome],
 fun d=>∃v,KZ f.kind v/\d=fE v,fun d=>d=.b (eU f.kind).isSome,fun d=>d=.box 1 0,fun _=>True,fun d=>d=.b (eU f.kind).isSome]
def Kw(f:Fact)(i:Nat):D->Prop:=((cVT f)[i]?).getD fun _=>True
def Rl:x_ CJ=true:=by decide+kernel
abbrev CF:Fr:=⟨60,[],false,none⟩
structure xP(f:Fact)(listed:Array Bool)(env:Env)(Z:ae):Prop where
 aB:qq CJ (Kw f) listed env
 b1:env.get 1=some (.bj (aJ f))
 bo:bf listed 7=false->Z.get 1=none
 al:bf listed 7=true->bf listed 8=false->∃ds:List D,ds.length=17/\Z.get 1=some (.cells ds)
 c8:bf listed 8=true->bf listed 7=true
 st:bf listed 8=true->∃v,KZ f.kind v/\Z.get 1=some (.cells (dN v.w v.c v.h (BN v.num) v.code))
abbrev JQ(f:Fact)(listed:Array Bool)(env:Env)(Z:ae)(i:Nat)(o:Oper)(ops:Array Oper):Prop:=
 ∃(ι:Type) (A:ι->Prop) (d:ι->D) (aj:ι->ae),eF CF.N o.dst=true/\On ops env o/\uj prog o env Z A d aj/\∀j,A j->∃gb dG,Le CF (env.put o.dst (d j)) (aj j) gb dG/\xP f (listed.setIfInBounds i true) gb dG
section
variable{f:Fact} {ops:Array Oper} {listed:Array Bool} {env:Env} {Z:ae} {i t:Nat} {o:Oper}
def xx{ι:Type}{A:ι->Prop}{d:ι->D}(hs:listed.size=ops.size)(hn:Nat.blt i ops.size=true)(hI:xP f listed env Z)(hi:CJ[i]?=some (some t))(ht:(!(t==1))=true)(Mo:(!(i==7)&&!(i==8))=true)(hN:eF CF.N (some t)=true)(ho:o.dst=some t)(hg:o.guard=none)(hV:∀j,A j->Kw f i (d j))(hq:uj prog o env Z A d (fun _=>Z)):JQ f listed env Z i o ops:=by
 have bb:i<listed.size:=by rw[hs];simpa[jE]using hn
 rw[bd]at Mo;have h7:i≠7:=by simpa using Mo.1
 have h8:i≠8:=by simpa using Mo.2
 have Np:t≠1:=by simpa using ht
 refine⟨ι,A,d,_,by rw[ho];exact hN,vo hg,hq,fun j hj=>⟨(t,d j)::env,Z,by rw[ho];exact Le.refl _ _ _,hI.aB.put Rl bb hi (hV j hj),by rw[Env.bm,aF Np];exact hI.b1,fun e=>hI.bo ?_,fun e e'=>hI.al ?_ ?_,fun e=>D6 bb (hI.c8 ?_),fun e=>hI.st ?_⟩⟩;all_goals first|(rwa[fU bb,aF h7]at e;done)|(rwa[fU bb,aF h8]at e';done)|(rwa[fU bb,aF h8]at e;done)
def acm{z:Value}(hs:listed.size=ops.size)(hn:Nat.blt 8 ops.size=true)(hI:xP f listed env Z)(hl:bf listed 7=false)(hi:CJ[7]?=some (some t))(ht:(!(t==1))=true)(hN:eF CF.N (some t)=true)(ho:o.dst=some t)(hg:o.guard=none)(hV:Kw f 7 (.box 1 0))(hz:(z.cells.toList.map lY).length=17)
  (hq:Z.get 1=none->aq prog o env Z (.box 1 0) ((1,.cells (z.cells.toList.map lY))::Z)):JQ f listed env Z 7 o ops:=by
 have th:8<listed.size:=by rw[hs];simpa[jE]using hn
 have bb:7<listed.size:=by omega
 have h8:bf listed 8=false:=by
  cases e:bf listed 8 with
  |false=>rfl
  |true=>have:=hI.c8 e;rw[hl]at this;cases this
 have Np:t≠1:=by simpa using ht
 refine⟨_,_,_,_,by rw[ho];exact hN,vo hg,(hq (hI.bo hl)).qn,fun j hj=>⟨(t,.box 1 0)::env,_,by rw[ho];exact Le.refl _ _ _,hI.aB.put Rl bb hi hV,by rw[Env.bm,aF Np];exact hI.b1,fun e=>?_,fun _ _=>⟨_,hz,by rw[ae.bm,aV rfl]⟩,fun _=>by rw[fU bb,aV rfl],fun e=>?_⟩⟩
 ·rw[fU bb,aV rfl]at e;cases e
 ·rw[fU bb,aF zD,h8]at e;cases e
def arf{v:mz}(hs:listed.size=ops.size)(hn:Nat.blt 8 ops.size=true)(hI:xP f listed env Z)(hl:bf listed 8=false)(h7:bf listed 7=true)(hi:CJ[8]?=some none)(ho:o.dst=none)(hg:o.guard=none)(hv:KZ f.kind v)
  (hq:∀ds:List D,ds.length=17->Z.get 1=some (.cells ds)->aq prog o env Z (.raw undef) (Z.set 1 (.cells (dN v.w v.c v.h (BN v.num) v.code)))):JQ f listed env Z 8 o ops:=by
 have bb:8<listed.size:=by rw[hs];simpa[jE]using hn
 obtain⟨ds,g1,g2⟩:=hI.al h7 hl;refine⟨_,_,_,_,by rw[ho];rfl,vo hg,(hq ds g1 g2).qn,fun j hj=>⟨env,_,by rw[ho];exact Le.refl _ _ _,hI.aB.none bb hi,hI.b1,fun e=>?_,fun _ e=>?_,fun _=>D6 bb h7,fun _=>⟨v,hv,by rw[ae.ej,aV rfl]⟩⟩⟩
 ·rw[fU bb,aF zD,h7]at e;cases e
 ·rw[fU bb,aV rfl]at e;cases e
end
def akt{f:Fact}{n:Nat}{env:Env}{Z:ae}(h1:env.get 1=some (.bj (aJ f)))(ce:Z.get 1=none):xP f (Array.replicate n false) env Z:=by
 refine⟨fun j t h=>?_,h1,fun _=>ce,fun h=>?_,fun h=>?_,fun h=>?_⟩<;>(rw[Bu]at h;cases h)
def agr{f:Fact}{listed:Array Bool}{env:Env}{Z:ae}(eI:∀i,i<10->bf listed i=true)(hI:xP f listed env Z):∃v,KZ f.kind v/\Le CF env Z [(1,.bj (aJ f)),(3,.box 1 0),(4,.b (eU f.kind).isSome)] [(1,.cells (dN v.w v.c v.h (BN v.num) v.code))]:=by
 obtain⟨v,hv,ho⟩:=hI.st (eI 8 zD);obtain⟨d3,e3,q3⟩:=hI.aB 7 3 (eI 7 zD) rfl;obtain⟨d4,e4,q4⟩:=hI.aB 9 4 (eI 9 zD) rfl;have q3:d3=.box 1 0:=q3;have q4:d4=.b (eU f.kind).isSome:=q4;subst q3;subst q4;refine⟨v,hv,Le.mk rfl (.cons hI.b1 (Sub.refl _) rfl (.cons e3 (Sub.refl _) rfl (.cons e4 (Sub.refl _) rfl .nil))) (.cons ho ?_ .nil)⟩;obtain⟨w,c,h,nu,code⟩:=v;cases nu<;>rfl
def Wy(w:World)(O:Nat->Prop)(ρ:aA):V w O ρ (fE xK) (.agg #[.string ⟨#[]⟩,.int .i64 0,.bool false,.bool false,.bool false,.bool false,.bool false,.bool false,.bool false,.bool false,.bool false,.bool false,.bool false,.bool false,.bool false,.map none,.bool false]):=by
 simp only[V];exact⟨_,rfl,by simp[V,Vs,aD,xK,D.i,D.b]⟩
structure adI(f:Fact)(vw:aa)(vc:Int)(vh:Nat->Bool)(sG:Bool)(r:jT)where
 pre:List Int
 rest:List Int
 hx:iU=pre++rest
 hp:gy f=mc f r rest
structure adH(f:Fact)(vw:aa)(vc:Int)(vh:Nat->Bool)(m:i_)(sG:Bool)(r:jT)where
 pre:List Int
 rest:List Int
 hx:iU=pre++rest
 hp:gy f=mc f r rest
def Ry(f:Fact)(hf:lM f):Fc Tryz.prog 44 [.agg (aJ f)] (.i (gy f)):=by
 refine ay func44 ntmps44 results44 ?_;refine go [11,17]<|oP (ah call86 rfl (BF _))<|br (fun h1=>?_) (fun h1=>?_)
 ·exact af rfl (Sub.int (by unfold gy;exact iT h1))
 ·refine br (fun h2=>?_) (fun h2=>?_)
  ·exact af rfl (Sub.int (by(unfold gy;exact iF h1 (iT h2))))
  ·refine br (fun h3=>?_) (fun h3=>?_)
   ·refine oP (ah call76 rfl (Fc.sub (aad f (zW f)) (atF f)))<|br (fun h4=>?_) (fun h4=>?_)
    ·exact af rfl (Sub.int (by(unfold gy;exact iF h1 (iF h2 (fI h3 (iT h4))))))
    ·exact af rfl (Sub.int (by(unfold gy;exact iF h1 (iF h2 (fI h3 (iF h4 rfl))))))
   ·refine br (fun h5=>?_) (fun h5=>?_)
    ·exact af rfl (Sub.int (by(unfold gy;exact iF h1 (iF h2 (iF h3 (iT h5))))))
    ·refine U.bc (Le.fx 1 0 rfl rfl rfl rfl) ?_;refine U.ap5 (A:=fun v=>KZ f.kind v) (gb:=fun _=>[(1,.bj (aJ f)),(3,.box 1 0),(4,.b (eU f.kind).isSome)]) (dG:=fun v=>[(1,.cells (dN v.w v.c v.h (BN v.num) v.code))]) (xP f) l7 zK ?_ ?_ ?_ ?_
     ·exact akt rfl rfl
     ·exact⟨(fun _ _ _ hs hI hl hd=>by
    skip;exact xx hs zK hI rfl rfl rfl rfl rfl rfl (fun m hm=>⟨m,hm,rfl⟩) (Pq call87 rfl Wz _)),
   (fun _ _ _ hs hI hl hd=>by
    skip;exact xx hs zK hI rfl rfl rfl rfl rfl rfl (fun _ _=>rfl) (aq.qn (lr (n:=0) 3 4 underlying39 sizeOf3 rfl (by exact hI.b1) rfl _))),
   (fun _ _ _ hs hI hl hd=>by
    obtain⟨_,K_,rfl⟩:=hI.aB 1 34 (dp hd 1 zK) rfl;exact xx hs zK hI rfl rfl rfl rfl rfl rfl (fun _ _=>rfl) (aq.qn (bE isAgg3 (by exact K_) _))),
   (fun _ _ _ hs hI hl hd=>by
    obtain⟨_,K9,mm,hA,rfl⟩:=hI.aB 0 33 (dp hd 0 zK) rfl;obtain⟨_,La,rfl⟩:=hI.aB 2 35 (dp hd 2 zK) rfl;obtain⟨hk1,yB⟩:=NI hA.1 hA.2 f.kind;exact xx hs zK hI rfl rfl rfl rfl rfl rfl (fun _ _=>⟨_,hk1,by rw[<-yB]⟩) (aq.qn (ZL e6 (vD:=fE) (m:=mm) (k:=f.kind) (d:=xK) underlying123 zeroValue121 Wy (by exact K9) rfl (by exact La) rfl))),
   (fun _ _ _ hs hI hl hd=>by
    obtain⟨_,Lb,v,hv,rfl⟩:=hI.aB 3 36 (dp hd 3 zK) rfl;exact xx hs zK hI rfl rfl rfl rfl rfl rfl (fun _ _=>⟨v,hv,rfl⟩) (aq.qn (aX (by exact Lb) _))),
   (fun _ _ _ hs hI hl hd=>by
    obtain⟨_,CW,v,hv,rfl⟩:=hI.aB 4 32 (dp hd 4 zK) rfl;exact xx hs zK hI rfl rfl rfl rfl rfl rfl (fun _ _=>⟨v,hv,rfl⟩) (aq.qn (eP (by exact CW) rfl _))),
   (fun _ _ _ hs hI hl hd=>by
    obtain⟨_,CW,v,hv,rfl⟩:=hI.aB 4 32 (dp hd 4 zK) rfl;exact xx hs zK hI rfl rfl rfl rfl rfl rfl (fun _ _=>rfl) (aq.qn (eP (by exact CW) rfl _))),
   (fun _ _ _ hs hI hl hd=>by
    skip;exact acm hs zK hI hl rfl rfl rfl rfl rfl rfl rfl (fun ce=>jC 1 zeroValue121 ce)),
   (fun _ _ _ hs hI hl hd=>by
    obtain⟨_,Lc,v,hv,rfl⟩:=hI.aB 5 37 (dp hd 5 zK) rfl;obtain⟨_,e3,rfl⟩:=hI.aB 7 3 (dp hd 7 zK) rfl;exact arf (v:=v) hs zK hI hl (dp hd 7 zK) rfl rfl rfl hv (fun ds h1 h2=>kP sizeOf121 (by exact e3) (by exact Lc) rfl (by obtain⟨w,c,h,nu,code⟩:=v;cases nu<;>rfl) h2 h1)),
   (fun _ _ _ hs hI hl hd=>by
    obtain⟨_,yc,rfl⟩:=hI.aB 6 38 (dp hd 6 zK) rfl;exact xx hs zK hI rfl rfl rfl rfl rfl rfl (fun _ _=>rfl) (aq.qn (zu (by exact yc) _))),trivial⟩
     ·intro listed e ob hs eI hI;exact agr eI hI
     ·rintro⟨vw,vc,vh,_|m,sG⟩ hv
      ·show U _ _ _ _ [(1,.bj (aJ f)),(3,.box 1 0),(4,.b (eU f.kind).isSome)] [(1,.cells (dN vw vc vh (D.raw (.map none)) sG))];refine go [11,17]<|br (fun h6=>?_) (fun h6=>?_)
       ·exact af rfl (Sub.int (by exact(Rz h6).trans (F1 h1 h2 h3 h5).symm))
       ·obtain⟨r,hr⟩:=PQ h6;have hk:=NJ hv hr;have hh:∀j,vh j=nJ r j:=WC hk hr;refine U.loop (ι:=adI f vw vc vh sG r) (fun sx=>[(1,.bj (aJ f)),(3,.box 1 0),(41,.i sx.pre.length)]) (fun sx=>[(1,.cells (dN vw vc vh (D.raw (.map none)) sG))]) (fun sx=>sx.rest.length) ⟨[],_,rfl,(F1 h1 h2 h3 h5).trans (RC hr)⟩ ?_ ?_
        ·exact Le.mk rfl (.n 3 rfl rfl .nil) (.cons rfl rfl .nil)
        ·rintro⟨pre,rest,hx,hp⟩;dsimp only;rcases rest with _|⟨x,rest⟩
         ·have hl:=aT List.length hx;simp only[bl,bD,hG]at hl;exact go [11,17]<|aH zQ<|go [11,17]<|af rfl (Sub.int (by exact hp.symm))
         ·obtain⟨e9,fy⟩:=GQ hx;subst e9;refine go [11,17]<|aM zQ<|rg<|.mv rfl rfl<|.P rfl (iN (n:=12) 118 2 underlying121 sizeOf118 rfl rfl)<|.P rfl (sl (o2:=2+pre.length) underlying118 sizeOf4 rfl rfl zO zO zO)<|.R rfl (iY isAgg4 rfl rfl (SQ zO))<|.nil<|go [11,17]<|br (fun h7=>?_) (fun h7=>?_)
          ·refine oP (ah call88 rfl (To (v:=⟨vw,vc,vh,none,sG⟩) hf hk hr (n:=(pre.length:Int)) zO zO (by rw[q8,<-hh];assumption)))<|br (fun h8=>?_) (fun h8=>?_)
           ·exact af rfl (Sub.int (by exact Tp hp (by rw[q8,<-hh];assumption) zA))
           ·exact go [11,17]<|sd (ao zO)<|nx ⟨pre++[(pre.length:Int)],rest,by simp[hx],by exact Tq hp (by rw[q8,<-hh];assumption) zA⟩ zS (Le.mk rfl (.n 2 rfl rfl (.cons rfl (Sub.int zS) rfl .nil)) (.cons rfl rfl .nil))
          ·refine oP (ah call89 rfl (SN f (pre.length:Int) zO zO))<|br (fun h9=>?_) (fun h9=>?_)
           ·exact af rfl (Sub.int (by exact Ts hp (by rw[q8,<-hh];assumption) zA))
           ·exact go [11,17]<|sd (ao zO)<|nx ⟨pre++[(pre.length:Int)],rest,by simp[hx],by exact Tt hp (by rw[q8,<-hh];assumption) zA⟩ zS (Le.mk rfl (.n 2 rfl rfl (.cons rfl (Sub.int zS) rfl .nil)) (.cons rfl rfl .nil))
      ·show U _ _ _ _ [(1,.bj (aJ f)),(3,.box 1 0),(4,.b (eU f.kind).isSome)] [(1,.cells (dN vw vc vh (ek m) sG))];refine go [11,17]<|br (fun cB=>?_) (fun cB=>?_)
       ·exact af rfl (Sub.int (by exact(Rz cB).trans (F1 h1 h2 h3 h5).symm))
       ·obtain⟨r,hr⟩:=PQ cB;have hk:=NJ hv hr;have hh:∀j,vh j=nJ r j:=WC hk hr;refine U.loop (ι:=adH f vw vc vh m sG r) (fun sx=>[(1,.bj (aJ f)),(3,.box 1 0),(41,.i sx.pre.length)]) (fun sx=>[(1,.cells (dN vw vc vh (ek m) sG))]) (fun sx=>sx.rest.length) ⟨[],_,rfl,(F1 h1 h2 h3 h5).trans (RC hr)⟩ ?_ ?_
        ·exact Le.mk rfl (.n 3 rfl rfl .nil) (.cons rfl rfl .nil)
        ·rintro⟨pre,rest,hx,hp⟩;dsimp only;rcases rest with _|⟨x,rest⟩
         ·have hl:=aT List.length hx;simp only[bl,bD,hG]at hl;exact go [11,17]<|aH zQ<|go [11,17]<|af rfl (Sub.int (by exact hp.symm))
         ·obtain⟨e9,fy⟩:=GQ hx;subst e9;refine go [11,17]<|aM zQ<|rg<|.mv rfl rfl<|.P rfl (iN (n:=12) 118 2 underlying121 sizeOf118 rfl rfl)<|.P rfl (sl (o2:=2+pre.length) underlying118 sizeOf4 rfl rfl zO zO zO)<|.R rfl (iY isAgg4 rfl rfl (SQ zO))<|.nil<|go [11,17]<|br (fun cD=>?_) (fun cD=>?_)
          ·refine oP (ah call88 rfl (To (v:=⟨vw,vc,vh,some m,sG⟩) hf hk hr (n:=(pre.length:Int)) zO zO (by rw[q8,<-hh];assumption)))<|br (fun cW=>?_) (fun cW=>?_)
           ·exact af rfl (Sub.int (by exact Tp hp (by rw[q8,<-hh];assumption) zA))
           ·exact go [11,17]<|sd (ao zO)<|nx ⟨pre++[(pre.length:Int)],rest,by simp[hx],by exact Tq hp (by rw[q8,<-hh];assumption) zA⟩ zS (Le.mk rfl (.n 2 rfl rfl (.cons rfl (Sub.int zS) rfl .nil)) (.cons rfl rfl .nil))
          ·refine oP (ah call89 rfl (SN f (pre.length:Int) zO zO))<|br (fun fy=>?_) (fun fy=>?_)
           ·exact af rfl (Sub.int (by exact Ts hp (by rw[q8,<-hh];assumption) zA))
           ·exact go [11,17]<|sd (ao zO)<|nx ⟨pre++[(pre.length:Int)],rest,by simp[hx],by exact Tt hp (by rw[q8,<-hh];assumption) zA⟩ zS (Le.mk rfl (.n 2 rfl rfl (.cons rfl (Sub.int zS) rfl .nil)) (.cons rfl rfl .nil))
end Go.T
