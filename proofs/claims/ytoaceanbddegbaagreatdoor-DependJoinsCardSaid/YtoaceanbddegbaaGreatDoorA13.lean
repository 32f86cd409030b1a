/-
  Contracts of the functions that the statement reaches, and the logic in which they are proved (no condition): parts Core48, SpecD8, W88, Core49, W89, Core50, SpecD9, W90.
-/
import Derived.Test.YtoaceanbddegbaaGreatDoorA12
set_option linter.all false
namespace Go.T
open Go
variable[bT]
section
variable{P:Program} {env:Env} {dst:Option Tmp} {ty:TypeId} {pos:String} {au:Array Edge} {g:Option (Nat×Bool)}
theorem aiF{t kt et:TypeId}{x:Operand}{J:aa}(eZ:Nat)(hu:P.underlying t=some (.map kt et))(hx:env.op x=some (.raw (.map none)))(hid:J.get eZ=none):
  aq P ⟨dst,.range t x,ty,pos,au,g⟩ env J (.box eZ 0) ((eZ,.mn)::J):=
 .step fun O ρ a w af hv=>by
  have cp:=hv x (by simp[Op.operands]) _ hx;simp only[V]at cp;have hr:=run_range_nilMap (P:=P) w t kt et hu;refine⟨.pointer (some ⟨w.heap.size,0,none⟩),_,T.cv ρ eZ ⟨w.heap.size,0,0⟩,.inl ?_,Tr.born af hid (.mapIter none 0 #[] 0) rfl (fun i x h _=>h) (fun i h=>h) ?_,?_⟩
  ·simp only[execOp,cp];rw[Sem.run_bind,hr];rfl
  ·intro hk;show({w with heap:=w.heap.push (.mapIter none 0 #[] 0)}:World).heap[w.heap.size]?=_;simp
  ·simp only[V];exact⟨⟨w.heap.size,0,0⟩,by simp[T.cv],rfl⟩
theorem aiA{x:Operand}{eZ:Nat}{J:aa}(hx:env.op x=some (.box eZ 0))(hi:J.get eZ=some .mn):
  aq P ⟨dst,.next x false,ty,pos,au,g⟩ env J (.bl [.b false]) J:=
 .val fun O ρ a w af hv=>by
  have cp:=hv x (by simp[Op.operands]) _ hx;simp only[V]at cp;obtain⟨r,rD,e1⟩:=cp;obtain⟨r',jZ,_,hit⟩:=af.own eZ _ hi rfl;rw[rD]at jZ;cases jZ;have BH:w.heap[r.b]?=some (.mapIter none 0 #[] 0):=hit;have hr:(Instr.next (.pointer (some ⟨r.b,0,none⟩)) false ty).run P w=.ok (.tuple #[.bool false]) w:=by
   simp only[Instr.next,getObj,Sem.run_bind,Sem.run,BH,Result.andThen];rfl
  refine⟨.tuple #[.bool false],?_,by simp[V,Vs,D.b]⟩;simp only[execOp,e1];rw[Sem.run_bind,hr];rfl
end
section
variable{κ β:Type} [DecidableEq κ] {P:Program} {kt:TypeId} {kD:κ→D} {kV:κ→Value} {iN:κ→Prop} {vD:β→D}
variable{env:Env} {dst:Option Tmp} {ty:TypeId} {pos:String} {au:Array Edge} {g:Option (Nat×Bool)}
theorem aiu(hK:lu P kt kD kV iN){t et:TypeId}{x y:Operand}{m:List (κ×β)}{k:κ}{d:β}{kd md:D}{J:aa}{zv:Value}(hu:P.underlying t=some (.map kt et))(hz:∀w,(zeroValue et).run P w=.ok zv w)(uh:∀(w:World) O ρ,V w O ρ (vD d) zv)
  (hx:env.op x=some md)(Jr:md=vM kD vD m)(hy:env.op y=some kd)(rC:kd=kD k):
  aq P ⟨dst,.lookup t x y true,ty,pos,au,g⟩ env J (.bl [vD (fJ d m k),.b (kX m k)]) J:=
 .val fun O ρ a w af hv=>by
  subst rC;subst Jr;obtain⟨b,e1,nz⟩:=DF.1 (hv x (by simp[Op.operands]) _ hx);have eD:=hK.val (hv y (by simp[Op.operands]) _ hy);obtain⟨es,h4,h5,h6⟩:=Em hK nz;have rA:=fun b=>hK.check b k w eD.2;have jY:=hK.find k es.toList (m.map (·.1)) w h5.keys h6 eD.2;rcases Bp d k m 0 with⟨g1,g2,g3,_⟩|⟨j,gj,g1,g2,g3,_⟩
  ·refine⟨.tuple #[zv,.bool (kX m k)],?_,by simp only[V,Vs];exact⟨_,rfl,_,_,rfl,by rw[g3];exact uh _ _ _,_,_,rfl,rfl,rfl⟩⟩;rw[g1]at jY;rw[g2];simp[execOp,e1,eD.1,Instr.lookup,cg hu,MapKept.run_getObj_map h4,rA,jY,hz]
  ·obtain⟨e,k1,k2,k3,k4⟩:=h5.at_ j k _ g2;refine⟨.tuple #[e.val,.bool (kX m k)],?_,by simp only[V,Vs];exact⟨_,rfl,_,_,rfl,V.mono (Kept.refl _ _) (AK ρ) _ _ k4,_,_,rfl,rfl,rfl⟩⟩;rw[g1]at jY;simp only[Option.map_some,Nat.zero_add,Array.getElem?_toList,k1,Option.getD_some]at jY;rw[g3];simp[execOp,e1,eD.1,Instr.lookup,cg hu,MapKept.run_getObj_map h4,rA,jY]
end
def aZ(listed:Array Bool)(i:Nat):Bool:=listed.getD i false
theorem gd{listed:Array Bool}{i j:Nat}(hi:i<listed.size):aZ (listed.setIfInBounds i true) j=if i=j then true else aZ listed j:=by
 unfold aZ;rw[Array.getD_eq_getD_getElem?,Array.getD_eq_getD_getElem?,Array.getElem?_setIfInBounds];split
 ·simp[hi]
 ·rfl
theorem F_{ops:Array Oper}{listed:Array Bool}{i:Nat}(hs:listed.size=ops.size)(h:i∈Region.ready .any ops listed):i<ops.size∧aZ listed i=false∧∀o,ops[i]?=some o→∀e∈o.after,Region.binds .any e=true→aZ listed e.on=true:=by
 unfold Region.ready at h;rw[List.mem_filter,List.mem_range,Bool.and_eq_true]at h;obtain⟨h1,h2,h3⟩:=h;refine⟨h1,?_,fun o ho e he hb=>?_⟩
 ·unfold aZ;have hi:i<listed.size:=by omega
  rw[Array.getD_eq_getD_getElem?,Array.getElem?_eq_getElem hi]at h2⊢;simpa using h2
 ·rw[ho]at h3;simp only[Option.map_some,Option.getD_some]at h3;have:=Array.all_eq_true'.1 h3 e he;rw[hb]at this;simpa[aZ]using this
def A7(ops:Array Oper):Bool:=(List.range ops.size).all fun i=>((ops[i]?).map fun o=>o.after.all fun e=>!Region.binds .any e||Nat.blt e.on i).getD true
theorem Un{ops:Array Oper}{listed:Array Bool}(hs:listed.size=ops.size)(hb:A7 ops=true)(h:Region.ready .any ops listed=[]):∀i,i<ops.size→aZ listed i=true:=by
 intro i;induction i using Nat.strongRecOn with
 |_ i ih=>
  intro hi;cases e:aZ listed i with
  |true=>rfl
  |false=>
   exfalso;have:i∈Region.ready .any ops listed:=by
    unfold Region.ready;rw[List.mem_filter,List.mem_range,Bool.and_eq_true];have nw:i<listed.size:=by omega
    refine⟨hi,?_,?_⟩
    ·unfold aZ at e;rw[Array.getD_eq_getD_getElem?,Array.getElem?_eq_getElem nw]at e⊢;simpa using e
    ·rw[Array.getElem?_eq_getElem hi];simp only[Option.map_some,Option.getD_some];rw[Array.all_eq_true'];intro x hx;have h1:=List.all_eq_true.1 hb i (List.mem_range.2 hi);rw[Array.getElem?_eq_getElem hi]at h1;simp only[Option.map_some,Option.getD_some]at h1;have h2:=Array.all_eq_true'.1 h1 x hx;cases iG:Region.binds .any x with
     |false=>simp
     |true=>
      rw[iG]at h2;have h3:x.on<i:=by simpa[Nat.blt_eq]using h2
      have h4:=ih x.on h3 zO;unfold aZ at h4;simp[h4]
   rw[h]at this;cases this
def wD(listed:Array Bool)(n:Nat):Nat:=(List.range n).countP fun i=>!aZ listed i
theorem VO{listed:Array Bool}{n i:Nat}(hi:i<n)(h:aZ listed i=false):0<wD listed n:=List.countP_pos_iff.2 ⟨i,List.mem_range.2 hi,by simp[h]⟩
theorem VP{listed:Array Bool}{n i:Nat}(hi:i<n)(hs:n=listed.size)(h:aZ listed i=false):wD (listed.setIfInBounds i true) n+1≤wD listed n:=by
 unfold wD;have key:∀l:List Nat,l.Nodup→i∈l→(l.countP fun j=>!aZ (listed.setIfInBounds i true) j)+1≤l.countP fun j=>!aZ listed j:=by
  intro l;induction l with
  |nil=>intro _ hm;cases hm
  |cons a l ih=>
   intro hn hm;rw[List.nodup_cons]at hn;simp only[List.countP_cons];by_cases e:i=a
   ·subst e;have qH:(l.countP fun j=>!aZ (listed.setIfInBounds i true) j)=l.countP fun j=>!aZ listed j:=by
     apply List.countP_congr;intro x hx;rw[gd zO,if_neg (by rintro rfl;exact hn.1 hx)]
    rw[qH,gd zO,if_pos rfl,h];simp
   ·have Jp:i∈l:=(List.mem_cons.1 hm).resolve_left e;have:=ih hn.2 Jp;rw[gd zO,if_neg e];omega
 exact key _ List.nodup_range (List.mem_range.2 hi)
section
variable{P:Program} {F:Fr} {ops:Array Oper} {K:Env→aa→Prop}
theorem j7.bC{eF:Nat}{listed:Array Bool}{env aS:Env}{J ai:aa}(h:Le F env J aS ai)(k:j7 P F ops K eF listed aS ai):j7 P F ops K eF listed env J:=⟨fun C Q hQ a w hs=>k.out C Q hQ a w (h.out C a w hs)⟩
def G2(P:Program)(F:Fr)(ops:Array Oper)(I:Array Bool→Env→aa→Prop)(i:Nat)(o:Oper):Prop:=
 ∀listed env J,listed.size=ops.size→I listed env J→aZ listed i=false→(∀e∈o.after,Region.binds .any e=true→aZ listed e.on=true)→
  ∃d ai fH dn,eQ F.N o.dst=true∧On ops env o∧aq P o env J d ai∧Le F (env.put o.dst d) ai fH dn∧I (listed.setIfInBounds i true) fH dn
def wP(P:Program)(F:Fr)(ops:Array Oper)(I:Array Bool→Env→aa→Prop):Nat→List Oper→Prop
 |_,[]=>True
 |i,o::l=>G2 P F ops I i o∧wP P F ops I (i+1) l
theorem wP.get{I:Array Bool→Env→aa→Prop}:∀{l:List Oper}{k i:Nat}{o:Oper},wP P F ops I k l→l[i]?=some o→G2 P F ops I (k+i) o
 |[],k,i,o,_,h=>by simp at h
 |x::l,k,0,o,hs,h=>by simp at h;subst h;exact hs.1
 |x::l,k,i+1,o,hs,h=>by
  have:=wP.get hs.2 (i:=i) (o:=o) (by simpa using h);rwa[Nat.add_right_comm,Nat.add_assoc]at this
theorem j7.inv{I:Array Bool→Env→aa→Prop}(hb:A7 ops=true)(t_:∀listed env J,listed.size=ops.size→(∀i,i<ops.size→aZ listed i=true)→I listed env J→K env J)
  (bd:wP P F ops I 0 ops.toList):∀(eF:Nat)(listed:Array Bool)(env:Env)(J:aa),listed.size=ops.size→wD listed ops.size≤eF→I listed env J→j7 P F ops K eF listed env J:=by
 intro eF;induction eF with
 |zero=>
  intro listed env J hs hf hI;have eI:∀i,i<ops.size→aZ listed i=true:=fun i hi=>by
   cases e:aZ listed i with
   |true=>rfl
   |false=>have:=VO hi e;omega
  refine j7.nil ?_ (t_ listed env J hs eI hI);rw[List.eq_nil_iff_forall_not_mem];intro i hi;have:=F_ hs hi;rw[eI i this.1]at this;cases this.2.1
 |succ eF ih=>
  intro listed env J hs hf hI;refine⟨fun C Q hQ a w BV=>⟨fun hr=>hQ a w env J (t_ listed env J hs (Un hs hb hr) hI) BV,fun i hi=>?_⟩⟩;have hl:Region.ready .any ops listed≠[]:=fun e=>by rw[e]at hi;cases hi
  have hT:j7 P F ops K (eF+1) listed env J:=j7.step rfl hl (fun i hi=>by
   obtain⟨h1,h2,h3⟩:=F_ hs hi;have ho:ops[i]?=some ops[i]:=Array.getElem?_eq_getElem h1;have h4:G2 P F ops I (0+i) ops[i]:=wP.get bd (by simpa using ho);rw[Nat.zero_add]at h4;obtain⟨d,ai,fH,dn,q1,q2,q3,q4,q5⟩:=h4 listed env J hs hI h2 (h3 _ ho);exact Dy.mk' ho q1 q2 q3 (.bC q4 (ih _ _ _ (by simpa using hs) (by have:=VP h1 hs.symm h2;omega) q5)))
  exact(hT.out C Q hQ a w BV).2 i hi
theorem U.Uq{ι:Type}{A:ι→Prop}{fH:ι→Env}{dn:ι→aa}{env:Env}{J:aa}{Q:Exit→Env→aa→Prop}{cs:List Code}{id:Nat}{l:List Oper}{c:Code}(I:Array Bool→Env→aa→Prop)(hm:P.follows .mixedOrders=true)(hb:A7 l.toArray=true)
  (h0:I (Array.replicate l.length false) env J)(bd:wP P F l.toArray I 0 l)(t_:∀listed e o,listed.size=l.length→(∀i,i<l.length→aZ listed i=true)→I listed e o→∃i,A i∧Le F e o (fH i) (dn i))
  (k:∀i,A i→U P F (c::cs) Q (fH i) (dn i)):U P F (.region id l.toArray true::c::cs) Q env J:=⟨⟨fun C a w hs=>by
 refine wpIn_region_any hm ?_;have hT:j7 P F l.toArray (fun e o=>∃i,A i∧Le F e o (fH i) (dn i)) l.length (Array.replicate l.length false) env J:=
  j7.inv (I:=I) hb (by simpa using t_) (by simpa using bd) l.length _ env J zS (by
   have:wD (Array.replicate l.length false) l.toArray.size≤(List.range l.toArray.size).length:=List.countP_le_length;simpa using this) h0
 have:=hT.out C (fun e a' w'=>∃aS ai,kr (pI P F (c::cs) Q) Q e aS ai∧St F C aS ai a' w') (fun a w aS ai hk hs=>by
  obtain⟨i,hA,gv⟩:=hk;exact⟨fH i,dn i,(k i hA).out,gv.out C a w hs⟩) a _ hs.drew
 simpa using this⟩⟩
end
end Go.T
namespace Go.T
open Go
abbrev nU:=Option (Bool×Bool)
abbrev jo:=List (Int×nU)
@[reducible] def dR(w:ae)(c:Int)(h:Nat→Bool)(num:D)(code:Bool):List D:=
 [.str w,.i c,.b (h 0),.b (h 1),.b (h 2),.b (h 3),.b (h 4),.b (h 5),.b (h 6),.b (h 7),.b (h 8),.b (h 9),.b (h 10),.b (h 11),.b (h 12),num,.b code]
def C8(h:Nat→Bool)(i:Nat):Nat→Bool:=fun j=>decide (j=i)||h j
theorem Nk{i:Int}(h0:0≤i)(h1:i<13):i=0∨i=1∨i=2∨i=3∨i=4∨i=5∨i=6∨i=7∨i=8∨i=9∨i=10∨i=11∨i=12:=by omega
theorem H2{w:ae}{c:Int}{h:Nat→Bool}{num:D}{code:Bool}{i:Int}(h0:0≤i)(h1:i<13):(dR w c h num code).set (2+i.toNat) (.raw (.bool true))=dR w c (C8 h i.toNat) num code:=by
 rcases Nk h0 h1 with rfl|rfl|rfl|rfl|rfl|rfl|rfl|rfl|rfl|rfl|rfl|rfl|rfl<;>rfl
theorem aac{w:ae}{c:Int}{h:Nat→Bool}{num:D}{code:Bool}{i:Int}(h0:0≤i)(h1:i<13):(dR w c h num code)[2+i.toNat]?=some (.b (h i.toNat)):=by
 rcases Nk h0 h1 with rfl|rfl|rfl|rfl|rfl|rfl|rfl|rfl|rfl|rfl|rfl|rfl|rfl<;>rfl
theorem Eg{w:ae}{c:Int}{h h':Nat→Bool}{num:D}{code:Bool}(e:∀j,j<13→h j=h' j):dR w c h num code=dR w c h' num code:=by
 simp only[dR,e 0 zO,e 1 zO,e 2 zO,e 3 zO,e 4 zO,e 5 zO,e 6 zO,e 7 zO,e 8 zO,e 9 zO,e 10 zO,e 11 zO,e 12 zO]
def ca(m:jo)(more:List Int)(j:Nat):Bool:=m.any (fun p=>decide (p.1=(j:Int)))||more.any (fun n=>decide (n=(j:Int)))
def zm(m:jo)(seen:List Nat)(j:Nat):Bool:=seen.any fun i=>decide ((m[i]?.map (·.1))=some (j:Int))
theorem acy{m:jo}{seen:List Nat}{i:Nat}{k:Int}{v:nU}(h:m[i]?=some (k,v))(hk:0≤k)(j:Nat):zm m (seen++[i]) j=C8 (zm m seen) k.toNat j:=by
 unfold zm C8;rw[List.any_append];simp only[List.any_cons,List.any_nil,Bool.or_false,h,Option.map_some];rw[Bool.or_comm]
 congr 1
 rw[decide_eq_decide];simp only[Option.some.injEq];omega
theorem acx{m:jo}{seen:List Nat}(eI:∀j,j<m.length→j∈seen)(j:Nat):zm m seen j=m.any (fun p=>decide (p.1=(j:Int))):=by
 unfold zm;rw[Bool.eq_iff_iff,List.any_eq_true,List.any_eq_true];constructor
 ·rintro⟨i,hi,h⟩;have h:=of_decide_eq_true h;obtain⟨p,h1,h2⟩:=Option.map_eq_some_iff.1 h;exact⟨p,List.mem_of_getElem? h1,by simpa using h2⟩
 ·rintro⟨p,hp,h⟩;obtain⟨i,hi⟩:=List.getElem?_of_mem hp;exact⟨i,eI i (List.getElem?_eq_some_iff.1 hi).1,by rw[hi];simpa using h⟩
def zl(h:Nat→Bool)(pre:List Int)(j:Nat):Bool:=h j||pre.any fun n=>decide (n=(j:Int))
theorem Qa{h:Nat→Bool}{pre:List Int}{n:Int}(hn:0≤n)(j:Nat):zl h (pre++[n]) j=C8 (zl h pre) n.toNat j:=by
 unfold zl C8;rw[List.any_append];simp only[List.any_cons,List.any_nil,Bool.or_false];have:decide (n=(j:Int))=decide (j=n.toNat):=by rw[decide_eq_decide];omega
 rw[this,←Bool.or_assoc,Bool.or_comm]
theorem Gk{seen:List Nat}{j:Nat}(hn:seen.Nodup)(hj:j∉seen):(seen++[j]).Nodup:=by
 rw[List.nodup_append];exact⟨hn,by simp,by simp;intro a ha e;subst e;exact hj ha⟩
theorem afz{m:jo}{seen:List Nat}{j:Nat}{kv:Int×nU}(h:m[j]?=some kv)(bN:∀j∈seen,j<m.length):∀i∈seen++[j],i<m.length:=by
 intro i hi;rcases List.mem_append.1 hi with hi|hi
 ·exact bN i hi
 ·simp at hi;subst hi;exact(List.getElem?_eq_some_iff.1 h).1
open Go.Proofs Go.Proofs.Tryz
set_option maxRecDepth 20000
theorem e_:lu Tryz.prog 3 (fun n:Int=>D.raw (.int .i64 n)) (Value.int .i64) (fun _=>True):=aex underlying3
@[reducible] def bR:nU→D
 |none=>.raw .nilFunc
 |some (a,b)=>.fn (.func 187) [] [.bz [.b a],.bz [.b b]]
theorem J'(p:nU):(bR p).bk=true:=by
 cases p with
 |none=>rfl
 |some q=>rfl
@[reducible] def ej(m:jo):D:=vM (fun n:Int=>D.raw (.int .i64 n)) bR m
structure aeD(w:ae)(c:Int)(m:jo)(more:List Int)where
 seen:List Nat
 fB:seen.Nodup
 bN:∀j∈seen,j<m.length
structure aeE(w:ae)(c:Int)(m:jo)(more:List Int)where
 pre:List Int
 rest:List Int
 hx:more=pre++rest
theorem qM(w:ae)(c:Int)(m:jo)(more:List Int)(zy:∀n∈more,0≤n∧n<13)(QF:more.length≤100)(hm:∀p∈m,0≤p.1∧p.1<13):Fc Tryz.prog 136 [.str w,.i c,(ej m),oK more] (.agg (dR w c (ca m more) (ej m) false)):=by
 refine Fc.j2 func136 rfl ntmps136 rfl rfl rfl ?_;refine U.seq<|rg<|.W rfl (ln 0 zeroValue172 rfl)<|.nil<|U.seq<|rg<|.mv rfl rfl<|.mv rfl rfl<|.mv rfl rfl<|.P rfl (tj (pl:=#[(0,1),(1,1),(2,13),(15,1),(16,1)]) underlying172 zeroValue172 (fun w=>by kernel_rfl) rfl rfl)<|.W rfl (ln 1 zeroValue172 rfl)<|.W rfl (mJ sizeOf172 rfl rfl rfl rfl rfl rfl)<|.nil<|U.seq<|U.seq<|rg<|.mv rfl rfl<|.W rfl (aiE 2 underlying170 rfl rfl)<|.nil<|U.block<|U.loop (ι:=aeD w c m more) (fun sx=>[(0,.str w),(1,.i c),(2,(ej m)),(3,oK more),(8,.box 0 0),(9,.box 1 0),(18,.box 2 0)]) (fun sx=>[(2,.mj (m.map fun p=>(fun n:Int=>D.raw (.int .i64 n)) p.1) (m.map fun p=>bR p.2) sx.seen),(1,.cells (dR w c (zm m sx.seen) (ej m) false)),(0,.cells [.str [],.raw (.int .i64 0),.b false,.b false,.b false,.b false,.b false,.b false,.b false,.b false,.b false,.b false,.b false,.b false,.b false,.raw (.map none),.b false])]) (fun sx=>yz m.length sx.seen) ⟨[],List.nodup_nil,by simp⟩ ?_ ?_
 ·exact Le.mk rfl (.n 7 rfl rfl .nil) (.cons rfl rfl (.cons rfl rfl (.cons rfl rfl .nil)))
 ·rintro⟨seen,fB,bN⟩;try dsimp only
  refine U.seq (U.wo ?_);refine Tx.n rfl trivial (aiz e_ (vD:=bR) rfl rfl) (fun nb dz=>?_);rcases nb with _|⟨nj,nk,nv⟩
  ·dsimp only[s9,uC,uB];refine Tx.q rfl trivial (iJ rfl rfl _)<|Tx.nil<|U.seq<|U.fG rfl rfl<|U.exit (fc (eY ?_));refine U.seq<|U.seq<|rg<|.mv rfl rfl<|.P rfl (cC underlying67 rfl)<|.mv rfl rfl<|.nil<|U.block<|U.loop (ι:=aeE w c m more) (fun sx=>[(3,oK more),(8,.box 0 0),(9,.box 1 0),(26,oK more),(27,.i more.length),(28,.i sx.pre.length)]) (fun sx=>[(1,.cells (dR w c (zl (fun j=>m.any fun p=>decide (p.1=(j:Int))) sx.pre) (ej m) false)),(0,.cells [.str [],.raw (.int .i64 0),.b false,.b false,.b false,.b false,.b false,.b false,.b false,.b false,.b false,.b false,.b false,.b false,.b false,.raw (.map none),.b false])]) (fun sx=>sx.rest.length) ⟨[],_,rfl⟩ ?_ ?_
   ·exact Le.mk rfl (.n 4 rfl rfl (.cons rfl (Sub.int zS) rfl (.s rfl rfl .nil))) (.eq rfl (by(congr 1;exact Eg fun j _=>(acx dz j).trans (by simp[zl]))) rfl (.cons rfl rfl .nil))
   ·rintro⟨pre,rest,hx⟩;try dsimp only
    rcases lc hx with⟨rfl,hl⟩|⟨x,rest,rfl,hl⟩
    ·obtain rfl:more=pre:=by simpa using hx
     refine U.seq<|rg<|.P rfl (bY rfl rfl)<|.nil<|U.seq<|U.fG rfl zS<|U.exit (fc (eY ?_));refine U.seq<|rg<|.R rfl (AA isAgg172 sizeOf172 rfl rfl rfl)<|.W rfl (mJ sizeOf172 rfl rfl rfl rfl rfl rfl)<|.nil<|U.ret (?_);exact Rd.cA results136 isAgg172 sizeOf172 rfl rfl rfl (Sub.agg (.r (.cons (Sub.refl _) (.r (.cons (Sub.refl _) (.r (.cons (Sub.refl _) (.r (.cons (Sub.refl _) (.r (.cons (Sub.refl _) (.r (.cons (Sub.refl _) (.r (.cons (Sub.refl _) (.r (.cons (Sub.refl _) (.r .nil))))))))))))))))))
    ·have ug:=zy x (by rw[hx];simp);refine U.seq<|rg<|.P rfl (bY rfl rfl)<|.nil<|U.seq<|U.iY rfl zQ<|U.skip<|U.seq<|U.block<|U.seq<|rg<|.P rfl (iR underlying67 sizeOf3 rfl rfl zO (bb (fun n=>[D.i n]) hx rfl))<|.P rfl (cG isAgg3 rfl)<|.ag rfl rfl<|.nil<|rg<|.mv rfl rfl<|.P rfl (bJ (n:=12) 169 2 underlying172 sizeOf169 rfl rfl)<|.P rfl (CY (o2:=2+x.toNat) underlying169 sizeOf4 rfl rfl ug.1 zO zO)<|.W rfl (qX sizeOf4 rfl rfl rfl rfl zQ)<|.nil<|U.nil (dv ?_);refine rg<|.P rfl (cn rfl rfl (aB zO))<|.mv rfl rfl<|.nil<|U.nil (dx ?_);exact⟨⟨pre++[x],rest,by simp[hx]⟩,by simp,Le.mk rfl (.n 5 rfl rfl (.cons rfl (Sub.int zS) rfl .nil)) (.eq rfl (by(congr 1;rw[H2 ug.1 ug.2];exact Eg fun j _=>(Qa ug.1 j).symm)) rfl (.cons rfl rfl .nil))⟩
  ·dsimp only[s9,uC,uB];refine Tx.q rfl trivial (iJ rfl rfl _)<|Tx.nil<|U.seq<|U.iY rfl rfl<|U.skip<|U.block<|U.seq<|rg<|.R rfl (aii e_ (vD:=bR) rfl rfl (And.left dz))<|.P rfl (iJ rfl rfl)<|.ag rfl rfl<|.nil<|rg<|.mv rfl rfl<|.P rfl (bJ (n:=12) 169 2 underlying172 sizeOf169 rfl rfl)<|.P rfl (CY (o2:=2+nk.toNat) underlying169 sizeOf4 rfl rfl (hm _ (List.mem_of_getElem? (And.left dz))).1 (by have:=(hm _ (List.mem_of_getElem? (And.left dz))).2;omega) zO)<|.W rfl (qX sizeOf4 rfl rfl rfl rfl (by(have:=(hm _ (List.mem_of_getElem? (And.left dz))).2;have:=(hm _ (List.mem_of_getElem? (And.left dz))).1;simp;omega)))<|.nil<|U.nil (dv ?_);refine U.nil (dx ?_);exact⟨⟨seen++[nj],Gk fB (And.right dz),afz (And.left dz) bN⟩,by exact GI ((List.getElem?_eq_some_iff.1 (And.left dz)).1) (And.right dz),Le.mk rfl (.n 7 rfl rfl .nil) (.cons rfl rfl (.eq rfl (by(congr 1;rw[H2 (hm _ (List.mem_of_getElem? (And.left dz))).1 (hm _ (List.mem_of_getElem? (And.left dz))).2];exact Eg fun j _=>(acy (And.left dz) (hm _ (List.mem_of_getElem? (And.left dz))).1 j).symm)) rfl (.cons rfl rfl .nil)))⟩
structure aeB(w:ae)(c:Int)(more:List Int)where
 u:Unit
structure aeC(w:ae)(c:Int)(more:List Int)where
 pre:List Int
 rest:List Int
 hx:more=pre++rest
theorem RC(w:ae)(c:Int)(more:List Int)(zy:∀n∈more,0≤n∧n<13)(QF:more.length≤100):Fc Tryz.prog 136 [.str w,.i c,(D.raw (.map none)),oK more] (.agg (dR w c (ca [] more) (D.raw (.map none)) false)):=by
 refine Fc.j2 func136 rfl ntmps136 rfl rfl rfl ?_;refine U.seq<|rg<|.W rfl (ln 0 zeroValue172 rfl)<|.nil<|U.seq<|rg<|.mv rfl rfl<|.mv rfl rfl<|.mv rfl rfl<|.P rfl (tj (pl:=#[(0,1),(1,1),(2,13),(15,1),(16,1)]) underlying172 zeroValue172 (fun w=>by kernel_rfl) rfl rfl)<|.W rfl (ln 1 zeroValue172 rfl)<|.W rfl (mJ sizeOf172 rfl rfl rfl rfl rfl rfl)<|.nil<|U.seq<|U.seq<|rg<|.mv rfl rfl<|.W rfl (aiF 2 underlying170 rfl rfl)<|.nil<|U.block<|U.loop (ι:=aeB w c more) (fun sx=>[(0,.str w),(1,.i c),(2,(D.raw (.map none))),(3,oK more),(8,.box 0 0),(9,.box 1 0),(18,.box 2 0)]) (fun sx=>[(2,.mn),(1,.cells (dR w c (fun _=>false) (D.raw (.map none)) false)),(0,.cells [.str [],.raw (.int .i64 0),.b false,.b false,.b false,.b false,.b false,.b false,.b false,.b false,.b false,.b false,.b false,.b false,.b false,.raw (.map none),.b false])]) (fun sx=>0) ⟨()⟩ ?_ ?_
 ·exact Le.mk rfl (.n 7 rfl rfl .nil) (.cons rfl rfl (.cons rfl rfl (.cons rfl rfl .nil)))
 ·rintro⟨u⟩;try dsimp only
  skip
  ·skip;refine U.seq<|rg<|.R rfl (aiA rfl rfl)<|.P rfl (iJ rfl rfl)<|.nil<|U.seq<|U.fG rfl rfl<|U.exit (fc (eY ?_));refine U.seq<|U.seq<|rg<|.mv rfl rfl<|.P rfl (cC underlying67 rfl)<|.mv rfl rfl<|.nil<|U.block<|U.loop (ι:=aeC w c more) (fun sx=>[(3,oK more),(8,.box 0 0),(9,.box 1 0),(26,oK more),(27,.i more.length),(28,.i sx.pre.length)]) (fun sx=>[(1,.cells (dR w c (zl (fun _=>false) sx.pre) (D.raw (.map none)) false)),(0,.cells [.str [],.raw (.int .i64 0),.b false,.b false,.b false,.b false,.b false,.b false,.b false,.b false,.b false,.b false,.b false,.b false,.b false,.raw (.map none),.b false])]) (fun sx=>sx.rest.length) ⟨[],_,rfl⟩ ?_ ?_
   ·exact Le.mk rfl (.n 4 rfl rfl (.cons rfl (Sub.int zS) rfl (.s rfl rfl .nil))) (.cons rfl rfl (.cons rfl rfl .nil))
   ·rintro⟨pre,rest,hx⟩;try dsimp only
    rcases lc hx with⟨rfl,hl⟩|⟨x,rest,rfl,hl⟩
    ·obtain rfl:more=pre:=by simpa using hx
     refine U.seq<|rg<|.P rfl (bY rfl rfl)<|.nil<|U.seq<|U.fG rfl zS<|U.exit (fc (eY ?_));refine U.seq<|rg<|.R rfl (AA isAgg172 sizeOf172 rfl rfl rfl)<|.W rfl (mJ sizeOf172 rfl rfl rfl rfl rfl rfl)<|.nil<|U.ret (?_);exact Rd.cA results136 isAgg172 sizeOf172 rfl rfl rfl (Sub.agg (.r (.cons (Sub.refl _) (.r (.cons (Sub.refl _) (.r (.cons (Sub.refl _) (.r (.cons (Sub.refl _) (.r (.cons (Sub.refl _) (.r (.cons (Sub.refl _) (.r (.cons (Sub.refl _) (.r (.cons (Sub.refl _) (.r .nil))))))))))))))))))
    ·have ug:=zy x (by rw[hx];simp);refine U.seq<|rg<|.P rfl (bY rfl rfl)<|.nil<|U.seq<|U.iY rfl zQ<|U.skip<|U.seq<|U.block<|U.seq<|rg<|.P rfl (iR underlying67 sizeOf3 rfl rfl zO (bb (fun n=>[D.i n]) hx rfl))<|.P rfl (cG isAgg3 rfl)<|.ag rfl rfl<|.nil<|rg<|.mv rfl rfl<|.P rfl (bJ (n:=12) 169 2 underlying172 sizeOf169 rfl rfl)<|.P rfl (CY (o2:=2+x.toNat) underlying169 sizeOf4 rfl rfl ug.1 zO zO)<|.W rfl (qX sizeOf4 rfl rfl rfl rfl zQ)<|.nil<|U.nil (dv ?_);refine rg<|.P rfl (cn rfl rfl (aB zO))<|.mv rfl rfl<|.nil<|U.nil (dx ?_);exact⟨⟨pre++[x],rest,by simp[hx]⟩,by simp,Le.mk rfl (.n 5 rfl rfl (.cons rfl (Sub.int zS) rfl .nil)) (.eq rfl (by(congr 1;rw[H2 ug.1 ug.2];exact Eg fun j _=>(Qa ug.1 j).symm)) rfl (.cons rfl rfl .nil))⟩
end Go.T
namespace Go.T
open Go
variable[bT]
theorem aq.insert{P:Program}{dst:Option Tmp}{t:TypeId}{x y z:Operand}{ty:TypeId}{pos:String}{au:Array Edge}{g:Option (Nat×Bool)}{env:Env}{J:aa}{d:D}{ai:aa}
  (h:aq P ⟨dst,.mapUpdate t x y z,ty,pos,au,g⟩ env J d ai):aq P ⟨dst,.insert t x y z,ty,pos,au,g⟩ env J d ai:=fun O ρ a w af hg hv=>h O ρ a w af hg hv
end Go.T
namespace Go.T
open Go Go.Proofs Go.Proofs.Tryz
set_option maxRecDepth 20000
theorem V2(w:ae)(c:Int)(h:Nat→Bool)(m:jo):Fc Tryz.prog 138 [.agg (dR w c h (ej m) false)] (.agg (dR w c h (ej m) true)):=by
 refine Fc.j2 func138 rfl ntmps138 rfl rfl rfl ?_;refine go [99999]<|U.ret (?_);exact Rd.cA results138 isAgg172 sizeOf172 rfl rfl rfl (Sub.agg (.r (.cons (Sub.refl _) (.r (.cons (Sub.refl _) (.r (.cons (Sub.refl _) (.r (.cons (Sub.refl _) (.r (.cons (Sub.refl _) (.r (.cons (Sub.refl _) (.r (.cons (Sub.refl _) (.r (.cons (Sub.refl _) (.r .nil))))))))))))))))))
theorem A5(w:ae):Fc Tryz.prog 137 [.str w,.bz [.fn (.func 136) [] []],.bz [bR (some (true,false))]] (.agg (dR w 2 (ca [((5:Int),(some (true,false):nU))] [2]) (ej [((5:Int),(some (true,false):nU))]) false)):=by
 refine Fc.j2 func137 rfl ntmps137 rfl rfl rfl ?_;refine go [1,99999]<|U.wo<|Tx.q rfl trivial (cG isAgg227 rfl _)<|Tx.q rfl trivial (bG rfl _)<|Tx.q rfl trivial (oI 1 (fun n:Int=>D.raw (.int .i64 n)) (bR) rfl)<|Tx.q rfl trivial (cG isAgg225 rfl _)<|Tx.q rfl trivial (aq.insert (fb e_ (vD:=bR) (k:=(5:Int)) (v:=(some (true,false))) underlying170 rfl rfl rfl rfl rfl rfl))<|Tx.q rfl trivial (bG rfl _)<|Tx.q rfl trivial (cm (n:=1) (rows:=[[D.i 2]]) underlying67 sizeOf3 rfl rfl rfl zeroValue3 rfl rfl rfl rfl rfl rfl rfl _)<|Tx.bC (Le.Eu (kD:=(fun n:Int=>D.raw (.int .i64 n))) (vD:=bR) (m:=[((5:Int),(some (true,false):nU))]) 9 1 rfl rfl (fun _=>rfl) J')<|Tx.q rfl trivial (cR call136 rfl rfl (qM w 2 [((5:Int),(some (true,false):nU))] [2] zS zS zS).sub _)<|Tx.q rfl trivial (mJ sizeOf172 rfl rfl rfl rfl rfl rfl)<|Tx.nil<|go [1,99999]<|U.ret (?_);exact Rd.cA results137 isAgg172 sizeOf172 rfl rfl rfl (Sub.agg (.r (.cons (Sub.refl _) (.r (.cons (Sub.refl _) (.r (.cons (Sub.refl _) (.r (.cons (Sub.refl _) (.r (.cons (Sub.refl _) (.r (.cons (Sub.refl _) (.r (.cons (Sub.refl _) (.r (.cons (Sub.refl _) (.r .nil))))))))))))))))))
end Go.T
namespace Go.T
open Go
variable[bT]
abbrev iH:Int→D:=fun n=>.raw (.int .i64 n)
theorem ajF{β:Type}{m:List (Int×β)}{k:Int}{v:β}(h:k∉m.map (·.1)):fE m k v=m++[(k,v)]:=by
 induction m with
 |nil=>rfl
 |cons p r ih=>
  obtain⟨a,u⟩:=p;simp only[List.map_cons,List.mem_cons,not_or]at h;simp only[fE,if_neg h.1,ih h.2,List.cons_append]
def m'(listed:Array Bool)(ins:List (Nat×Int)):List Int:=(ins.filter fun e=>aZ listed e.1).map (·.2)
theorem D_{listed:Array Bool}{i:Nat}{ins:List (Nat×Int)}(hi:i<listed.size)(h:i∉ins.map (·.1)):m' (listed.setIfInBounds i true) ins=m' listed ins:=by
 unfold m'
 congr 1
 apply List.filter_congr;intro e he;have aG:¬i=e.1:=fun e'=>h (by rw[e'];exact List.mem_map_of_mem he);rw[gd hi,if_neg aG]
theorem ZT{listed:Array Bool}{i:Nat}{k:Int}{ins:List (Nat×Int)}(hi:i<listed.size)(hl:aZ listed i=false)(hm:(i,k)∈ins)(hn:(ins.map (·.1)).Nodup):(m' (listed.setIfInBounds i true) ins).Perm (m' listed ins++[k]):=by
 induction ins with
 |nil=>cases hm
 |cons e r ih=>
  rw[List.map_cons,List.nodup_cons]at hn;by_cases h:i=e.1
  ·have hk:k=e.2:=by
    rcases List.mem_cons.1 hm with rfl|hm
    ·rfl
    ·exact absurd (h▸List.mem_map_of_mem (f:=Prod.fst) hm) hn.1
   have h1:=D_ (listed:=listed) hi (h▸hn.1:i∉r.map (·.1));unfold m' at h1⊢;rw[List.filter_cons,List.filter_cons,gd hi,if_pos h,←h,hl,if_pos rfl];simp only[Bool.false_eq_true,if_false,List.map_cons];rw[h1,←hk];exact(List.perm_append_comm (l₁:=[k]))
  ·have Jp:(i,k)∈r:=(List.mem_cons.1 hm).resolve_left (fun e'=>h (by rw[←e']));have h1:=ih Jp hn.2;unfold m' at h1⊢;rw[List.filter_cons,List.filter_cons,gd hi,if_neg h];split
   ·exact h1.cons e.2
   ·exact h1
structure nV{β:Type}(vD:β→D)(R:Int→β→Prop)(listed:Array Bool)(J:aa)(mk fz id:Nat)(ins:List (Nat×Int)):Prop where
 no:aZ listed mk=false→J.get id=none∧m' listed ins=[]
 yes:aZ listed mk=true→aZ listed fz=false→∃m:List (Int×β),J.get id=some (.mp (bZ iH vD m))∧(m.map (·.1)).Perm (m' listed ins)∧∀p∈m,R p.1 p.2
section
variable{β:Type} {vD:β→D} {R:Int→β→Prop} {listed:Array Bool} {J ai:aa} {mk fz id i:Nat} {ins:List (Nat×Int)}
theorem nV.other(h:nV vD R listed J mk fz id ins)(hi:i<listed.size)(h1:i≠mk)(h2:i≠fz)(h3:i∉ins.map (·.1))(ho:ai.get id=J.get id):nV vD R (listed.setIfInBounds i true) ai mk fz id ins:=by
 refine⟨fun e=>?_,fun e e'=>?_⟩
 ·rw[gd hi,if_neg h1]at e;rw[ho,D_ hi h3];exact h.no e
 ·rw[gd hi,if_neg h1]at e;rw[gd hi,if_neg h2]at e';rw[ho,D_ hi h3];exact h.yes e e'
theorem nV.make(h:nV vD R listed J i fz id ins)(hi:i<listed.size)(hl:aZ listed i=false)(h3:i∉ins.map (·.1)):nV vD R (listed.setIfInBounds i true) ((id,.mp (bZ iH vD []))::J) i fz id ins:=by
 refine⟨fun e=>?_,fun _ _=>⟨[],by simp[aa.bf],?_,by simp⟩⟩
 ·rw[gd hi,if_pos rfl]at e;cases e
 ·rw[D_ hi h3,(h.no hl).2];simp
theorem nV.insert{k:Int}{v:β}{m:List (Int×β)}(h:nV vD R listed J mk fz id ins)(hi:i<listed.size)(hl:aZ listed i=false)(h1:i≠mk)(h2:i≠fz)(hm:(i,k)∈ins)(hn:(ins.map (·.1)).Nodup)(hk:(ins.map (·.2)).Nodup)
  (ho:J.get id=some (.mp (bZ iH vD m)))(hp:(m.map (·.1)).Perm (m' listed ins))(hR:∀p∈m,R p.1 p.2)(hv:R k v):nV vD R (listed.setIfInBounds i true) (J.set id (.mp (bZ iH vD (fE m k v)))) mk fz id ins:=by
 have xC:k∉m.map (·.1):=by
  intro Jl;have h4:=hp.mem_iff.1 Jl;unfold m' at h4;obtain⟨e,he,np⟩:=List.mem_map.1 h4;rw[List.mem_filter]at he;have:e=(i,k):=by
   have h5:∀(l:List (Nat×Int)),(l.map (·.2)).Nodup→∀a∈l,∀b∈l,a.2=b.2→a=b:=by
    intro l;induction l with
    |nil=>intro _ a ha;cases ha
    |cons x l ih=>
     intro hn a ha b hb xo;rw[List.map_cons,List.nodup_cons]at hn;rcases List.mem_cons.1 ha with ea|sD<;>rcases List.mem_cons.1 hb with eb|rz
     ·rw[ea,eb]
     ·exact absurd (by rw[←ea,xo];exact List.mem_map_of_mem (f:=Prod.snd) rz) hn.1
     ·exact absurd (by rw[←eb,←xo];exact List.mem_map_of_mem (f:=Prod.snd) sD) hn.1
     ·exact ih hn.2 a sD b rz xo
   exact h5 ins hk e he.1 (i,k) hm np
  rw[this]at he;rw[hl]at he;cases he.2
 refine⟨fun e=>?_,fun _ _=>⟨m++[(k,v)],by rw[aa.eG,if_pos rfl,ajF xC],?_,fun p pT=>?_⟩⟩
 ·rw[gd hi,if_neg h1]at e;rw[(h.no e).1]at ho;cases ho
 ·rw[List.map_append];exact(hp.append_right [k]).trans (ZT hi hl hm hn).symm
 ·rcases List.mem_append.1 pT with pT|pT
  ·exact hR p pT
  ·simp at pT;subst pT;exact hv
theorem nV.freeze(h:nV vD R listed J mk i id ins)(hi:i<listed.size)(h1:aZ listed mk=true):nV vD R (listed.setIfInBounds i true) ai mk i id ins:=by
 refine⟨fun e=>?_,fun _ e=>?_⟩
 ·rw[gd hi]at e;split at e
  ·cases e
  ·rw[h1]at e;cases e
 ·rw[gd hi,if_pos rfl]at e;cases e
end
def qd(jA:List (Option Nat))(VK:Nat→D→Prop)(listed:Array Bool)(env:Env):Prop:=∀j t,aZ listed j=true→jA[j]?=some (some t)→∃d,env.get t=some d∧VK j d
def wX(jA:List (Option Nat)):Bool:=(List.range jA.length).all fun i=>(List.range jA.length).all fun j=>i==j||jA[i]?!=jA[j]?||jA[i]?==some none
theorem N9{jA:List (Option Nat)}(h:wX jA=true){i j t:Nat}(hi:jA[i]?=some (some t))(hj:jA[j]?=some (some t)):i=j:=by
 have li:=(List.getElem?_eq_some_iff.1 hi).1;have lj:=(List.getElem?_eq_some_iff.1 hj).1;have h1:=List.all_eq_true.1 (List.all_eq_true.1 h i (List.mem_range.2 li)) j (List.mem_range.2 lj);rw[hi,hj]at h1;simpa using h1
theorem qd.put{jA:List (Option Nat)}{VK:Nat→D→Prop}{listed:Array Bool}{env:Env}{i t:Nat}{d:D}(h:qd jA VK listed env)(hd:wX jA=true)(hi:i<listed.size)(ht:jA[i]?=some (some t))(hv:VK i d):qd jA VK (listed.setIfInBounds i true) ((t,d)::env):=by
 intro j t' hj rG;rw[Env.bf];by_cases e:t=t'
 ·subst e;obtain rfl:=N9 hd ht rG;exact⟨d,by rw[if_pos rfl],hv⟩
 ·rw[if_neg e];refine h j t' ?_ rG;rw[gd hi]at hj;split at hj
  ·rename_i e';subst e';rw[ht]at rG;cases rG;exact absurd rfl e
  ·exact hj
theorem qd.none{jA:List (Option Nat)}{VK:Nat→D→Prop}{listed:Array Bool}{env:Env}{i:Nat}(h:qd jA VK listed env)(hi:i<listed.size)(ht:jA[i]?=some Option.none):qd jA VK (listed.setIfInBounds i true) env:=by
 intro j t' hj rG;refine h j t' ?_ rG;rw[gd hi]at hj;split at hj
 ·rename_i e';subst e';rw[ht]at rG;cases rG
 ·exact hj
theorem dp{listed:Array Bool}{o:Oper}(hd:∀e∈o.after,Region.binds .any e=true→aZ listed e.on=true)(j:Nat)(h:(o.after.any fun e=>e.on==j&&Region.binds .any e)=true):aZ listed j=true:=by
 rw[Array.any_eq_true']at h;obtain⟨e,he,h2⟩:=h;rw[Bool.and_eq_true]at h2;have:=hd e he h2.2;rwa[show e.on=j by simpa using h2.1]at this
end Go.T
namespace Go.T
open Go
def dC(E m:jo):Prop:=(m.map (·.1)).Perm (E.map (·.1))∧∀p∈m,p∈E
theorem dC.refl(E:jo):dC E E:=⟨List.Perm.refl _,fun _ h=>h⟩
structure oS where
 w:ae
 c:Int
 h:Nat→Bool
 num:Option jo
 code:Bool
structure lO where
 w:ae
 c:Int
 num:Option jo
 more:List Int
 code:Bool
@[reducible] def lP:nU:=some (true,false)
@[reducible] def lL:nU:=some (false,false)
@[reducible] def lQ:nU:=some (false,true)
@[reducible] def eA:jo:=[(5,lP)]
@[reducible] def eT:jo:=[(4,lP),(5,lL),(6,lL)]
def jb(k:Int):Option lO:=
 if k=1 then some ⟨[100,101,112,111,115,105,116],2,some eA,[2],false⟩
 else if k=2 then some ⟨[119,105,116,104,100,114,97,119],2,some eA,[2],false⟩
 else if k=3 then some ⟨[98,117,121],3,some eT,[0],false⟩
 else if k=4 then some ⟨[115,101,108,108],3,some eT,[0,10],false⟩
 else if k=5 then some ⟨[105,110,99,111,109,101],1,some [(7,lP)],[0],false⟩
 else if k=6 then some ⟨[101,120,112,101,110,115,101],2,some eA,[2],false⟩
 else if k=7 then some ⟨[99,111,110,118,101,114,116],2,some [(4,lP),(5,lP)],[1,2],true⟩
 else if k=8 then some ⟨[115,112,108,105,116],1,some [(7,lL),(8,lP)],[0],false⟩
 else if k=9 then some ⟨[115,112,105,110,111,102,102],1,some [(7,lL),(8,lP),(9,lQ)],[0,1],false⟩
 else if k=10 then some ⟨[101,120,99,104,97,110,103,101],1,none,[0,11],false⟩
 else if k=11 then some ⟨[101,108,101,99,116],4,none,[0,3,12],false⟩
 else if k=12 then some ⟨[101,120,101,114,99,105,115,101],3,some [(4,lP),(7,lL),(8,lP)],[0,1],false⟩
 else if k=13 then some ⟨[99,97,112,105,116,97,108],1,some [(7,lP)],[0],false⟩
 else if k=14 then some ⟨[99,97,108,108],1,some [(7,lL)],[0],false⟩
 else if k=15 then some ⟨[112,114,105,99,101],4,some [(7,lL)],[0],false⟩
 else if k=16 then some ⟨[114,97,116,101],4,some [(8,lP)],[1,2],true⟩
 else if k=17 then some ⟨[105,115,115,117,101],2,some eA,[2],false⟩
 else if k=18 then some ⟨[99,97,110,99,101,108],2,some eA,[2],false⟩
 else none
def LH(r:lO)(v:oS):Prop:=
 match r.num with
 |none=>v.num=none∧v.h=ca [] r.more
 |some E=>∃m,dC E m∧v.num=some m∧v.h=ca m r.more
def r7(k:Int)(v:oS):Prop:=∃r,jb k=some r∧v.w=r.w∧v.c=r.c∧v.code=r.code∧LH r v
structure MQ where
 bo:Nat
 fz:Nat
 id:Nat
 ins:List (Nat×Int)
 E:jo
 deriving DecidableEq
def MQ.ok(q:MQ)(i:Nat):Bool:=!(i==q.bo)&&!(i==q.fz)&&!(q.ins.map (·.1)).contains i
theorem MQ.x5{q:MQ}{i:Nat}(h:q.ok i=true):i≠q.bo∧i≠q.fz∧i∉q.ins.map (·.1):=by
 unfold MQ.ok at h;rw[Bool.and_eq_true,Bool.and_eq_true]at h;refine⟨by simpa using h.1.1,by simpa using h.1.2,?_⟩;have:=h.2;intro hm;rw[List.contains_iff_mem.2 hm]at this;cases this
open Go.Proofs Go.Proofs.Tryz
set_option maxRecDepth 20000
def rJ:List (Option Nat):=[some 15,some 16,some 17,none,some 18,some 19,none,some 20,some 21,some 22,some 23,none,some 24,some 25,some 26,some 27,none,some 28,some 29,some 30,none,some 31,some 32,some 33,none,some 34,some 35,none,some 36,some 37,some 38,some 39,none,some 40,none,some 41,some 42,some 43,some 44,none,some 45,some 46,some 47,none,some 48,none,some 49,some 50,some 51,none,some 52,some 53,some 54,none,some 55,none,some 56,none,some 57,some 58,some 59,none,some 60,some 61,some 62,none,some 63,some 64,some 65,none,some 66,some 67,some 68,none,some 69,none,some 70,none,some 71,some 72,some 73,none,some 74,some 75,some 76,none,some 77,some 78,some 79,none,some 80,some 81,some 82,none,some 83,some 84,some 85,none,some 86,some 87,some 88,none,some 89,some 90,some 91,none,some 92,some 93,some 94,some 95,none,some 96,some 97,some 98,some 99,none,some 100,some 101,none,some 102,some 103,none,some 104,some 0]
def kVT:List (D→Prop):=[fun d=>d=.dj 50,
 fun d=>d=.fn (.func 137) [] [.bz [.fn (.func 136) [] []],.bz [bR (some (true,false))]],
 fun d=>∃m,dC eA m∧d=.agg (dR [100,101,112,111,115,105,116] 2 (ca m [2]) (ej m) false),
 fun _=>True,
 fun d=>d=.fn (.func 137) [] [.bz [.fn (.func 136) [] []],.bz [bR (some (true,false))]],
 fun d=>∃m,dC eA m∧d=.agg (dR [119,105,116,104,100,114,97,119] 2 (ca m [2]) (ej m) false),
 fun _=>True,
 fun d=>d=.fn (.func 136) [] [],
 fun d=>d=ej eT,
 fun d=>d=.snap 1 true [[D.i 0]],
 fun d=>∃m,dC eT m∧d=.agg (dR [98,117,121] 3 (ca m [0]) (ej m) false),
 fun _=>True,
 fun d=>d=.fn (.func 136) [] [],
 fun d=>d=ej eT,
 fun d=>d=.snap 1 true [[D.i 0],[D.i 10]],
 fun d=>∃m,dC eT m∧d=.agg (dR [115,101,108,108] 3 (ca m [0,10]) (ej m) false),
 fun _=>True,
 fun d=>d=.fn (.func 136) [] [],
 fun d=>d=.dj 51,
 fun d=>d=bR lP,
 fun _=>True,
 fun d=>∃m,dC [((7:Int),lP)] m∧d=ej m,
 fun d=>d=.snap 1 true [[D.i 0]],
 fun d=>∃m,dC [((7:Int),lP)] m∧d=.agg (dR [105,110,99,111,109,101] 1 (ca m [0]) (ej m) false),
 fun _=>True,
 fun d=>d=.fn (.func 137) [] [.bz [.fn (.func 136) [] []],.bz [bR (some (true,false))]],
 fun d=>∃m,dC eA m∧d=.agg (dR [101,120,112,101,110,115,101] 2 (ca m [2]) (ej m) false),
 fun _=>True,
 fun d=>d=.fn (.func 138) [] [],
 fun d=>d=.fn (.func 136) [] [],
 fun d=>d=.dj 52,
 fun d=>d=bR lP,
 fun _=>True,
 fun d=>d=bR lP,
 fun _=>True,
 fun d=>∃m,dC [((4:Int),lP),((5:Int),lP)] m∧d=ej m,
 fun d=>d=.snap 1 true [[D.i 1],[D.i 2]],
 fun d=>∃m,dC [((4:Int),lP),((5:Int),lP)] m∧d=.agg (dR [99,111,110,118,101,114,116] 2 (ca m [1,2]) (ej m) false),
 fun d=>∃m,dC [((4:Int),lP),((5:Int),lP)] m∧d=.agg (dR [99,111,110,118,101,114,116] 2 (ca m [1,2]) (ej m) true),
 fun _=>True,
 fun d=>d=.fn (.func 136) [] [],
 fun d=>d=.dj 53,
 fun d=>d=bR lL,
 fun _=>True,
 fun d=>d=bR lP,
 fun _=>True,
 fun d=>∃m,dC [((7:Int),lL),((8:Int),lP)] m∧d=ej m,
 fun d=>d=.snap 1 true [[D.i 0]],
 fun d=>∃m,dC [((7:Int),lL),((8:Int),lP)] m∧d=.agg (dR [115,112,108,105,116] 1 (ca m [0]) (ej m) false),
 fun _=>True,
 fun d=>d=.fn (.func 136) [] [],
 fun d=>d=.dj 54,
 fun d=>d=bR lL,
 fun _=>True,
 fun d=>d=bR lP,
 fun _=>True,
 fun d=>d=bR lQ,
 fun _=>True,
 fun d=>∃m,dC [((7:Int),lL),((8:Int),lP),((9:Int),lQ)] m∧d=ej m,
 fun d=>d=.snap 1 true [[D.i 0],[D.i 1]],
 fun d=>∃m,dC [((7:Int),lL),((8:Int),lP),((9:Int),lQ)] m∧d=.agg (dR [115,112,105,110,111,102,102] 1 (ca m [0,1]) (ej m) false),
 fun _=>True,
 fun d=>d=.fn (.func 136) [] [],
 fun d=>d=.snap 1 true [[D.i 0],[D.i 11]],
 fun d=>d=.agg (dR [101,120,99,104,97,110,103,101] 1 (ca [] [0,11]) (.raw (.map none)) false),
 fun _=>True,
 fun d=>d=.fn (.func 136) [] [],
 fun d=>d=.snap 1 true [[D.i 0],[D.i 3],[D.i 12]],
 fun d=>d=.agg (dR [101,108,101,99,116] 4 (ca [] [0,3,12]) (.raw (.map none)) false),
 fun _=>True,
 fun d=>d=.fn (.func 136) [] [],
 fun d=>d=.dj 55,
 fun d=>d=bR lP,
 fun _=>True,
 fun d=>d=bR lL,
 fun _=>True,
 fun d=>d=bR lP,
 fun _=>True,
 fun d=>∃m,dC [((4:Int),lP),((7:Int),lL),((8:Int),lP)] m∧d=ej m,
 fun d=>d=.snap 1 true [[D.i 0],[D.i 1]],
 fun d=>∃m,dC [((4:Int),lP),((7:Int),lL),((8:Int),lP)] m∧d=.agg (dR [101,120,101,114,99,105,115,101] 3 (ca m [0,1]) (ej m) false),
 fun _=>True,
 fun d=>d=.fn (.func 136) [] [],
 fun d=>d=.dj 56,
 fun d=>d=bR lP,
 fun _=>True,
 fun d=>∃m,dC [((7:Int),lP)] m∧d=ej m,
 fun d=>d=.snap 1 true [[D.i 0]],
 fun d=>∃m,dC [((7:Int),lP)] m∧d=.agg (dR [99,97,112,105,116,97,108] 1 (ca m [0]) (ej m) false),
 fun _=>True,
 fun d=>d=.fn (.func 136) [] [],
 fun d=>d=.dj 57,
 fun d=>d=bR lL,
 fun _=>True,
 fun d=>∃m,dC [((7:Int),lL)] m∧d=ej m,
 fun d=>d=.snap 1 true [[D.i 0]],
 fun d=>∃m,dC [((7:Int),lL)] m∧d=.agg (dR [99,97,108,108] 1 (ca m [0]) (ej m) false),
 fun _=>True,
 fun d=>d=.fn (.func 136) [] [],
 fun d=>d=.dj 58,
 fun d=>d=bR lL,
 fun _=>True,
 fun d=>∃m,dC [((7:Int),lL)] m∧d=ej m,
 fun d=>d=.snap 1 true [[D.i 0]],
 fun d=>∃m,dC [((7:Int),lL)] m∧d=.agg (dR [112,114,105,99,101] 4 (ca m [0]) (ej m) false),
 fun _=>True,
 fun d=>d=.fn (.func 138) [] [],
 fun d=>d=.fn (.func 136) [] [],
 fun d=>d=.dj 59,
 fun d=>d=bR lP,
 fun _=>True,
 fun d=>∃m,dC [((8:Int),lP)] m∧d=ej m,
 fun d=>d=.snap 1 true [[D.i 1],[D.i 2]],
 fun d=>∃m,dC [((8:Int),lP)] m∧d=.agg (dR [114,97,116,101] 4 (ca m [1,2]) (ej m) false),
 fun d=>∃m,dC [((8:Int),lP)] m∧d=.agg (dR [114,97,116,101] 4 (ca m [1,2]) (ej m) true),
 fun _=>True,
 fun d=>d=.fn (.func 137) [] [.bz [.fn (.func 136) [] []],.bz [bR (some (true,false))]],
 fun d=>∃m,dC eA m∧d=.agg (dR [105,115,115,117,101] 2 (ca m [2]) (ej m) false),
 fun _=>True,
 fun d=>d=.fn (.func 137) [] [.bz [.fn (.func 136) [] []],.bz [bR (some (true,false))]],
 fun d=>∃m,dC eA m∧d=.agg (dR [99,97,110,99,101,108] 2 (ca m [2]) (ej m) false),
 fun _=>True,
 fun d=>d=.dj 50,
 fun d=>d=.dj 50]
def zR(i:Nat):D→Prop:=(kVT[i]?).getD fun _=>True
def lE:List MQ:=[⟨18,21,51,[(20,7)],[((7:Int),lP)]⟩,⟨30,35,52,[(32,4),(34,5)],[((4:Int),lP),((5:Int),lP)]⟩,⟨41,46,53,[(43,7),(45,8)],[((7:Int),lL),((8:Int),lP)]⟩,⟨51,58,54,[(53,7),(55,8),(57,9)],[((7:Int),lL),((8:Int),lP),((9:Int),lQ)]⟩,⟨71,78,55,[(73,4),(75,7),(77,8)],[((4:Int),lP),((7:Int),lL),((8:Int),lP)]⟩,⟨83,86,56,[(85,7)],[((7:Int),lP)]⟩,⟨91,94,57,[(93,7)],[((7:Int),lL)]⟩,⟨99,102,58,[(101,7)],[((7:Int),lL)]⟩,⟨108,111,59,[(110,8)],[((8:Int),lP)]⟩]
def nL:List (Nat×Int):=[(3,1),(6,2),(11,3),(16,4),(24,5),(27,6),(39,7),(49,8),(61,9),(65,10),(69,11),(81,12),(89,13),(97,14),(105,15),(115,16),(118,17),(121,18)]
@[reducible] def CB:Option jo→D
 |none=>.raw (.map none)
 |some m=>ej m
@[reducible] def fK(v:oS):D:=.agg (dR v.w v.c v.h (CB v.num) v.code)
theorem aeA(v:oS):(fK v).bk=true:=by
 obtain⟨w,c,h,n,code⟩:=v;cases n<;>rfl
theorem B7:wX rJ=true:=by decide+kernel
abbrev KF:Fr:=⟨105,[],false,none⟩
structure Dz(env:Env):Prop where
 b1:env.get 1=some (.bz [bR lP])
 b2:env.get 2=some (bR lL)
 b3:env.get 3=some (.bz [.fn (.func 136) [] []])
 b4:env.get 4=some (.fn (.func 137) [] [.bz [.fn (.func 136) [] []],.bz [bR (some (true,false))]])
 b5:env.get 5=some (.fn (.func 138) [] [])
 b6:env.get 6=some (ej eT)
structure oQ(listed:Array Bool)(env:Env)(J:aa):Prop where
 aE:qd rJ zR listed env
 dF:Dz env
 z_:nV fK r7 listed J 0 1000 50 nL
 ux:∀q∈lE,nV bR (fun k v=>(k,v)∈q.E) listed J q.bo q.fz q.id q.ins
 sf:∀q∈lE,aZ listed q.fz=true→∀e∈q.ins,aZ listed e.1=true
theorem Dz.put{env:Env}{t:Nat}{d:D}(h:Dz env)(ht:(Nat.blt 6 t||t==0)=true):Dz ((t,d)::env):=by
 have ht:6<t∨t=0:=by simpa[Nat.blt_eq]using ht
 have key:∀s,0<s→s≤6→Env.get ((t,d)::env) s=env.get s:=fun s h0 hs=>by rw[Env.bf,if_neg zO]
 exact⟨by rw[key 1 zO zO];exact h.b1,by rw[key 2 zO zO];exact h.b2,by rw[key 3 zO zO];exact h.b3,by rw[key 4 zO zO];exact h.b4,by rw[key 5 zO zO];exact h.b5,by rw[key 6 zO zO];exact h.b6⟩
abbrev tz(listed:Array Bool)(env:Env)(J:aa)(i:Nat)(o:Oper)(ops:Array Oper):Prop:=
 ∃d ai fH dn,eQ KF.N o.dst=true∧On ops env o∧aq Tryz.prog o env J d ai∧Le KF (env.put o.dst d) ai fH dn∧oQ (listed.setIfInBounds i true) fH dn
theorem uF{ops:Array Oper}{env:Env}{o:Oper}(h:o.guard=none):On ops env o:=by unfold On;rw[h];trivial
def Ir(i:Nat):Bool:=!(i==0)&&!(i==1000)&&!(nL.map (·.1)).contains i&&lE.all (·.ok i)
theorem qd.ajP{jA:List (Option Nat)}{VK:Nat→D→Prop}{listed:Array Bool}{env:Env}{i t:Nat}{d:D}(h:qd jA VK listed env)(hd:wX jA=true)(hl:aZ listed i=false)(ht:jA[i]?=some (some t)):qd jA VK listed ((t,d)::env):=by
 intro j t' hj rG;rw[Env.bf];by_cases e:t=t'
 ·subst e;obtain rfl:=N9 hd ht rG;rw[hl]at hj;cases hj
 ·rw[if_neg e];exact h j t' hj rG
theorem Cc{listed:Array Bool}{i j:Nat}(hi:i<listed.size)(h:aZ listed j=true):aZ (listed.setIfInBounds i true) j=true:=by
 rw[gd hi];split
 ·rfl
 ·exact h
def uE(i:Nat):Bool:=lE.all fun q=>!(i==q.fz)
theorem Bb{listed:Array Bool}{i:Nat}(h:∀q∈lE,aZ listed q.fz=true→∀e∈q.ins,aZ listed e.1=true)(hi:i<listed.size)(hz:uE i=true):∀q∈lE,aZ (listed.setIfInBounds i true) q.fz=true→∀e∈q.ins,aZ (listed.setIfInBounds i true) e.1=true:=by
 intro q hq hf e he;have h1:i≠q.fz:=by simpa using List.all_eq_true.1 hz q hq
 rw[gd hi,if_neg h1]at hf;exact Cc hi (h q hq hf e he)
def DL(listed:Array Bool):List (Nat×Int)→Prop
 |[]=>True
 |e::r=>aZ listed e.1=true∧DL listed r
theorem DL.all{listed:Array Bool}:∀{l:List (Nat×Int)},DL listed l→∀e∈l,aZ listed e.1=true
 |[],_,e,he=>by cases he
 |x::l,h,e,he=>by
  rcases List.mem_cons.1 he with rfl|he
  ·exact h.1
  ·exact h.2.all e he
theorem Oc{listed:Array Bool}{l:List (Nat×Int)}(h:∀e∈l,aZ listed e.1=true):m' listed l=l.map (·.2):=by
 unfold m';rw[List.filter_eq_self.2 h]
def kQ(j:Nat):MQ:=(lE[j]?).getD ⟨0,0,0,[],[]⟩
theorem lF{j:Nat}(h:Nat.blt j lE.length=true):kQ j∈lE:=by
 have h:j<lE.length:=by simpa[Nat.blt_eq]using h
 unfold kQ;rw[List.getElem?_eq_getElem h];exact List.getElem_mem h
section
variable{ops:Array Oper} {listed:Array Bool} {env:Env} {J:aa} {i t:Nat} {o:Oper} {d:D}
theorem Fo{ai:aa}(hI:oQ listed env J)(aY:i<listed.size)(h:(!(i==0)&&!(i==1000)&&!(nL.map (·.1)).contains i)=true)(ho:ai.get 50=J.get 50):nV fK r7 (listed.setIfInBounds i true) ai 0 1000 50 nL:=by
 rw[Bool.and_eq_true,Bool.and_eq_true]at h;refine hI.z_.other aY (by simpa using h.1.1) (by simpa using h.1.2) (fun hm=>?_) ho;have:=h.2;rw[List.contains_iff_mem.2 hm]at this;cases this
theorem ahV(hs:listed.size=ops.size)(hn:Nat.blt i ops.size=true)(hI:oQ listed env J)(hi:rJ[i]?=some (some t))(ht:(Nat.blt 6 t||t==0)=true)(hN:eQ KF.N (some t)=true)(ho:o.dst=some t)(hg:o.guard=none)(hV:zR i d)(hf:Ir i=true)(hz:uE i=true)(hq:aq Tryz.prog o env J d J):tz listed env J i o ops:=by
 have aY:i<listed.size:=by rw[hs];simpa[Nat.blt_eq]using hn
 unfold Ir at hf;rw[Bool.and_eq_true]at hf;refine⟨d,J,(t,d)::env,J,by rw[ho];exact hN,uF hg,hq,by rw[ho];exact Le.refl _ _ _,hI.aE.put B7 aY hi hV,hI.dF.put ht,Fo hI aY hf.1 rfl,fun q hq=>?_,Bb hI.sf aY hz⟩;obtain⟨h1,h2,h3⟩:=MQ.x5 (List.all_eq_true.1 hf.2 q hq);exact(hI.ux q hq).other aY h1 h2 h3 rfl
def x6(i:Nat)(q:MQ):Bool:=!(i==0)&&!(i==1000)&&!(nL.map (·.1)).contains i&&!(q.id==50)&&lE.all fun r=>r==q||(r.ok i&&!(r.id==q.id))
theorem uw{q:MQ}(hs:listed.size=ops.size)(hn:Nat.blt i ops.size=true)(hI:oQ listed env J)(hl:aZ listed i=false)(hi:rJ[i]?=some (some t))(ht:(Nat.blt 6 t||t==0)=true)(hN:eQ KF.N (some t)=true)(ho:o.dst=some t)(hg:o.guard=none)(hV:zR i (.dj q.id))(hq:q∈lE)(hf:x6 i q=true)(hm:i=q.bo)(fj:(q.ins.map (·.1)).contains i=false)(hz:uE i=true)
  (bd:J.get q.id=none→aq Tryz.prog o env J (.dj q.id) ((q.id,.mp (bZ iH bR []))::J)):tz listed env J i o ops:=by
 have aY:i<listed.size:=by rw[hs];simpa[Nat.blt_eq]using hn
 unfold x6 at hf;rw[Bool.and_eq_true,Bool.and_eq_true]at hf;have Bv:q.id≠50:=by simpa using hf.1.2
 have qG:=hI.ux q hq;rw[←hm]at qG;refine⟨_,_,(t,.dj q.id)::env,_,by rw[ho];exact hN,uF hg,bd (qG.no hl).1,by rw[ho];exact Le.refl _ _ _,hI.aE.put B7 aY hi hV,hI.dF.put ht,Fo hI aY hf.1.1 (by rw[aa.bf,if_neg Bv]),fun r hr=>?_,Bb hI.sf aY hz⟩;have h:=List.all_eq_true.1 hf.2 r hr;rw[Bool.or_eq_true]at h;rcases h with h|h
 ·obtain rfl:r=q:=by simpa using h
  rw[←hm];exact qG.make aY hl (fun hm=>by rw[List.contains_iff_mem.2 hm]at fj;cases fj)
 ·rw[Bool.and_eq_true]at h;obtain⟨h1,h2,h3⟩:=MQ.x5 h.1;have h4:r.id≠q.id:=by simpa using h.2
  exact(hI.ux r hr).other aY h1 h2 h3 (by rw[aa.bf,if_neg (Ne.symm h4)])
theorem adH{q:MQ}{k:Int}{v:nU}(hs:listed.size=ops.size)(hn:Nat.blt i ops.size=true)(hI:oQ listed env J)(hl:aZ listed i=false)(hi:rJ[i]?=some none)(ho:o.dst=none)(hg:o.guard=none)(hq:q∈lE)(hf:x6 i q=true)(qE:aZ listed q.bo=true)(hz:uE i=true)(hm:(i,k)∈q.ins)(aG:(!(i==q.bo)&&!(i==q.fz))=true)(pS:(q.ins.map (·.1)).Nodup)(vH:(q.ins.map (·.2)).Nodup)(hv:(k,v)∈q.E)
  (bd:∀m,J.get q.id=some (.mp (bZ iH bR m))→aq Tryz.prog o env J (.raw undef) (J.set q.id (.mp (bZ iH bR (fE m k v))))):tz listed env J i o ops:=by
 have aY:i<listed.size:=by rw[hs];simpa[Nat.blt_eq]using hn
 unfold x6 at hf;rw[Bool.and_eq_true,Bool.and_eq_true]at hf;rw[Bool.and_eq_true]at aG;have Bv:q.id≠50:=by simpa using hf.1.2
 have qG:=hI.ux q hq;have sF:aZ listed q.fz=false:=by
  cases e:aZ listed q.fz with
  |false=>rfl
  |true=>have:=hI.sf q hq e _ hm;rw[hl]at this;cases this
 obtain⟨m,g1,g2,g3⟩:=qG.yes qE sF;refine⟨_,_,env,_,by rw[ho];rfl,uF hg,bd m g1,by rw[ho];exact Le.refl _ _ _,hI.aE.none aY hi,hI.dF,Fo hI aY hf.1.1 (by rw[aa.eG,if_neg Bv]),fun r hr=>?_,Bb hI.sf aY hz⟩;have h:=List.all_eq_true.1 hf.2 r hr;rw[Bool.or_eq_true]at h;rcases h with h|h
 ·obtain rfl:r=q:=by simpa using h
  exact qG.insert aY hl (by simpa using aG.1) (by simpa using aG.2) hm pS vH g1 g2 g3 hv
 ·rw[Bool.and_eq_true]at h;obtain⟨h1,h2,h3⟩:=MQ.x5 h.1;have h4:r.id≠q.id:=by simpa using h.2
  exact(hI.ux r hr).other aY h1 h2 h3 (by rw[aa.eG,if_neg (Ne.symm h4)])
theorem tT{q:MQ}(hs:listed.size=ops.size)(hn:Nat.blt i ops.size=true)(hI:oQ listed env J)(hl:aZ listed i=false)(hi:rJ[i]?=some (some t))(ht:(Nat.blt 6 t||t==0)=true)(hN:eQ KF.N (some t)=true)(ho:o.dst=some t)(hg:o.guard=none)(hq:q∈lE)(hf:x6 i q=true)(hm:i=q.fz)(qE:aZ listed q.bo=true)(Qy:DL listed q.ins)(hE:q.ins.map (·.2)=q.E.map (·.1))
  (hV:∀m,dC q.E m→zR i (ej m))(bd:aq Tryz.prog o env J (.dj q.id) J):tz listed env J i o ops:=by
 have aY:i<listed.size:=by rw[hs];simpa[Nat.blt_eq]using hn
 unfold x6 at hf;rw[Bool.and_eq_true,Bool.and_eq_true]at hf;have Bv:q.id≠50:=by simpa using hf.1.2
 have qG:=hI.ux q hq;obtain⟨m,g1,g2,g3⟩:=qG.yes qE (by rw[←hm];exact hl);rw[Oc Qy.all,hE]at g2;refine⟨_,J,(t,ej m)::(t,.dj q.id)::env,J.set q.id .dead,by rw[ho];exact hN,uF hg,bd,by rw[ho];exact Le.Eu (kD:=iH) (vD:=bR) (m:=m) t q.id (by show Env.get ((t,D.dj q.id)::env) t=_;rw[Env.bf,if_pos rfl]) g1 (fun _=>rfl) J',
  (hI.aE.ajP B7 hl hi).put B7 aY hi (hV m ⟨g2,fun p hp=>g3 p hp⟩),(hI.dF.put ht).put ht,Fo hI aY hf.1.1 (by rw[aa.eG,if_neg Bv]),fun r hr=>?_,fun r hr xx e he=>?_⟩
 rotate_left
 ·have h:=List.all_eq_true.1 hf.2 r hr;rw[Bool.or_eq_true]at h;rcases h with h|h
  ·obtain rfl:r=q:=by simpa using h
   exact Cc aY (Qy.all e he)
  ·rw[Bool.and_eq_true]at h;have h2:=(MQ.x5 h.1).2.1;rw[gd aY,if_neg h2]at xx;exact Cc aY (hI.sf r hr xx e he)
 have h:=List.all_eq_true.1 hf.2 r hr;rw[Bool.or_eq_true]at h;rcases h with h|h
 ·obtain rfl:r=q:=by simpa using h
  subst hm;exact qG.freeze aY qE
 ·rw[Bool.and_eq_true]at h;obtain⟨h1,h2,h3⟩:=MQ.x5 h.1;have h4:r.id≠q.id:=by simpa using h.2
  exact(hI.ux r hr).other aY h1 h2 h3 (by rw[aa.eG,if_neg (Ne.symm h4)])
theorem afJ(hs:listed.size=ops.size)(hn:Nat.blt 0 ops.size=true)(hI:oQ listed env J)(hl:aZ listed 0=false)(hi:rJ[0]?=some (some t))(ht:(Nat.blt 6 t||t==0)=true)(hN:eQ KF.N (some t)=true)(ho:o.dst=some t)(hg:o.guard=none)(hV:zR 0 (.dj 50))(hz:uE 0=true)
  (hf:(!(nL.map (·.1)).contains 0&&lE.all fun r=>r.ok 0&&!(r.id==50))=true)(bd:J.get 50=none→aq Tryz.prog o env J (.dj 50) ((50,.mp (bZ iH fK []))::J)):tz listed env J 0 o ops:=by
 have aY:0<listed.size:=by rw[hs];simpa[Nat.blt_eq]using hn
 rw[Bool.and_eq_true]at hf;refine⟨_,_,(t,.dj 50)::env,_,by rw[ho];exact hN,uF hg,bd (hI.z_.no hl).1,by rw[ho];exact Le.refl _ _ _,hI.aE.put B7 aY hi hV,hI.dF.put ht,hI.z_.make aY hl (fun hm=>by have:=hf.1;rw[List.contains_iff_mem.2 hm]at this;cases this),fun r hr=>?_,Bb hI.sf aY hz⟩;have h:=List.all_eq_true.1 hf.2 r hr;rw[Bool.and_eq_true]at h;obtain⟨h1,h2,h3⟩:=MQ.x5 h.1;have h4:r.id≠50:=by simpa using h.2
 exact(hI.ux r hr).other aY h1 h2 h3 (by rw[aa.bf,if_neg (Ne.symm h4)])
theorem adI{k:Int}{v:oS}(hs:listed.size=ops.size)(hn:Nat.blt i ops.size=true)(QU:ops.size=124)(hI:oQ listed env J)(hl:aZ listed i=false)(hi:rJ[i]?=some none)(ho:o.dst=none)(hg:o.guard=none)(qE:aZ listed 0=true)(hm:(i,k)∈nL)(aG:(!(i==0)&&!(i==1000)&&lE.all fun r=>r.ok i&&!(r.id==50))=true)(pS:(nL.map (·.1)).Nodup)(vH:(nL.map (·.2)).Nodup)(hv:r7 k v)(hz:uE i=true)
  (bd:∀m,J.get 50=some (.mp (bZ iH fK m))→aq Tryz.prog o env J (.raw undef) (J.set 50 (.mp (bZ iH fK (fE m k v))))):tz listed env J i o ops:=by
 have aY:i<listed.size:=by rw[hs];simpa[Nat.blt_eq]using hn
 rw[Bool.and_eq_true,Bool.and_eq_true]at aG;have sF:aZ listed 1000=false:=by unfold aZ;rw[Array.getD_eq_getD_getElem?,Array.getElem?_eq_none zO];rfl
 obtain⟨m,g1,g2,g3⟩:=hI.z_.yes qE sF;refine⟨_,_,env,_,by rw[ho];rfl,uF hg,bd m g1,by rw[ho];exact Le.refl _ _ _,hI.aE.none aY hi,hI.dF,hI.z_.insert aY hl (by simpa using aG.1.1) (by simpa using aG.1.2) hm pS vH g1 g2 g3 hv,fun r hr=>?_,Bb hI.sf aY hz⟩;have h:=List.all_eq_true.1 aG.2 r hr;rw[Bool.and_eq_true]at h;obtain⟨h1,h2,h3⟩:=MQ.x5 h.1;have h4:r.id≠50:=by simpa using h.2
 exact(hI.ux r hr).other aY h1 h2 h3 (by rw[aa.eG,if_neg (Ne.symm h4)])
end
end Go.T
