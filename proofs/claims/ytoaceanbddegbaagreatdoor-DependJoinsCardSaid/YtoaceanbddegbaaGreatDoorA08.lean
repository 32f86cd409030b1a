/-
  Contracts of the functions that the statement reaches, and the logic in which they are proved (no condition): parts S1, S2, S3, S4, Spec9, Spec10, Spec11, Spec12, Spec13, Spec14, Spec15, Spec16, Spec17, SpecD2, W3, W4, W5, W6, W7.
-/
import Derived.Test.YtoaceanbddegbaaGreatDoorA07
import Derived.WalkKit
import Derived.BigCall
import Derived.BigGuard
import Derived.Lib.ItoaMem
import Derived.Lib.Walk
import Derived.Shelf.Strings.SlTrimAscii
import Derived.Lib.Bytealg
set_option linter.all false
namespace Go.T
open Go Go.Proofs
theorem gL.below{w w':World}(h:Go.RowKit.Below w.heap.size w w'):gL w w':=⟨h.size,fun b hb=>h.block b hb,h.os,h.output,.inr trivial⟩
theorem Y2(s:ae):Fc Tryz.prog 201 [.str s,.str [45]] (.bl [.str (dZ s).1,.b (dZ s).2]):=.qP fun w O ρ vals _ hv=>by
 obtain⟨rfl,hb,_⟩:=hv.Dh;refine(Tryz.strings_CutPrefix ⟨s.toArray⟩ ⟨[45].toArray⟩ w).mono ?_;rintro e w' ⟨rfl,rfl⟩;have hs:=Gu s;refine⟨_,rfl,?_,gL.refl _⟩;have h1:Lib.hasPrefix s [45]=(dZ s).2:=by
  cases s with
  |nil=>rfl
  |cons c r=>
   by_cases h:c=45
   ·subst h;simp[Lib.hasPrefix,dZ,List.isPrefixOf]
   ·have:dZ (c::r)=(c::r,false):=by unfold dZ;split<;>simp_all
    simp[Lib.hasPrefix,this,List.isPrefixOf];exact fun e=>h e.symm
 have h2:Lib.trimPrefix s [45]=(dZ s).1:=by
  unfold Lib.trimPrefix;rw[h1];cases s with
  |nil=>rfl
  |cons c r=>
   by_cases h:c=45
   ·subst h;simp[dZ]
   ·have:dZ (c::r)=(c::r,false):=by unfold dZ;split<;>simp_all
    simp[this]
 simp only[V];refine⟨_,rfl,?_⟩;simp only[Vs];exact⟨_,_,rfl,by simp only[V];exact⟨by rw[←h2],by omega⟩,_,_,rfl,by simp only[V];rw[←h1],rfl⟩
theorem ZZ(s:ae):s.dropWhile (· ==48)=ff s:=by
 induction s with
 |nil=>rfl
 |cons c r ih=>
  by_cases h:c=48
  ·subst h;simpa[ff]using ih
  ·have:ff (c::r)=c::r:=by unfold ff;split<;>simp_all
   rw[this];simp[h]
theorem amS(s:ae):Fc Tryz.prog 202 [.str s,.str [48]] (.str (ff s)):=.qP fun w O ρ vals _ hv=>by
 obtain⟨rfl,hb,_⟩:=hv.Dh;refine(Tryz.strings_TrimLeft_one ⟨s.toArray⟩ 48 zD w).mono ?_;rintro e w' ⟨rfl,rfl⟩;refine⟨_,rfl,?_,gL.refl _⟩;have:=Ea s;simp only[V];exact⟨by simp[Lib.trimLeftB,ZZ],by omega⟩
theorem TU:∀(s:ae)(acc:Nat),s.all dh=true→acc*10^s.length+natVal s<1000000000000000000→Lib.parseUintM (2^64-1) acc s=.ok (acc*10^s.length+natVal s)
 |[],acc,_,_=>by simp[Lib.parseUintM,natVal]
 |c::s,acc,h,hb=>by
  simp only[List.all_cons,Bool.and_eq_true]at h;have hd:=h.1;simp only[dh,Bool.and_eq_true,decide_eq_true_eq]at hd;have key:∀(s:ae)(a:Nat),s.foldl (fun a c=>10*a+(c.toNat-48)) a=a*10^s.length+natVal s:=by
   intro s;induction s with
   |nil=>intro a;simp[natVal]
   |cons c r ih=>
    intro a;rw[List.foldl_cons,ih];have:natVal (c::r)=(c.toNat-48)*10^r.length+natVal r:=by
     show(c::r).foldl _ 0=_;rw[List.foldl_cons,ih];simp
    rw[this,List.length_cons,Nat.pow_succ,Nat.add_mul];have:10*a*10^r.length=a*(10^r.length*10):=by rw[Nat.mul_comm 10 a,Nat.mul_assoc,Nat.mul_comm 10]
    omega
  have hv:natVal (c::s)=(c.toNat-48)*10^s.length+natVal s:=by
   show(c::s).foldl _ 0=_;rw[List.foldl_cons,key];simp
  have he:acc*10^(c::s).length+natVal (c::s)=(acc*10+(c.toNat-48))*10^s.length+natVal s:=by
   rw[hv,List.length_cons,Nat.pow_succ,Nat.add_mul,←Nat.mul_assoc,Nat.mul_right_comm];omega
  rw[he]at hb⊢;have hp:1≤10^s.length:=Nat.one_le_pow _ _ zO;have iG:acc*10+(c.toNat-48)<1000000000000000000:=by
   have:(acc*10+(c.toNat-48))*1≤(acc*10+(c.toNat-48))*10^s.length:=Nat.mul_le_mul_left _ hp;omega
  rw[Lib.parseUintM,if_pos hd,if_neg zO,if_neg zO];exact TU s _ h.2 hb
theorem ahp(s:ae)(h0:s≠[])(hd:s.all dh=true)(hl:s.length≤17):Fc Tryz.prog 157 [.str s,.raw (.int .i64 10),.raw (.int .i64 64)] (.bl [.raw (.int .u64 (natVal s)),.raw .nilIface]):=.qP fun w O ρ vals _ hv=>by
 simp only[Vs,V]at hv;obtain⟨u,us,rfl,⟨rfl,hb⟩,u',yA,rfl,rfl,u'',asb,rfl,rfl,rfl⟩:=hv;have JG:=Tb hd hl;refine(Tryz.strconv_ParseUint_10_at64_ok ⟨s.toArray⟩ (by simp[ByteArray.size];omega) (natVal s) ?_ w).mono ?_
 ·have:=TU s 0 hd zO;simp only[Lib.parseUintB,if_neg h0];simpa using this
 ·rintro e w' ⟨rfl,hw⟩;refine⟨_,rfl,?_,?_⟩
  ·simp only[V];exact⟨_,rfl,by simp only[Vs];exact⟨_,_,rfl,by simp[V],_,_,rfl,by simp[V],rfl⟩⟩
  ·rcases hw with rfl|rfl
   ·exact gL.refl _
   ·exact gL.below (Lib.below_freeze ((RowKit.Below.drew (RowKit.Below.refl _ w)).alloc (Nat.le_refl _) _) (p:=⟨w.heap.size,_,none⟩) (Nat.le_refl _) _)
theorem repeatL_one(c:UInt8):∀n,Lib.repeatL [c] n=List.replicate n c
 |0=>rfl
 |n+1=>by simp[Lib.repeatL,repeatL_one c n,List.replicate_succ]
theorem Ux(n:Int)(h0:0≤n)(h1:n≤1000):Fc Tryz.prog 162 [.str [48],.i n] (.str (List.replicate n.toNat 48)):=.qP fun w O ρ vals _ hv=>by
 simp only[Vs,V]at hv;obtain⟨u,us,rfl,⟨rfl,hb⟩,u',yA,rfl,rfl,rfl⟩:=hv;obtain⟨k,rfl⟩:∃k:Nat,n=k:=⟨n.toNat,by omega⟩;refine(Tryz.strings_Repeat ⟨[48].toArray⟩ k w zO (by simp[ByteArray.size];omega)).mono ?_;rintro e w' ⟨rfl,hw⟩;refine⟨_,rfl,?_,gL.below hw⟩;simp only[V];exact⟨by simp[repeatL_one],by simp[aH];omega⟩
theorem adn(s:ae)(c:UInt8):Fc Tryz.prog 325 [.str s,.str [c]] (.i (Lib.indexByte s c)):=.qP fun w O ρ vals _ hv=>by
 obtain⟨rfl,hb,_⟩:=hv.Dh;refine(Tryz.stringslite_Index_one ⟨s.toArray⟩ c w).mono ?_;rintro e w' ⟨rfl,rfl⟩;exact⟨_,rfl,by simp[V],gL.refl _⟩
open Go.Shelf Go.RowKit Go.Sort Go.Lib
theorem ac2(w:World)(T:TypeId)(nd:Nat)(hs:nd≤24):Holds (fun(b:UInt8)=>Value.int .u8 (b.toNat:Int)) (w.alloc (.cells Lib.zeros24 T)) w.heap.size 0 (Array.replicate nd (0:UInt8)):=fun j hj=>by
 have Ji:j<nd:=by simpa using hj
 refine⟨?_,World.frozen?_alloc_new _ _ _ _⟩;rw[World.cell?_alloc_new,Lib.zeros24_at _ zO,getElem!_pos _ j hj];simp
theorem abm(w:World)(o:Obj)(dk:Array UInt8)(k:Nat):∃os,(putRow (fun(b:UInt8)=>Value.int .u8 (b.toNat:Int)) (w.alloc o) w.heap.size 0 dk).drewN k=grow (w.drewN k) os:=by
 rw[alloc_eq_grow];obtain⟨os',_,e⟩:=putRow_grow_new (fun(b:UInt8)=>Value.int .u8 (b.toNat:Int)) w #[o] w.heap.size 0 dk (Nat.le_refl _);exact⟨os',by rw[e];rfl⟩
theorem Mx:Tryz.prog.follows .mixedOrders=true:=by kernel_rfl
set_option maxHeartbeats 6400000 in
set_option maxRecDepth 100000 in
theorem abA(u:Nat)(BZ:u<18446744073709551616)(w:World)(BW:Lib.TabIs Tryz.prog w "internal/strconv.uint64pow10" .u64 Lib.pow10Tab):
  Calls Tryz.prog 208 #[.int .u64 u,.int .i64 10] w fun e w'=>e=.returned (.string ⟨(Lib.decDigits u).toArray⟩)∧∃k os,w'=grow (w.drewN k) os:=by
 have mixed:=Mx;by_cases hs:u<100
 ·have iu:(u:Int)<100:=by omega
  go_enter Tryz.func208,Tryz.ntmps208
  have hw:IntKind.i64.wrap (u:Int)=u:=IntWalk.i64_in _ ⟨by omega,by omega⟩
  go_wp2_with (go_at_call 270;refine(Tryz.internal_strconv_small u hs _).mono ?_;rintro e w' ⟨rfl,rfl⟩)
  go_ret
  exact⟨rfl,0,#[],by simp[World.drewN_zero]⟩
 ·have E7:1≤u:=by omega
  have aqm:Lib.nDigits u≤20:=by have:=Lib.numDigits_eq u E7 BZ;split at this<;>omega
  have EP:Tryz.prog.arrayLen 342=24:=by simp[Program.arrayLen,Tryz.underlying342]
  have aqq:∀W,(Instr.sliceAt 342 (.pointer (some ⟨w.heap.size,0,none⟩)) none (some (.int .i64 (Lib.nDigits u:Int))) none).run Tryz.prog W=.ok (.slice (some ⟨w.heap.size,0,none⟩) (Lib.nDigits u) 24) W:=fun W=>by
   rw[run_sliceAt_array_h W 342 ⟨w.heap.size,0,none⟩ (by simp[Program.arrayLen,Program.elem,Tryz.underlying342]) .i64 (Lib.nDigits u:Int) zO (by rw[EP];omega)]
   go_simp
   try omega
  have sC:=ac2 w 342 (Lib.nDigits u) zO;have Qp:=Tryz.internal_strconv_formatBase10 w.heap.size 0 24 u (Array.replicate (Lib.nDigits u) 0) (w.alloc (.cells Lib.zeros24 342)) sC (by rw[Array.size_replicate];exact Lib.lt_pow_nDigits u) BZ (by rw[Array.size_replicate];omega);rw[Array.size_replicate]at Qp;have Wh:=Lib.hid sC;have iu:(100:Int)≤(u:Int):=by omega
  clear sC EP
  go_enter Tryz.func208,Tryz.ntmps208
  go_wp2_with (first
   |(go_at_call 271;refine(Tryz.internal_strconv_numDigits u E7 BZ _ (Lib.tabIs_alloc BW _)).mono ?_;rintro e w' ⟨rfl,rfl⟩))
  go_at_call 272
  refine Qp.mono ?_;rintro e w' ⟨rfl,k,v',dk,rfl,hF⟩;have Qf:(convert 217 9 (.slice (some ⟨w.heap.size,0,none⟩) (Lib.nDigits u) 24)).run Tryz.prog ((putRow (fun(b:UInt8)=>Value.int .u8 (b.toNat:Int)) (w.alloc (.cells Lib.zeros24 342)) w.heap.size 0 dk).drewN k)=.ok (.string ⟨(Lib.decDigits u).toArray⟩) ((putRow (fun(b:UInt8)=>Value.int .u8 (b.toNat:Int)) (w.alloc (.cells Lib.zeros24 342)) w.heap.size 0 dk).drewN k):=by
   have h:=run_convert_bytes_back (P:=Tryz.prog) ((putRow (fun(b:UInt8)=>Value.int .u8 (b.toNat:Int)) (w.alloc (.cells Lib.zeros24 342)) w.heap.size 0 dk).drewN k) 217 9 5 ⟨w.heap.size,0,none⟩ 24 (Lib.decDigits u) Tryz.underlying217 Tryz.underlying5 Tryz.underlying9 (fun j hj=>by
    rw[Lib.row_is_numeral hF j hj,Lib.add_plain,World.cell?_drewN];exact cell?_putRow (fun(b:UInt8)=>Value.int .u8 (b.toNat:Int)) _ w.heap.size 0 _ dk Wh.out (by rw[hF.size,Array.size_replicate]) j (by rw[hF.size];rw[Lib.decDigits_length]at hj;exact hj))
   rw[Lib.decDigits_length]at h;exact h
  go_wp2
  go_ret
  obtain⟨os,eo⟩:=abm w (.cells Lib.zeros24 342) dk k;exact⟨rfl,k,os,eo⟩
theorem Ru(w:World)(k:Nat)(os:Array Obj):gL w (grow (w.drewN k) os):=by
 have h:(w.drewN k).heap=w.heap∧(w.drewN k).os=w.os∧(w.drewN k).output=w.output:=by
  unfold World.drewN;exact⟨rfl,rfl,rfl⟩
 refine⟨?_,fun b hb=>?_,h.2.1,h.2.2,.inr trivial⟩
 ·show w.heap.size≤((w.drewN k).heap++os).size;rw[h.1,Array.size_append];omega
 ·show((w.drewN k).heap++os)[b]?=_;rw[h.1,Array.getElem?_append_left hb]
theorem Vu{w:World}{O:Nat→Prop}(h:Gl w O):Lib.TabIs Tryz.prog w "internal/strconv.uint64pow10" .u64 Lib.pow10Tab:=by
 obtain⟨⟨T,fr,h1⟩,_⟩:=h.1 2 _ (List.mem_singleton.2 rfl);have hg:Tryz.prog.globalNamed "internal/strconv.uint64pow10"=some 2:=by kernel_rfl
 unfold Lib.TabIs World.var?;rw[hg];have gE:F2.map (fun(n:Nat)=>(n:Int))=Lib.pow10Tab:=by decide+kernel
 have:(F2.map fun(n:Nat)=>Value.int .u64 (n:Int)).toArray=(Lib.pow10Tab.map fun z=>Value.int .u64 z).toArray:=by rw[←gE,List.map_map];rfl
 simp[h1,this]
theorem D5(u:Nat)(h:u≠0):Lib.decDigits u=iP u:=by
 induction u using Nat.strongRecOn with
 |_ u ih=>
  rw[Lib.decDigits,uz h];split
  ·rename_i hu;rw[Nat.div_eq_of_lt hu,nM,Nat.mod_eq_of_lt hu];rfl
  ·rw[ih (u/10) zO zO]
theorem abz(u:Nat)(hu:u<18446744073709551616):Fc Tryz.prog 208 [.raw (.int .u64 u),.i 10] (.str (Lib.decDigits u)):=.qP fun w O ρ vals hg hv=>by
 simp only[Vs,V]at hv;obtain⟨_,_,rfl,rfl,_,_,rfl,rfl,rfl⟩:=hv;refine(abA u hu w (Vu hg)).mono ?_;rintro e w' ⟨rfl,k,os,rfl⟩;refine⟨_,rfl,?_,Ru w k os⟩;simp only[V];have:(Lib.decDigits u).length≤20:=by
  rw[Lib.decDigits_length];by_cases h:u=0
  ·subst h;rw[Lib.nDigits_small zO];omega
  ·have:=Lib.numDigits_eq u zO hu;split at this<;>omega
 exact⟨trivial,by unfold aH;omega⟩
end Go.T
namespace Go.T
open Go Go.Proofs Go.Shelf Go.RowKit
theorem M_:(Tryz.prog.info? 251).map (·.size)=some 2:=by kernel_rfl
theorem Xb:liesAt Tryz.prog Tryz.prog.depth 251 (2/Tryz.prog.cellsOf 251) 0 251 1=true:=by kernel_rfl
set_option maxHeartbeats 1000000 in
set_option maxRecDepth 100000 in
theorem YO(b:Nat)(w:World)(h0:w.cell? ⟨b,0,none⟩=some (.pointer (some ⟨b,0,none⟩))):
  Calls Tryz.prog 207 #[.pointer (some ⟨b,0,none⟩)] w fun e w'=>e=.returned (.tuple #[])∧w'=w:=by
 obtain⟨j,hj,_⟩:=Option.map_eq_some_iff.1 M_
 go_enter Tryz.func207,Tryz.ntmps207
 go_wp2
 rw[Lib.run_neq_ptr_same w _ Tryz.underlying249 hj]
 go_wp2
 go_end0
 exact⟨rfl,rfl⟩
set_option maxHeartbeats 1000000 in
set_option maxRecDepth 100000 in
theorem YN(b:Nat)(w:World)(h0:w.cell? ⟨b,0,none⟩=some (.pointer none))(QW:w.shape? b=some (251,2))(sF:w.frozen? ⟨b,0,none⟩=false):
  Calls Tryz.prog 207 #[.pointer (some ⟨b,0,none⟩)] w fun e w'=>e=.returned (.tuple #[])∧w'=w.setCell ⟨b,0,none⟩ (.pointer (some ⟨b,0,none⟩)):=by
 obtain⟨j,hj,EZ⟩:=Option.map_eq_some_iff.1 M_
 go_enter Tryz.func207,Tryz.ntmps207
 go_wp2
 rw[Lib.run_to_unsafe w ⟨b,0,none⟩ Tryz.underlying249 Tryz.underlying340 hj (by rw[EZ];decide) QW (Nat.zero_lt_succ 1)];simp only[Result.andThen];rw[Oper.upon_value]
 go_wp2
 rw[run_callFunc_extern Tryz.func269 (by kernel_rfl) (by kernel_rfl) (by kernel_rfl) (e:=Extern.AbiNoEscape.same) (by kernel_rfl)];rw[Lib.run_noEscape];simp only[Result.andThen];rw[Oper.upon_value]
 go_wp2
 rw[Lib.run_from_unsafe w ⟨b,0,none⟩ Tryz.underlying340 Tryz.underlying249 hj QW Xb];simp only[Result.andThen];rw[Oper.upon_value]
 go_wp2
 go_end0
 exact⟨rfl,rfl⟩
theorem HG(id j n:Nat)(s:ae):bh Tryz.prog 207 [.box id 0] [(id,.fu j n),(j,.ba s)] (.bl []) [(id,.fu j n),(j,.ba s)]:=⟨fun w O ρ vals af _ hv=>by
 simp only[Vs,V]at hv;obtain⟨_,_,rfl,⟨l,hl,rfl⟩,rfl⟩:=hv;have hg:aa.get [(id,Ob.fu j n),(j,.ba s)] id=some (.fu j n):=by simp[aa.get]
 obtain⟨l',h1,h2,p,v,h3,h4,h5⟩:=af.own id _ hg rfl;rw[hl]at h1;cases h1;have hr:V w (Ot O ρ [(id,.fu j n),(j,.ba s)]) ρ (.bl []) (.tuple #[]):=by simp[V,Vs]
 rcases h4 with rfl|rfl
 ·refine(YN l.b w (by simp[World.cell?,h3]) (by simp[World.shape?,h3]) (by simp[World.frozen?,h3])).mono ?_;rintro e w' ⟨rfl,rfl⟩;have bm:=Tr.cv (o':=.fu j n) af hg rfl hl (.cells #[.pointer (some ⟨l.b,0,none⟩),v] pK (0,0)) (fun _=>⟨.pointer (some ⟨l.b,0,none⟩),v,by simp[(Array.getElem?_eq_some_iff.1 h3).1],.inr rfl,h5⟩);have rF:aa.set [(id,Ob.fu j n),(j,.ba s)] id (.fu j n)=[(id,.fu j n),(j,.ba s)]:=by simp[aa.set]
  rw[rF]at bm;have hw:{w with heap:=w.heap.setIfInBounds l.b (.cells #[.pointer (some ⟨l.b,0,none⟩),v] pK (0,0))}=w.setCell ⟨l.b,0,none⟩ (.pointer (some ⟨l.b,0,none⟩)):=by
   have bN:=(Array.getElem?_eq_some_iff.1 h3).1;unfold World.setCell
   congr 1
   apply Array.ext zS;intro i g1 g2;rw[Array.getElem_setIfInBounds,Array.getElem_modify];have hi:i<w.heap.size:=by simpa using g1
   by_cases e:l.b=i
   ·subst e;have:w.heap[l.b]=.cells #[.pointer none,v] pK (0,0):=Option.some.inj ((Array.getElem?_eq_getElem bN).symm.trans h3);simp[this]
   ·simp[e]
   ·simpa using g1
  rw[hw]at bm;exact⟨_,ρ,rfl,bm,bm.V hr⟩
 ·refine(YO l.b w (by simp[World.cell?,h3])).mono ?_;rintro e w' ⟨rfl,rfl⟩;exact⟨_,ρ,rfl,Tr.refl af,hr⟩⟩
set_option maxHeartbeats 1000000 in
set_option maxRecDepth 100000 in
theorem Xc(b g cap:Nat)(p:Value)(cur:Array Value)(l:List UInt8)(w:World)(h0:l≠[])(hbk:w.heap[b]?=some (.cells #[p,.slice (some ⟨g,0,none⟩) l.length cap] 251 (0,0)))(hg:w.heap[g]?=some (.cells cur 5 (0,0)))(BN:l.length≤cap)(vz:cap≤9223372036854775807)(I3:cur.size=cap)(adg:cur.toList.take l.length=iK l):
  Calls Tryz.prog 163 #[.pointer (some ⟨b,0,none⟩)] w fun e w'=>e=.returned (.string ⟨l.toArray⟩)∧w'=w.drew.freeze ⟨g,0,none⟩ l.length:=by
 have mixed:=Mx;have QA:l.length≠0:=by simpa using h0
 have c1:w.drew.cell? ⟨b,1,none⟩=some (.slice (some ⟨g,0,none⟩) l.length cap):=by
  have:w.drew.heap[b]?=some (.cells #[p,.slice (some ⟨g,0,none⟩) l.length cap] 251 (0,0)):=hbk;rw[Lib.cell_of_heap this];rfl
 have hSD:(Builtin.unsafeSliceData_ #[217] 300 #[.slice (some ⟨g,0,none⟩) l.length cap]).run Tryz.prog w.drew=.ok (.pointer (some ⟨g,0,none⟩)) w.drew:=
  Lib.run_unsafeSliceData_row _ _ _ _ _ _ zO
 have hUS:(Builtin.unsafeString_ #[300,3] 9 #[.pointer (some ⟨g,0,none⟩),.int .i64 l.length]).run Tryz.prog w.drew=.ok (.string ⟨l.toArray⟩) (w.drew.freeze ⟨g,0,none⟩ l.length):=by
  refine Lib.run_unsafeString_row w.drew 300 3 9 5 Tryz.underlying300 (by kernel_rfl) g cur.size (by have nr:w.drew.heap[g]?=some (.cells cur 5 (0,0)):=hg;simp[World.shape?,nr]) l h0 zO zO ?_;intro j x hx;have bN:j<l.length:=(List.getElem?_eq_some_iff.1 hx).1;have h1:(cur.toList.take l.length)[j]?=some (Value.int .u8 x.toNat):=by rw[adg];simp[iK,hx]
  rw[List.getElem?_take,if_pos bN]at h1;have nr:w.drew.heap[g]?=some (.cells cur 5 (0,0)):=hg;rw[Ha];simp only[World.cell?,nr];simpa using h1
 go_enter Tryz.func163,Tryz.ntmps163
 go_wp2
 go_region_o
 all_goals(go_wp2;go_ret;exact⟨rfl,rfl⟩)
theorem M'(id j n:Nat)(s:ae)(hs:s≠[])(hn:s.length=n)(hb:n≤aH)(aG:Nat.beq id j=false):bh Tryz.prog 163 [.box id 0] [(id,.fu j n),(j,.ba s)] (.str s) [(id,.dead),(j,.dead)]:=⟨fun w O ρ vals af _ hv=>by
 simp only[Vs,V]at hv;obtain⟨_,_,rfl,⟨l,hl,rfl⟩,rfl⟩:=hv;have QH:id≠j:=by rintro rfl;simp at aG
 have hg:aa.get [(id,Ob.fu j n),(j,.ba s)] id=some (.fu j n):=by simp[aa.get]
 have Qu:aa.get [(id,Ob.fu j n),(j,.ba s)] j=some (.ba s):=by simp[aa.get,aG]
 obtain⟨l',h1,h2,p,v,h3,h4,h5⟩:=af.own id _ hg rfl;rw[hl]at h1;cases h1;have dT:(Ob.ba s).live=true:=by
  cases s with
  |nil=>exact absurd rfl hs
  |cons r rs=>rfl
 have gb:n≠0:=by rw[←hn];exact fun e=>hs (List.length_eq_zero_iff.1 e)
 obtain⟨lj,g1,g2,c,g3,g4,g5,g6,g7,g8⟩:=af.own j _ Qu dT;obtain⟨_,RY,k1,rfl⟩:n≠0∧∃lj,ρ j=some lj∧v=.slice (some ⟨lj.b,0,none⟩) n lj.cap:=by
  rcases h5 with⟨e,_⟩|h5
  ·exact absurd e gb
  ·exact h5
 rw[g1]at k1;cases k1;subst hn;refine(Xc l.b lj.b lj.cap p c s w hs h3 g3 g6 g7 g5 g8).mono ?_;rintro e w' ⟨rfl,rfl⟩;have sF:(w.drew.freeze ⟨lj.b,0,none⟩ s.length).heap=w.heap.setIfInBounds lj.b (.cells c n_ (0,s.length)):=by
  have bN:=(Array.getElem?_eq_some_iff.1 g3).1;unfold World.freeze;rw[if_neg gb];have Qi:w.drew.heap=w.heap:=rfl;apply Array.ext zS;intro i q1 q2;rw[Array.getElem_setIfInBounds];simp only[Qi,Array.getElem_modify];by_cases e:lj.b=i
  ·subst e;have:w.heap[lj.b]=.cells c n_ (0,0):=Option.some.inj ((Array.getElem?_eq_getElem bN).symm.trans g3);simp[this]
  ·simp[e]
  ·simpa[Qi]using q1
 have hos:(w.drew.freeze ⟨lj.b,0,none⟩ s.length).os=w.os∧(w.drew.freeze ⟨lj.b,0,none⟩ s.length).output=w.output∧iU w (w.drew.freeze ⟨lj.b,0,none⟩ s.length):=by
  unfold World.freeze;rw[if_neg gb];exact⟨rfl,rfl,.inr trivial⟩
 have I6:∀i x,aa.get [(id,Ob.dead),(j,.dead)] i=some x→x.live=false:=by
  intro i x hx;simp only[aa.bf]at hx;split at hx
  ·cases hx;rfl
  ·split at hx
   ·cases hx;rfl
   ·simp[aa.get]at hx
 have cz:∀b,¬b9 ρ [(id,.dead),(j,.dead)] b:=by
  rintro b ⟨i,x,l2,q1,q2,_⟩;rw[I6 i x q1]at q2;cases q2
 refine⟨_,ρ,rfl,⟨bO.refl _,by rw[sF];simp,fun b hb ho=>?_,fun b hb=>absurd hb (cz b),⟨fun b hb=>by rw[sF];simpa using af.lt b hb,fun i hi=>af.fresh i ?_,fun i x q1 q2=>?_,fun i j' x x' l1 l2 q1 q2 q3=>?_⟩,hos⟩,?_⟩
 ·rw[sF,Array.getElem?_setIfInBounds,if_neg];rintro rfl;exact ho ⟨j,_,lj,Qu,dT,g1,rfl⟩
 ·simp only[aa.bf]at hi⊢;split at hi
  ·cases hi
  ·split at hi
   ·cases hi
   ·rename_i q1 q2;rw[if_neg q1,if_neg q2];rfl
 ·rw[I6 i x q1]at q2;cases q2
 ·rw[I6 i x q1]at q3;cases q3
 ·simp only[V];exact⟨trivial,hb⟩⟩
@[reducible] def yW:ae:=[48,49,50,51,52,53,54,55,56,57]
theorem ZA(c:UInt8):yW.contains c=dh c:=by
 have h:∀n:Fin 256,yW.contains (UInt8.ofNat n.1)=dh (UInt8.ofNat n.1):=by decide+kernel
 have:=h ⟨c.toNat,c.toNat_lt⟩;simpa using this
def Dn(s:ae):ae:=Lib.trimS s yW
theorem Ed(p:UInt8→Bool)(s:ae):s.dropWhile p=[]↔s.all p=true:=by
 induction s with
 |nil=>simp
 |cons c r ih=>
  by_cases h:p c=true
  ·rw[List.dropWhile_cons_of_pos h,ih];simp[h]
  ·rw[List.dropWhile_cons_of_neg h];simp[h]
theorem Ec(p:UInt8→Bool)(s:ae):(s.dropWhile p).length≤s.length:=by
 induction s with
 |nil=>simp
 |cons c r ih=>
  by_cases h:p c=true
  ·rw[List.dropWhile_cons_of_pos h];simp;omega
  ·rw[List.dropWhile_cons_of_neg h];simp
theorem Ol(p:UInt8→Bool)(s:ae)(h:(s.dropWhile p).all p=true):s.all p=true:=by
 induction s with
 |nil=>rfl
 |cons c r ih=>
  by_cases hc:p c=true
  ·rw[List.dropWhile_cons_of_pos hc]at h;simp only[List.all_cons,hc,ih h,Bool.and_self]
  ·rw[List.dropWhile_cons_of_neg hc]at h;exact h
theorem GG(s:ae):Dn s=[]↔s.all dh=true:=by
 have hp:(yW.contains ·)=dh:=funext ZA;unfold Dn Lib.trimS Lib.trimLeftS Lib.trimRightS;rw[hp,Ed,List.all_reverse];constructor
 ·intro h;have:=Ol dh s.reverse h;rwa[List.all_reverse]at this
 ·intro h;rw[(Ed dh s.reverse).2 (by rwa[List.all_reverse])];rfl
theorem amQ(s:ae):(Dn s).length≤s.length:=by
 unfold Dn Lib.trimS Lib.trimLeftS Lib.trimRightS;refine Nat.le_trans (Ec _ _) ?_;rw[List.length_reverse];refine Nat.le_trans (Ec _ _) zS
theorem amR(s:ae):Fc Tryz.prog 192 [.str s,.str yW] (.str (Dn s)):=.qP fun w O ρ vals _ hv=>by
 obtain⟨rfl,hb,_⟩:=hv.Dh;refine(Any.strings_Trim_laid Tryz.RL (by kernel_rfl) ⟨s.toArray⟩ ⟨yW.toArray⟩ w (by simp[ByteArray.size];unfold aH at hb;omega) zD (ascii_of_all zD)).mono ?_;rintro e w' ⟨rfl,hw⟩;refine⟨_,rfl,?_,gL.below hw⟩;have:=amQ s;simp only[V];exact⟨rfl,by omega⟩
end Go.T
namespace Go.T
open Go
def dA(l:List Nat):Nat:=l.getLastD default
theorem vL{l pre rest:List Nat}{n:Int}(h:l=pre++rest)(h0:0<pre.length)(hn:n=(pre.length:Int)-1):(bD l)[n.toNat]?=some [.raw (.int .u64 (dA pre:Int))]:=E9 (fun(n:Nat)=>[D.raw (.int .u64 (n:Int))]) h h0 hn
def tg(y:Nat):ae:=List.replicate (9-(Lib.decDigits y).length) 48++Lib.decDigits y
def oE(lo:List Nat):ae:=(lo.reverse.map tg).flatten
theorem TP:oE []=[]:=rfl
theorem FV(i:List Nat)(x:Nat):oE (i++[x])=tg x++oE i:=by simp[oE]
theorem TQ{lo:List Nat}(h:lo.length≠0):oE lo=tg (dA lo)++oE lo.dropLast:=by
 rcases nS lo with rfl|⟨i,x,rfl⟩
 ·simp at h
 ·rw[FV];simp[dA]
def uY(neg:Bool)(m:List Nat):ae:=if(bp m).length=0 then[]else(if neg then[45]else[])++Lib.decDigits (dA (bp m))++oE (bp m).dropLast
theorem yT{y:Nat}(h:y<gB):(Lib.decDigits y).length≤9:=by
 by_cases e:y=0
 ·subst e;rw[Lib.decDigits_length,Lib.nDigits_small zO];omega
 ·rw[D5 y e];exact FG 9 y (by unfold gB at h;omega)
theorem ahn{y:Nat}(h:y<gB):(tg y).length=9:=by
 have:=yT h;simp[tg];omega
theorem xO{l:List Nat}(h:l.length≠0):dA l∈l:=by
 rcases nS l with rfl|⟨i,x,rfl⟩
 ·simp at h
 ·simp[dA]
theorem tL{l:List Nat}(h:l.length≠0):l=l.dropLast++[dA l]:=by
 rcases nS l with rfl|⟨i,x,rfl⟩
 ·simp at h
 ·simp[dA]
theorem HK(y:Nat):Lib.decDigits y≠[]:=by
 intro h;have:=congrArg List.length h;rw[Lib.decDigits_length]at this;rw[Lib.nDigits]at this;split at this<;>simp at this
theorem agq(k:Nat):natVal (List.replicate k 48)=0:=by
 induction k with
 |zero=>rfl
 |succ k ih=>rw[List.replicate_succ',uA,ih];rfl
theorem S8(y:Nat):natVal (Lib.decDigits y)=y:=by
 by_cases e:y=0
 ·subst e;rw[Lib.decDigits];rfl
 ·rw[D5 y e,S9]
theorem ago(y:Nat):natVal (tg y)=y:=by
 unfold tg;rw[v7,agq,S8];omega
theorem TN{lo:List Nat}(h:aU lo):(oE lo).length=9*lo.length:=by
 induction lo using tp with
 |h0=>rfl
 |h1 i x ih=>
  rw[FV,List.length_append,ahn (h x zS),ih (fun y hy=>h y (by simp[hy]))];simp;omega
theorem agp{lo:List Nat}(h:aU lo):natVal (oE lo)=ao lo:=by
 induction lo using tp with
 |h0=>rfl
 |h1 i x ih=>
  have hi:aU i:=fun y hy=>h y (by simp[hy]);rw[FV,v7,ago,ih hi,vX,TN hi];have:(10:Nat)^(9*i.length)=gB^i.length:=by rw[Nat.pow_mul];rfl
  rw[this];simp only[ao,Nat.mul_zero,Nat.add_zero];rw[Nat.mul_comm x];omega
theorem NU(y:Nat):(Lib.decDigits y).all dh=true:=by
 by_cases e:y=0
 ·subst e;rw[Lib.decDigits];decide
 ·rw[D5 y e];exact FF y
theorem aho(lo:List Nat):(oE lo).all dh=true:=by
 induction lo using tp with
 |h0=>rfl
 |h1 i x ih=>
  rw[FV,List.all_append,ih,Bool.and_true];unfold tg;rw[List.all_append,NU,Bool.and_true];simp[dh]
theorem Ky{s:ae}(hd:s.all dh=true)(h0:ff s=s):s=iP (natVal s):=by
 induction s using tp with
 |h0=>rw[show natVal []=0 from rfl,nM]
 |h1 i x ih=>
  rw[List.all_append,Bool.and_eq_true]at hd;have hx:=hd.2;simp only[List.all_cons,List.all_nil,Bool.and_true,dh,Bool.and_eq_true,decide_eq_true_eq]at hx;rw[uA];have Q1:UInt8.ofNat (48+(x.toNat-48))=x:=by
   rw[show 48+(x.toNat-48)=x.toNat by omega];simp
  cases i with
  |nil=>
   have aG:x.toNat≠48:=by
    intro e;have:=Bg (s:=[x]) zS (by simpa using e);simp only[List.nil_append]at h0;rw[h0]at this;simp[ff]at this
   rw[show natVal ([]:ae)=0 from rfl,uz zO];have h1:(10*0+(x.toNat-48))/10=0:=by omega
   have h2:(10*0+(x.toNat-48))%10=x.toNat-48:=by omega
   rw[h1,h2,nM,Q1]
  |cons c r=>
   have hc:ff (c::r)=c::r:=by
    apply w5;rintro⟨_,e⟩;have:=Bg (s:=c::r++[x]) zS (by simpa using e);rw[h0]at this;have h3:=Ea ((c::r++[x]).drop 1);rw[←this]at h3;simp at h3;omega
   have hi:=ih hd.1 hc;have JB:natVal (c::r)≠0:=by
    intro e;rw[e,nM]at hi;cases hi
   rw[uz zO];have h1:(10*natVal (c::r)+(x.toNat-48))/10=natVal (c::r):=by omega
   have h2:(10*natVal (c::r)+(x.toNat-48))%10=x.toNat-48:=by omega
   rw[h1,h2,←hi,Q1]
theorem Dl(neg:Bool){m:List Nat}(h:aU m):uY neg m=ofInt (if neg then -(ao m:Int)else ao m):=by
 unfold uY;have hc:=yR h;have hv:=D3 m;split
 ·rename_i h0;have:bp m=[]:=List.length_eq_zero_iff.1 h0;rw[this]at hv;rw[←hv];simp[ao,agP]
 ·rename_i h0;have e:=tL h0;have QB:dA (bp m)≠0:=by
   rcases nS (bp m)with e2|⟨i,x,e2⟩
   ·rw[e2]at h0;simp at h0
   ·rw[e2];simp only[dA,List.getLastD_eq_getLast?,List.getLast?_append,List.getLast?_singleton,Option.some_or,Option.getD_some];intro ex;subst ex;have:bp (bp m)=bp m:=by
     unfold bp;rw[List.reverse_reverse];have:∀l:List Nat,(l.dropWhile (· ==0)).dropWhile (· ==0)=l.dropWhile (· ==0):=by
      intro l;induction l with
      |nil=>rfl
      |cons a l ih=>by_cases ha:a=0<;>simp[ha,ih]
     rw[this]
    rw[e2,tI]at this;have h3:=vg i;rw[this]at h3;simp at h3;omega
  have qz:aU (bp m).dropLast:=fun y hy=>hc y (List.dropLast_subset _ hy);have QG:ao m=natVal (Lib.decDigits (dA (bp m))++oE (bp m).dropLast):=by
   rw[v7,S8,agp qz,TN qz,←hv];conv=>lhs;rw[e]
   rw[vX];have:(10:Nat)^(9*(bp m).dropLast.length)=gB^(bp m).dropLast.length:=by rw[Nat.pow_mul];rfl
   rw[this];simp only[ao,Nat.mul_zero,Nat.add_zero];rw[Nat.mul_comm (dA (bp m))];omega
  have Qj:(Lib.decDigits (dA (bp m))++oE (bp m).dropLast).all dh=true:=by rw[List.all_append,NU,aho];rfl
  have hz:ff (Lib.decDigits (dA (bp m))++oE (bp m).dropLast)=Lib.decDigits (dA (bp m))++oE (bp m).dropLast:=by
   rw[D5 _ QB];apply w5;rintro⟨_,e3⟩;cases hd:iP (dA (bp m))with
   |nil=>exact QB (FH.1 hd)
   |cons c r=>rw[hd]at e3;exact S0 _ c r hd (by simpa using e3)
  have JB:ao m≠0:=by
   intro e3;have h4:=Ky Qj hz;rw[←QG,e3,nM]at h4;have:=HK (dA (bp m));exact this (List.append_eq_nil_iff.1 h4).1
  have hu:=Ky Qj hz;rw[←QG]at hu;cases neg with
  |false=>
   simp only[Bool.false_eq_true,if_false,List.nil_append,hu];unfold ofInt;rw[if_neg zO];simp
  |true=>
   simp only[if_true,List.append_assoc,hu];unfold ofInt;rw[if_pos zO];simp
def iW:List Nat→List Nat→Nat→List Nat
 |[],_,c=>if 0<c then[c]else[]
 |a::x,[],c=>(a+c)%gB::iW x [] ((a+c)/gB)
 |a::x,b::y,c=>(a+c+b)%gB::iW x y ((a+c+b)/gB)
theorem ee:0<gB:=by unfold gB;omega
theorem DI:∀(x y:List Nat)(c:Nat),y.length≤x.length→ao (iW x y c)=ao x+ao y+c
 |[],y,c,h=>by
  have:y=[]:=List.length_eq_zero_iff.1 (by simpa using h);subst this;simp only[iW];split
  ·simp[ao]
  ·simp[ao];omega
 |a::x,[],c,h=>by
  simp only[iW,ao,DI x [] _ zS];have:=Nat.mod_add_div (a+c) gB;rw[Nat.mul_add,Nat.mul_add];omega
 |a::x,b::y,c,h=>by
  simp only[iW,ao,DI x y _ (by simpa using h)];have:=Nat.mod_add_div (a+c+b) gB;rw[Nat.mul_add,Nat.mul_add];omega
theorem DH:∀(x y:List Nat)(c:Nat),aU x→aU y→c≤1→aU (iW x y c)
 |[],y,c,hx,hy,hc=>by
  simp only[iW];split
  ·intro z hz;simp at hz;subst hz;unfold gB;omega
  ·intro z hz;simp at hz
 |a::x,[],c,hx,hy,hc=>by
  have ha:=hx a zS;simp only[iW];intro z hz;rcases List.mem_cons.1 hz with rfl|hz
  ·exact Nat.mod_lt _ ee
  ·exact DH x [] _ (fun u hu=>hx u (by simp[hu])) hy (by rw[Nat.div_le_iff_le_mul_add_pred ee];unfold gB at*;omega) z hz
 |a::x,b::y,c,hx,hy,hc=>by
  have ha:=hx a zS;have hb:=hy b zS;simp only[iW];intro z hz;rcases List.mem_cons.1 hz with rfl|hz
  ·exact Nat.mod_lt _ ee
  ·exact DH x y _ (fun u hu=>hx u (by simp[hu])) (fun u hu=>hy u (by simp[hu])) (by rw[Nat.div_le_iff_le_mul_add_pred ee];unfold gB at*;omega) z hz
theorem DG:∀(x y:List Nat)(c:Nat),(iW x y c).length≤x.length+1
 |[],y,c=>by simp only[iW];split<;>simp
 |a::x,[],c=>by simp only[iW,List.length_cons];have:=DG x [] ((a+c)/gB);omega
 |a::x,b::y,c=>by simp only[iW,List.length_cons];have:=DG x y ((a+c+b)/gB);omega
def nQ(x y:List Nat):List Nat:=if x.length<y.length then iW y x 0 else iW x y 0
theorem Lf(x y:List Nat):ao (nQ x y)=ao x+ao y:=by
 unfold nQ;split
 ·rw[DI _ _ _ zO];omega
 ·rw[DI _ _ _ zO];omega
theorem F0{x y:List Nat}(hx:aU x)(hy:aU y):aU (nQ x y):=by
 unfold nQ;split
 ·exact DH _ _ _ hy hx zO
 ·exact DH _ _ _ hx hy zO
theorem Ld(x y:List Nat):(nQ x y).length≤x.length+y.length+1:=by
 unfold nQ;split
 ·have:=DG y x 0;omega
 ·have:=DG x y 0;omega
def gK:List Nat→List Nat→Nat→List Nat
 |[],_,_=>[]
 |a::x,[],c=>(if a<c then a+gB-c else a-c)::gK x [] (if a<c then 1 else 0)
 |a::x,b::y,c=>(if a<c+b then a+gB-(c+b)else a-(c+b))::gK x y (if a<c+b then 1 else 0)
theorem uV:∀(x y:List Nat)(c:Nat),aU x→aU y→c≤1→ao y+c≤ao x→ao (gK x y c)=ao x-(ao y+c)
 |[],y,c,hx,hy,hc,h=>by
  simp only[ao]at h;simp[gK,ao]
 |a::x,[],c,hx,hy,hc,h=>by
  have ha:=hx a zS;have nC:aU x:=fun u hu=>hx u (by simp[hu]);simp only[ao]at h;simp only[gK,ao];by_cases hl:a<c
  ·rw[if_pos hl,if_pos hl];have h1:1≤ao x:=by
    rcases Nat.eq_zero_or_pos (ao x)with e|e
    ·rw[e]at h;omega
    ·exact e
   rw[uV x [] 1 nC hy zO (by simp only[ao];omega)];simp only[ao];have:gB*(ao x-(0+1))=gB*ao x-gB:=by rw[Nat.mul_sub];omega
   rw[this];have:gB*1≤gB*ao x:=Nat.mul_le_mul_left _ h1;unfold gB at*;omega
  ·rw[if_neg hl,if_neg hl,uV x [] 0 nC hy zO (by simp only[ao];omega)];simp only[ao];rw[show ao x-(0+0)=ao x from by omega];omega
 |a::x,b::y,c,hx,hy,hc,h=>by
  have ha:=hx a zS;have hb:=hy b zS;have nC:aU x:=fun u hu=>hx u (by simp[hu]);have xK:aU y:=fun u hu=>hy u (by simp[hu]);simp only[ao]at h;simp only[gK,ao];by_cases hl:a<c+b
  ·rw[if_pos hl,if_pos hl];have h1:ao y+1≤ao x:=by
    rcases Nat.lt_or_ge (ao y) (ao x)with e|e
    ·omega
    ·have:=Nat.mul_le_mul_left gB e;omega
   rw[uV x y 1 nC xK zO h1];have e1:gB*(ao x-(ao y+1))=gB*ao x-(gB*ao y+gB):=by rw[Nat.mul_sub,Nat.mul_add,Nat.mul_one]
   have e2:=Nat.mul_le_mul_left gB h1;rw[Nat.mul_add,Nat.mul_one]at e2;rw[e1];omega
  ·rw[if_neg hl,if_neg hl];have h1:ao y≤ao x:=by
    rcases Nat.lt_or_ge (ao x) (ao y)with e|e
    ·have:=Nat.mul_le_mul_left gB (show ao x+1≤ao y from e);rw[Nat.mul_add]at this;unfold gB at*;omega
    ·exact e
   rw[uV x y 0 nC xK zO h1,Nat.add_zero,Nat.mul_sub];have:=Nat.mul_le_mul_left gB h1;omega
theorem yx:∀(x y:List Nat)(c:Nat),aU x→aU y→c≤1→aU (gK x y c)
 |[],y,c,hx,hy,hc=>by intro z hz;simp[gK]at hz
 |a::x,[],c,hx,hy,hc=>by
  have ha:=hx a zS;intro z hz;simp only[gK,List.mem_cons]at hz;rcases hz with rfl|hz
  ·split<;>omega
  ·exact yx x [] _ (fun u hu=>hx u (by simp[hu])) hy (by split<;>omega) z hz
 |a::x,b::y,c,hx,hy,hc=>by
  have ha:=hx a zS;have hb:=hy b zS;intro z hz;simp only[gK,List.mem_cons]at hz;rcases hz with rfl|hz
  ·split<;>omega
  ·exact yx x y _ (fun u hu=>hx u (by simp[hu])) (fun u hu=>hy u (by simp[hu])) (by split<;>omega) z hz
theorem Di:∀(x y:List Nat)(c:Nat),(gK x y c).length=x.length
 |[],y,c=>by simp[gK]
 |a::x,[],c=>by simp[gK,Di x]
 |a::x,b::y,c=>by simp[gK,Di x]
def jz:List Nat→List Nat→Int
 |a::x,b::y=>if a<b then -1 else if b<a then 1 else jz x y
 |_,_=>0
def js(x y:List Nat):Int:=if x.length≠y.length then(x.length:Int)-y.length else jz x.reverse y.reverse
theorem DZ{x y:List Nat}(hx:x.length≠0)(he:x.length=y.length):jz x.reverse y.reverse=if dA x<dA y then -1 else if dA y<dA x then 1 else jz x.dropLast.reverse y.dropLast.reverse:=by
 rcases nS x with rfl|⟨i,a,rfl⟩
 ·simp at hx
 rcases nS y with rfl|⟨j,b,rfl⟩
 ·simp at he
 simp[jz,dA]
theorem HC{x y:List Nat}(hx:x.length=0):jz x.reverse y.reverse=0:=by
 rw[List.length_eq_zero_iff.1 hx];rfl
theorem Yr{x y:List Nat}(h:x.length=y.length):js x y=jz x.reverse y.reverse:=by unfold js;rw[if_neg zO]
theorem Yq(x y:List Nat)(hx:x.length≤20000)(hy:y.length≤20000):-20000≤js x y∧js x y≤20000:=by
 unfold js;split
 ·omega
 ·have:∀a b:List Nat,-1≤jz a b∧jz a b≤1:=by
   intro a;induction a with
   |nil=>intro b;simp[jz]
   |cons a x ih=>
    intro b;cases b with
    |nil=>simp[jz]
    |cons b y=>
     simp only[jz];split
     ·omega
     ·split
      ·omega
      ·exact ih y
  have:=this x.reverse y.reverse;omega
theorem Nw:∀(n:Nat)(x y:List Nat),x.length=n→y.length=n→aU x→aU y→
  (jz x.reverse y.reverse<0↔ao x<ao y)∧(0<jz x.reverse y.reverse↔ao y<ao x)
 |0,x,y,hx,hy,_,_=>by
  rw[List.length_eq_zero_iff.1 hx,List.length_eq_zero_iff.1 hy];simp[jz,ao]
 |n+1,x,y,hx,hy,ox,oy=>by
  rcases nS x with rfl|⟨i,a,rfl⟩
  ·simp at hx
  rcases nS y with rfl|⟨j,b,rfl⟩
  ·simp at hy
  have hi:i.length=n:=by simpa using hx
  have hj:j.length=n:=by simpa using hy
  have oi:aU i:=fun u hu=>ox u (by simp[hu]);have oj:aU j:=fun u hu=>oy u (by simp[hu]);have ih:=Nw n i j hi hj oi oj;have li:=uv oi;have lj:=uv oj;rw[hi]at li;rw[hj]at lj;simp only[List.reverse_append,List.reverse_singleton,List.singleton_append,jz,vX,ao,hi,hj,Nat.mul_zero,Nat.add_zero];by_cases h1:a<b
  ·rw[if_pos h1];have:=Nat.mul_le_mul_left (gB^n) (show a+1≤b from h1);rw[Nat.mul_add,Nat.mul_one]at this;constructor<;>constructor<;>intro h<;>omega
  ·rw[if_neg h1];by_cases h2:b<a
   ·rw[if_pos h2];have:=Nat.mul_le_mul_left (gB^n) (show b+1≤a from h2);rw[Nat.mul_add,Nat.mul_one]at this;constructor<;>constructor<;>intro h<;>omega
   ·rw[if_neg h2];have:a=b:=by omega
    subst this;constructor
    ·rw[ih.1];omega
    ·rw[ih.2];omega
theorem Kg{x:List Nat}(hc:bp x=x)(h0:x.length≠0):gB^(x.length-1)≤ao x:=by
 rcases nS x with rfl|⟨i,a,rfl⟩
 ·simp at h0
 have ha:a≠0:=by
  rintro rfl;rw[tI]at hc;have:=vg i;rw[hc]at this;simp at this;omega
 rw[vX];simp only[ao,Nat.mul_zero,Nat.add_zero,List.length_append,List.length_singleton,Nat.add_sub_cancel];have:=Nat.mul_le_mul_left (gB^i.length) (show 1≤a by omega);omega
theorem Sl{x y:List Nat}(ox:aU x)(cy:bp y=y)(h:x.length<y.length):ao x<ao y:=by
 have h1:=uv ox;have h2:=Kg cy zO;have h3:gB^x.length≤gB^(y.length-1):=Nat.pow_le_pow_right ee zO;omega
theorem DX{x y:List Nat}(ox:aU x)(oy:aU y)(cx:bp x=x)(cy:bp y=y):
  (js x y<0↔ao x<ao y)∧(0<js x y↔ao y<ao x):=by
 unfold js;split
 ·rename_i h;rcases Nat.lt_or_ge x.length y.length with hl|hl
  ·have:=Sl ox cy hl;constructor<;>constructor<;>intro h<;>omega
  ·have:=Sl oy cx (show y.length<x.length by omega);constructor<;>constructor<;>intro h<;>omega
 ·rename_i h;exact Nw y.length x y zO rfl ox oy
theorem HI{x:List Nat}(h:x.length≠0→dA x≠0):bp x=x:=by
 rcases nS x with rfl|⟨i,a,rfl⟩
 ·rfl
 ·exact yS i (by simpa[dA]using h zS)
theorem agn{c:UInt8}{r:ae}(hc:dh c=true)(h:c≠48):natVal (c::r)≠0:=by
 have e:natVal (c::r)=natVal ([c]++r):=rfl;rw[e,v7];have h1:natVal [c]=c.toNat-48:=by simp[natVal]
 have h2:c.toNat≠48:=fun e=>h (UInt8.toNat_inj.1 e);have h3:48≤c.toNat:=by simp[dh]at hc;exact hc.1
 rw[h1];have:0<(c.toNat-48)*10^r.length:=Nat.mul_pos zO (Nat.pow_pos zO);omega
theorem RI{a:Nat}{l:List Nat}(h:l.length≠0):dA (a::l)=dA l:=by
 cases l with
 |nil=>simp at h
 |cons b l=>simp[dA]
theorem PN{d:ae}(h:d.length≠0):(gu d).length≠0:=by rw[zj h];simp
theorem acd(d:ae)(hd:d.all dh=true)(h0:d.head?≠some 48)(hn:d.length≠0):dA (gu d)≠0:=by
 induction h:d.length using Nat.strongRecOn generalizing d with
 |_ n ih=>
  rw[zj hn];by_cases hl:d.length≤9
  ·have e1:d.length-9=0:=by omega
   rw[e1,List.take_zero,List.drop_zero,tX];show natVal d≠0;cases d with
   |nil=>simp at hn
   |cons c r=>exact agn (by simp at hd;exact hd.1) (by simpa using h0)
  ·have bW:(d.take (d.length-9)).length=d.length-9:=by simp
   rw[RI (PN zO)];refine ih (d.length-9) zO _ ?_ ?_ zO bW
   ·rw[List.all_eq_true]at hd⊢;exact fun x hx=>hd x (List.mem_of_mem_take hx)
   ·rw[List.head?_take,if_neg zO];exact h0
theorem Z3(s:ae):(ff s).head?≠some 48:=by
 induction s with
 |nil=>simp[ff]
 |cons c r ih=>
  unfold ff;split
  ·rename_i o_;simp at o_;rw[←o_.2];exact ih
  ·rename_i aG;simp only[List.head?_cons];intro h;injection h with h;subst h;exact aG r rfl
theorem D7(s:ae):(digits s).1.head?≠some 48:=by
 unfold digits;split
 ·exact Z3 _
 ·simp
theorem Zx(s:ae):bp (gu (digits s).1)=gu (digits s).1:=HI fun h=>acd _ (pM s) (D7 s) (by intro e;apply h;rw[List.length_eq_zero_iff.1 e,tX];rfl)
theorem D8(s:ae)(h:(digits s).2=true):(gu (digits s).1).length≠0:=by
 apply PN;unfold digits at h⊢;split at h
 ·rename_i hd;rw[if_pos hd];simp only[Bool.and_eq_true,decide_eq_true_eq]at h;intro e;exact h.2 (List.length_eq_zero_iff.1 e)
 ·simp at h
def kL(neg:Bool)(m:List Nat):Int:=if neg then -(ao m:Int)else ao m
theorem nN(s:ae):kL (digits s).2 (gu (digits s).1)=val s:=by
 unfold kL val;rw[(IF _ (pM s)).2]
def jf(n:Int):Int:=if n<0 then -1 else if 0<n then 1 else 0
theorem Cr{x:List Nat}(hc:bp x=x)(h0:x.length≠0):0<ao x:=Nat.lt_of_lt_of_le (Nat.pow_pos ee) (Kg hc h0)
structure pq(neg:Bool)(m:List Nat):Prop where
 ok:aU m
 cut:bp m=m
 Cx:neg=true→m.length≠0
theorem oB(s:ae):pq (digits s).2 (gu (digits s).1):=⟨(IF _ (pM s)).1,Zx s,D8 s⟩
theorem addN{a b:Nat}(h:a+b<18446744073709551616):IntKind.u64.wrap ((a:Int)+(b:Int))=((a+b:Nat):Int):=by
 rw[u5 zO zO];simp
theorem rY{a b:Nat}(hb:b≤a)(h:a<18446744073709551616):IntKind.u64.wrap ((a:Int)-(b:Int))=((a-b:Nat):Int):=by
 rw[u5 zO zO];omega
theorem wm{a:Nat}(h:a<18446744073709551616):IntKind.u64.wrap ((a:Int).tdiv 1000000000)=((a/gB:Nat):Int):=by
 have e:(a:Int).tdiv 1000000000=((a/gB:Nat):Int):=by
  rw[Int.tdiv_eq_ediv_of_nonneg zO];unfold gB;omega
 rw[e];have:a/gB≤a:=Nat.div_le_self _ _;generalize a/gB=q at this⊢;exact u5 zO zO
theorem uL(a:Nat):(a:Int).tmod 1000000000=((a%gB:Nat):Int):=by
 rw[Int.tmod_eq_emod_of_nonneg zO];unfold gB;omega
theorem fY(o:List Nat)(a:Nat)(r:List Nat):(bD (o++a::r))[o.length]?=some [.raw (.int .u64 (a:Int))]:=by simp[bD]
theorem im{rows:List (List D)}{j:Nat}{r r':List D}(h:rows[j]?=some r):(rows.set j r')[j]?=some r':=by
 have:=(List.getElem?_eq_some_iff.1 h).1;simp[this]
theorem tO(o:List Nat)(a x:Nat)(r:List Nat):(bD (o++a::r)).set o.length [.raw (.int .u64 (x:Int))]=bD (o++x::r):=by
 simp[bD,List.set_append]
theorem ui{l:List Nat}{n:Int}{k b:Nat}{r:List Nat}(hd:l.drop k=b::r)(hn:n=(k:Int)):(bD l)[n.toNat]?=some [.raw (.int .u64 (b:Int))]:=by
 subst hn;have:l[k]?=some b:=by
  have:=congrArg (fun x=>x[0]?) hd;simpa using this
 simp[bD,this]
def lY(l:List Nat)(k:Nat):Nat:=l.getD k 0
theorem Cz{l:List Nat}{k:Nat}(h:k<l.length):l.drop k=lY l k::l.drop (k+1):=by
 rw[List.drop_eq_getElem_cons h];simp[lY,h]
theorem KI{l:List Nat}{k:Nat}(hm:aU l):lY l k<gB:=by
 unfold lY;rcases Nat.lt_or_ge k l.length with h|h
 ·simp only[List.getD_eq_getElem?_getD,List.getElem?_eq_getElem h,Option.getD_some];exact hm _ (List.getElem_mem h)
 ·simp only[List.getD_eq_getElem?_getD,List.getElem?_eq_none h,Option.getD_none];exact ee
theorem L0{a:Nat}{rest y:List Nat}{k c:Nat}(h:k<y.length):gK (a::rest) (y.drop k) c=(if a<c+lY y k then a+gB-(c+lY y k)else a-(c+lY y k))::gK rest (y.drop (k+1)) (if a<c+lY y k then 1 else 0):=by rw[Cz h];rfl
theorem LZ{a:Nat}{rest y:List Nat}{k c:Nat}(h:y.length≤k):gK (a::rest) (y.drop k) c=(if a<c then a+gB-c else a-c)::gK rest (y.drop (k+1)) (if a<c then 1 else 0):=by
 rw[List.drop_of_length_le h,List.drop_of_length_le zO];rfl
theorem MD{a:Nat}{rest y:List Nat}{k c:Nat}(h:k<y.length):iW (a::rest) (y.drop k) c=(a+c+lY y k)%gB::iW rest (y.drop (k+1)) ((a+c+lY y k)/gB):=by rw[Cz h];rfl
theorem MC{a:Nat}{rest y:List Nat}{k c:Nat}(h:y.length≤k):iW (a::rest) (y.drop k) c=(a+c)%gB::iW rest (y.drop (k+1)) ((a+c)/gB):=by
 rw[List.drop_of_length_le h,List.drop_of_length_le zO];rfl
theorem T0{x y:List Nat}(h:x.length<y.length):nQ x y=iW y x 0:=by unfold nQ;rw[if_pos h]
theorem TZ{x y:List Nat}(h:y.length≤x.length):nQ x y=iW x y 0:=by unfold nQ;rw[if_neg zO]
def jk(n1:Bool)(x:List Nat)(n2:Bool)(y:List Nat):Bool×List Nat:=
 if(n1==n2)=true then(n1,nQ x y)else if js x y<0 then(n2,bp (gK y x 0))else(n1,bp (gK x y 0))
theorem Nu{x y:List Nat}(h:js x y<0):y.length≠0:=by
 intro e;unfold js at h;split at h
 ·omega
 ·rw[HC zO]at h;omega
theorem Yt{x y:List Nat}(hx:x.length=0)(hy:y.length≠0):js x y<0:=by
 unfold js;rw[if_pos zO];omega
theorem Ys{n1 n2:Bool}{x y:List Nat}(h1:pq n1 x)(h2:pq n2 y)(hn:(n1==n2)=false)(h:¬js x y<0):x.length≠0:=by
 intro e;cases n1 with
 |true=>exact h1.Cx rfl e
 |false=>
  cases n2 with
  |false=>simp at hn
  |true=>exact h (Yt e (h2.Cx rfl))
theorem MG{n1 n2:Bool}{x y:List Nat}(h1:pq n1 x)(h2:pq n2 y):aU (jk n1 x n2 y).2:=by
 unfold jk;split
 ·exact F0 h1.ok h2.ok
 ·split
  ·exact yR (yx _ _ _ h2.ok h1.ok zO)
  ·exact yR (yx _ _ _ h1.ok h2.ok zO)
theorem MF(n1 n2:Bool)(x y:List Nat):(jk n1 x n2 y).2.length≤x.length+y.length+1:=by
 unfold jk;split
 ·exact Ld x y
 ·split
  ·have:=vg (gK y x 0);rw[Di]at this;simp only;omega
  ·have:=vg (gK x y 0);rw[Di]at this;simp only;omega
theorem MH{n1 n2:Bool}{x y:List Nat}(h1:pq n1 x)(h2:pq n2 y):kL (jk n1 x n2 y).1 (jk n1 x n2 y).2=kL n1 x+kL n2 y:=by
 unfold jk;have hs:=DX h1.ok h2.ok h1.cut h2.cut;split
 ·rename_i h;have:n1=n2:=by simpa using h
  subst this;simp only[kL,Lf];cases n1<;>simp<;>omega
 ·rename_i h;split
  ·rename_i hl;have:=hs.1.1 hl;simp only[kL];rw[D3,uV _ _ _ h2.ok h1.ok zO zO];cases n1<;>cases n2<;>simp at h⊢<;>omega
  ·rename_i hl;have:¬ao x<ao y:=fun e=>hl (hs.1.2 e);simp only[kL];rw[D3,uV _ _ _ h1.ok h2.ok zO zO];cases n1<;>cases n2<;>simp at h⊢<;>omega
def yO(n1:Bool)(x:List Nat)(n2:Bool)(y:List Nat):Int:=
 max (-1) (min (if(n1 !=n2)=true then(if n1=true then -1 else 1)else if n1=true then 0-js x y else js x y) 1)
theorem DY{n1 n2:Bool}{x y:List Nat}(h1:pq n1 x)(h2:pq n2 y):yO n1 x n2 y=jf (kL n1 x-kL n2 y):=by
 have hs:=DX h1.ok h2.ok h1.cut h2.cut;unfold yO jf kL;cases n1<;>cases n2<;>simp only[bne_self_eq_false,Bool.false_bne,Bool.true_bne,Bool.not_false,Bool.not_true,if_true,if_false,Bool.false_eq_true]
 ·split
  ·rename_i h;have:=hs.1.2 zO;omega
  ·split
   ·have:=hs.2.2 zO;omega
   ·have a1:¬js x y<0:=fun e=>by have:=hs.1.1 e;omega
    have a2:¬0<js x y:=fun e=>by have:=hs.2.1 e;omega
    omega
 ·have:=Cr h2.cut (h2.Cx rfl);rw[if_neg zO,if_pos zO];rfl
 ·have:=Cr h1.cut (h1.Cx rfl);rw[if_pos zO];rfl
 ·split
  ·have:=hs.2.2 zO;omega
  ·split
   ·have:=hs.1.2 zO;omega
   ·have a1:¬js x y<0:=fun e=>by have:=hs.1.1 e;omega
    have a2:¬0<js x y:=fun e=>by have:=hs.2.1 e;omega
    omega
def kB(s:ae)(c:UInt8):ae×ae×Bool:=if 0≤Lib.indexByte s c then(s.take (Lib.indexByte s c).toNat,s.drop ((Lib.indexByte s c).toNat+1),true)else(s,[],false)
theorem Q7(c:UInt8):∀s:ae,(0≤Lib.indexByte s c∧Lib.indexByte s c<s.length∧s=s.take (Lib.indexByte s c).toNat++c::s.drop ((Lib.indexByte s c).toNat+1)∧∀x∈s.take (Lib.indexByte s c).toNat,x≠c)∨(Lib.indexByte s c=-1∧∀x∈s,x≠c)
 |[]=>.inr ⟨rfl,by simp⟩
 |b::s=>by
  unfold Lib.indexByte;by_cases h:b=c
  ·subst h;left;simp
  ·have hb:(b==c)=false:=by simpa using h
   simp only[hb,Bool.false_eq_true,if_false];rcases Q7 c s with⟨h1,h2,h3,h4⟩|⟨h1,h2⟩
   ·left;have aG:(Lib.indexByte s c==-1)=false:=by simp;omega
    simp only[aG,Bool.false_eq_true,if_false];have e:(Lib.indexByte s c+1).toNat=(Lib.indexByte s c).toNat+1:=by omega
    rw[e];refine⟨by omega,by simp;omega,?_,?_⟩
    ·simp only[List.take_succ_cons,List.cons_append,List.drop_succ_cons];rw[←h3]
    ·intro x hx;simp only[List.take_succ_cons,List.mem_cons]at hx;rcases hx with rfl|hx
     ·exact h
     ·exact h4 x hx
   ·right;simp only[h1,beq_self_eq_true,if_true,true_and];intro x hx;rcases List.mem_cons.1 hx with rfl|hx
    ·exact h
    ·exact h2 x hx
theorem g_(f:Nat→Bool)(m:SM):Ob.okB f (.mp (sl m))=true:=by
 have h:∀l:List ae,D.okB.gS f (l.map .str)=true:=by
  intro l;induction l with
  |nil=>rfl
  |cons a l ih=>simp only[List.map_cons,D.okB.gS,D.okB,ih];rfl
 have e1:(sl m).map (·.1)=(m.map (·.1)).map .str:=by simp[sl]
 have e2:(sl m).map (·.2)=(m.map (·.2)).map .str:=by simp[sl]
 simp only[Ob.okB];rw[e1,e2,h,h];rfl
theorem GJ(s:ae):-((10^s.length:Nat):Int)<val s∧val s<((10^s.length:Nat):Int):=by
 have h1:=s8 _ (pM s);have h2:10^(digits s).1.length≤10^s.length:=Nat.pow_le_pow_right zO (m_ s);unfold val;split<;>omega
theorem Tn{n:Int}{k:Nat}(h1:-((10^k:Nat):Int)<n)(h2:n<((10^k:Nat):Int)):(ofInt n).length≤k+1:=by
 have:=FG k n.natAbs zO;unfold ofInt;split
 ·simp;omega
 ·omega
theorem Wz(a b:ae):(ma a b).length≤a.length+b.length+2:=by
 have h1:=GJ a;have h2:=GJ b;have h3:10^a.length≤10^(a.length+b.length):=Nat.pow_le_pow_right zO zO;have h4:10^b.length≤10^(a.length+b.length):=Nat.pow_le_pow_right zO zO;have h5:10^(a.length+b.length+1)=10^(a.length+b.length)*10:=Nat.pow_succ ..;unfold ma;exact Tn (k:=a.length+b.length+1) zO zO
def yz(n:Nat)(seen:List Nat):Nat:=((List.range n).filter fun j=>!seen.contains j).length
theorem GI{n j:Nat}{seen:List Nat}(hj:j<n)(hs:j∉seen):yz n (seen++[j])<yz n seen:=by
 unfold yz;have key:∀l:List Nat,((l.filter fun i=>!(seen++[j]).contains i).length≤(l.filter fun i=>!seen.contains i).length)∧(j∈l→(l.filter fun i=>!(seen++[j]).contains i).length<(l.filter fun i=>!seen.contains i).length):=by
  intro l;induction l with
  |nil=>simp
  |cons a l ih=>
   by_cases ha:a=j
   ·subst ha;simp[List.filter_cons,hs];have:=ih.1;simp at this;omega
   ·by_cases hb:a∈seen
    ·simp[List.filter_cons,hb,Ne.symm ha];simpa using ih
    ·simp[List.filter_cons,hb,ha,Ne.symm ha];simpa using ih
 exact(key _).2 (by simpa using hj)
theorem vp{α:Type}{l pre rest:List α}{x:α}{p:α→Bool}(hx:l=pre++x::rest)(hp:pre.any p=false)(h:p x=true):(pre.length:Int)=if l.any p=true then(l.findIdx p:Int)else -1:=by
 subst hx;have:(pre++x::rest).any p=true:=by simp[h]
 rw[if_pos this,List.findIdx_append];have hn:¬List.findIdx p pre<pre.length:=by
  rw[List.findIdx_lt_length];rintro⟨y,hy,hpy⟩;rw[List.any_eq_false]at hp;exact hp y hy hpy
 rw[if_neg hn];simp[List.findIdx_cons,h]
theorem vo{α:Type}{l pre:List α}{p:α→Bool}(hx:l=pre++[])(hp:pre.any p=false):-1=if l.any p=true then(l.findIdx p:Int)else -1:=by
 rw[hx,List.append_nil,hp];rfl
def rn{α:Type}(P:α→Bool)(l:List α):Int:=if l.any P=true then(l.findIdx P:Int)else -1
theorem vm{α:Type}(P:α→Bool)(l:List α):decide (0≤rn P l)=l.any P:=by
 unfold rn;cases h:l.any P<;>simp
def nn(code:ae):List dB→dB×Bool
 |[]=>(⟨[],0⟩,false)
 |c::r=>if c.code=code then(c,true)else nn code r
theorem Ih{code:ae}{l pre rest:List dB}{x:dB}(hx:l=pre++x::rest)(hp:∀c∈pre,c.code≠code)(h:x.code=code):nn code l=(x,true):=by
 subst hx;induction pre with
 |nil=>simp[nn,h]
 |cons c pre ih=>rw[List.cons_append,nn,if_neg (hp c zS)];exact ih (fun d hd=>hp d (by simp[hd]))
theorem Ig{code:ae}{l pre:List dB}(hx:l=pre++[])(hp:∀c∈pre,c.code≠code):nn code l=(⟨[],0⟩,false):=by
 subst hx;induction pre with
 |nil=>rfl
 |cons c pre ih=>rw[List.cons_append,nn,if_neg (hp c zS)];exact ih (fun d hd=>hp d (by simp[hd]))
theorem O3(code:ae)(l:List dB):(nn code l).2=l.any (fun c=>decide (c.code=code)):=by
 induction l with
 |nil=>rfl
 |cons c l ih=>
  by_cases h:c.code=code<;>simp[nn,h,ih]
def qk(pre:List dB)(c:dB):Int:=if !ig c.code then 23 else if decide (c.places<0)||decide (12<c.places)then 2 else if pre.any (fun d=>decide (d.code=c.code))then 5 else 0
def pL(pre:List dB):List dB→Int
 |[]=>0
 |c::r=>if qk pre c≠0 then qk pre c else pL (pre++[c]) r
def se(l:List dB):Int:=if 16<l.length then 4 else pL [] l
theorem YT{pre:List dB}{c:dB}(h:(!ig c.code)=true):qk pre c=23:=by simp[qk,h]
theorem YU{pre:List dB}{c:dB}(h:(!ig c.code)=false)(h2:(decide (c.places<0)||decide (12<c.places))=true):qk pre c=2:=by simp only[qk,h,h2];rfl
theorem YV{pre:List dB}{c:dB}(h:(!ig c.code)=false)(h2:(decide (c.places<0)||decide (12<c.places))=false)(h3:(nn c.code pre).2=true):qk pre c=5:=by rw[O3]at h3;simp only[qk,h,h2,h3];rfl
theorem YS{pre:List dB}{c:dB}(h:(!ig c.code)=false)(h2:(decide (c.places<0)||decide (12<c.places))=false)(h3:(nn c.code pre).2=false):qk pre c=0:=by rw[O3]at h3;simp only[qk,h,h2,h3];rfl
theorem Hy{l pre rest:List dB}{x:dB}{n:Int}(h:se l=pL pre (x::rest))(he:qk pre x=n)(hn:n≠0):n=se l:=by rw[h,pL,he,if_pos hn]
theorem X3{l pre rest:List dB}{x:dB}(h:pL [] l=pL pre (x::rest))(he:qk pre x=0):pL [] l=pL (pre++[x]) rest:=by rw[h,pL,he,if_neg zS]
open Go.Proofs Go.Proofs.Tryz
set_option maxRecDepth 20000
theorem HD(a b:ae):Fc Tryz.prog 121 [.str a,.str b] (.i (dm a b)):=by
 refine bE func121 ntmps121 results121 ?_;refine U.seq<|rg<|.ag rfl rfl<|.nil<|U.seq<|U.seq<|rg<|.mv rfl rfl<|.mv rfl rfl<|.P rfl (Uh rfl rfl)<|.nil<|U.cond rfl (fun h1=>?_) (fun h1=>?_)
 ·refine U.seq<|rg<|.ag rfl rfl<|.nil<|U.ret (?_);exact bS rfl (Sub.int (by grind[dm]))
 ·refine U.skip<|U.seq<|U.seq<|rg<|.mv rfl rfl<|.mv rfl rfl<|.P rfl (Ud rfl rfl)<|.nil<|U.cond rfl (fun h2=>?_) (fun h2=>?_)
  ·refine U.seq<|rg<|.ag rfl rfl<|.nil<|U.ret (?_);exact bS rfl (Sub.int (by grind[dm]))
  ·refine U.skip<|U.seq<|rg<|.ag rfl rfl<|.nil<|U.ret (?_);exact bS rfl (Sub.int (by grind[dm]))
theorem Yk(a b:dM):Fc Tryz.prog 122 [.agg (iZ a),.agg (iZ b)] (.i (me a b)):=by
 refine bE func122 ntmps122 results122 ?_;refine U.seq<|rg<|.W rfl (oG 0 rfl rfl)<|.W rfl (oG 1 rfl rfl)<|.ag rfl rfl<|.nil<|U.seq<|U.seq<|rg<|.P rfl (bJ (n:=0) 9 0 underlying48 sizeOf9 rfl rfl)<|.R rfl (bP isAgg9 rfl rfl rfl)<|.P rfl (bJ (n:=0) 9 0 underlying48 sizeOf9 rfl rfl)<|.R rfl (bP isAgg9 rfl rfl rfl)<|.P rfl (aj call121 rfl (HD _ _))<|.ag rfl rfl<|.nil<|U.seq<|rg<|.mv rfl rfl<|.P rfl (wi rfl rfl)<|.nil<|U.cond rfl (fun h1=>?_) (fun h1=>?_)
 ·refine U.seq<|rg<|.mv rfl rfl<|.ag rfl rfl<|.nil<|U.ret (?_);exact bS rfl (Sub.int (by grind[me]))
 ·refine U.skip<|U.seq<|rg<|.P rfl (bJ (n:=0) 9 1 underlying48 sizeOf9 rfl rfl)<|.R rfl (bP isAgg9 rfl rfl rfl)<|.P rfl (bJ (n:=0) 9 1 underlying48 sizeOf9 rfl rfl)<|.R rfl (bP isAgg9 rfl rfl rfl)<|.P rfl (aj call121 rfl (HD _ _))<|.ag rfl rfl<|.nil<|U.ret (?_);exact bS rfl (Sub.int (by grind[me]))
structure N3(s:ae)where
 pre:List UInt8
 rest:List UInt8
 hx:(dZ s).1=pre++rest
 hp:pre.all dh=true
structure N4(s:ae)where
 cur:ae
 hd:(dZ s).1.all dh=true
 hx:ff cur=ff (dZ s).1
theorem yV(s:ae):Fc Tryz.prog 176 [.str s] (.bl [.str (digits s).1,.b (digits s).2]):=by
 refine pO func176 ntmps176 results176 ?_;refine U.qh 0 rfl (fun hb=>?_);simp only[aH]at hb;refine U.seq<|rg<|.ag rfl rfl<|.ag rfl rfl<|.nil<|U.seq<|rg<|.mv rfl rfl<|.ag rfl rfl<|.nil<|U.seq (U.cH [.p,.p,.p,.p,.p,.p,.p,.p,.p] ?_);refine .mv rfl rfl<|.P rfl (ko underlying9 rfl)<|.P rfl (ju rfl rfl)<|.mv rfl rfl<|.gT rfl (.inl rfl) rfl rfl rfl (fun hg=>pk (fun _=>bG rfl _))<|.gT rfl (.inl rfl) rfl rfl rfl (fun hg=>pk (fun _=>rS underlying9 (bI rfl hg) rfl (c:=s.headD 0) zD (I8 rfl (by grind)) _))<|.gT rfl (.inl rfl) rfl rfl rfl (fun hg=>pk (fun _=>l5 (bI rfl hg) rfl _))<|.P rfl (kN rfl rfl)<|.ag rfl rfl<|.nil<|U.seq<|U.seq<|rg<|.mv rfl rfl<|.nil<|U.cond rfl (fun h1=>?_) (fun h1=>?_)
 ·have a_:=h1;try simp only[bs]at a_
  refine rg<|.mv rfl rfl<|.P rfl (wj underlying9 rfl (l:=1) (r:=s.drop 1) (.inr ⟨_,_,rfl,rfl⟩) (.inl ⟨rfl,rfl⟩) zO zO (HP _))<|.ag rfl rfl<|.nil<|U.seq<|U.seq<|rg<|.ag rfl rfl<|.nil<|U.block<|U.loop (ι:=N3 s) (fun sx=>[(4,.str (dZ s).1),(5,.b (dZ s).2),(6,.i sx.pre.length)]) (fun sx=>[]) (fun sx=>sx.rest.length) ⟨[],(dZ s).1,rfl,rfl⟩ ?_ ?_
  ·exact Le.mk rfl (.cons rfl (Sub.str (by grind[wy,uU])) rfl (.cons rfl (Sub.bool (by grind[wy,uU])) rfl (.s rfl rfl .nil))) .nil
  ·rintro⟨pre,rest,hx,hp⟩;dsimp only;have hl:=congrArg List.length hx;simp only[List.length_append]at hl;have qI:=Gu s;rcases rest with _|⟨x,rest⟩
   ·skip;refine U.seq<|U.seq<|rg<|.mv rfl rfl<|.mv rfl rfl<|.P rfl (ko underlying9 rfl)<|.P rfl (bY rfl rfl)<|.nil<|U.fG rfl (by simp at hl⊢;omega)<|U.exit (fc (eY ?_));refine U.seq<|U.block<|U.loop (ι:=N4 s) (fun sx=>[(4,.str sx.cur),(5,.b (dZ s).2)]) (fun sx=>[]) (fun sx=>sx.cur.length) ⟨(dZ s).1,by rw[hx];simpa using hp,rfl⟩ ?_ ?_
    ·exact Le.mk rfl (.n 2 rfl rfl .nil) .nil
    ·rintro⟨cur,hd,hx⟩;dsimp only;refine U.seq (U.seq (U.cH [.p,.p,.p,.p,.p,.p,.p,.p] ?_));refine .mv rfl rfl<|.P rfl (ko underlying9 rfl)<|.P rfl (ju rfl rfl)<|.mv rfl rfl<|.gT rfl (.inl rfl) rfl rfl rfl (fun hg=>pk (fun _=>bG rfl _))<|.gT rfl (.inl rfl) rfl rfl rfl (fun hg=>pk (fun _=>rS underlying9 (bI rfl hg) rfl (c:=cur.headD 0) zD (I8 rfl (by grind)) _))<|.gT rfl (.inl rfl) rfl rfl rfl (fun hg=>pk (fun _=>l5 (bI rfl hg) rfl _))<|.P rfl (kN rfl rfl)<|.nil<|U.cond rfl (fun h2=>?_) (fun h2=>?_)
     ·have dO:=h2;try simp only[bs]at dO
      refine U.skip<|U.block<|rg<|.mv rfl rfl<|.P rfl (wj underlying9 rfl (l:=1) (r:=cur.drop 1) (.inr ⟨_,_,rfl,rfl⟩) (.inl ⟨rfl,rfl⟩) zO zO (HP _))<|.ag rfl rfl<|.nil<|U.nil (dv ?_);refine U.nil (dx ?_);exact⟨⟨cur.drop 1,hd,by rw[←hx];exact(Bg zO zO).symm⟩,by simp;omega,Le.mk rfl (.n 2 rfl rfl .nil) .nil⟩
     ·have dO:=h2;try simp only[bs]at dO
      refine U.exit (fc (eY ?_));refine U.seq (U.cH [.p,.p,.p,.p,.p,.p,.p,.p,.p] ?_);refine .mv rfl rfl<|.mv rfl rfl<|.mv rfl rfl<|.gT rfl (.inl rfl) rfl rfl rfl (fun hg=>pk (fun _=>bG rfl _))<|.gT rfl (.inl rfl) rfl rfl rfl (fun hg=>pk (fun _=>ko underlying9 (bI rfl hg) _))<|.gT rfl (.inl rfl) rfl rfl rfl (fun hg=>pk (fun _=>ju (bI rfl hg) rfl _))<|.P rfl (kN rfl rfl)<|.ag rfl rfl<|.ag rfl rfl<|.nil<|U.ret (?_);exact uM rfl rfl (Sub.str (by exact N5 hd hx zO)) (Sub.bool (by exact N6 hd hx zO))
   ·simp only[List.length_cons]at hl;refine U.seq<|U.seq<|rg<|.mv rfl rfl<|.mv rfl rfl<|.P rfl (ko underlying9 rfl)<|.P rfl (bY rfl rfl)<|.nil<|U.iY rfl zQ<|U.skip<|U.seq<|U.block<|U.seq (U.cH [.p,.p,.p,.p,.p,.p,.p,.p,.p,.p] ?_);refine .mv rfl rfl<|.mv rfl rfl<|.P rfl (rS underlying9 rfl rfl zO (sR hx rfl))<|.P rfl (bY rfl rfl)<|.mv rfl rfl<|.gF rfl (.inl rfl) rfl rfl rfl (fun hg=>pk (fun _=>bG rfl _))<|.gF rfl (.inl rfl) rfl rfl rfl (fun hg=>pk (fun _=>bG rfl _))<|.gF rfl (.inl rfl) rfl rfl rfl (fun hg=>pk (fun _=>rS underlying9 (bI rfl (nt hg)) (bI rfl (nt hg)) zO (sR hx rfl) _))<|.gF rfl (.inl rfl) rfl rfl rfl (fun hg=>pk (fun _=>ju (bI rfl (nt hg)) rfl _))<|.P rfl (rT rfl rfl)<|.nil<|U.cond rfl (fun h3=>?_) (fun h3=>?_)
    ·have gU:=h3;try simp only[bs]at gU
     refine U.seq<|rg<|.ag rfl rfl<|.ag rfl rfl<|.nil<|U.ret (lS (u4 (lS (?_))));exact uM rfl rfl (Sub.str (by(rw[D6 hx zO]))) (Sub.bool (by(rw[D6 hx zO])))
    ·refine U.skip<|U.nil (dv ?_);refine rg<|.mv rfl rfl<|.P rfl (cn rfl rfl (aB zO))<|.ag rfl rfl<|.nil<|U.nil (dx ?_);exact⟨⟨pre++[x],rest,by simp[hx],by grind[dh]⟩,by simp,Le.mk rfl (.cons rfl (Sub.str (by grind[wy,uU])) rfl (.cons rfl (Sub.bool (by grind[wy,uU])) rfl (.cons rfl (Sub.int zS) rfl .nil))) .nil⟩
 ·refine U.skip<|U.seq<|U.seq<|rg<|.ag rfl rfl<|.nil<|U.block<|U.loop (ι:=N3 s) (fun sx=>[(4,.str (dZ s).1),(5,.b (dZ s).2),(6,.i sx.pre.length)]) (fun sx=>[]) (fun sx=>sx.rest.length) ⟨[],(dZ s).1,rfl,rfl⟩ ?_ ?_
  ·exact Le.mk rfl (.cons rfl (Sub.str (by grind[wy,uU])) rfl (.cons rfl (Sub.bool (by grind[wy,uU])) rfl (.s rfl rfl .nil))) .nil
  ·rintro⟨pre,rest,hx,hp⟩;dsimp only;have hl:=congrArg List.length hx;simp only[List.length_append]at hl;have qI:=Gu s;rcases rest with _|⟨x,rest⟩
   ·skip;refine U.seq<|U.seq<|rg<|.mv rfl rfl<|.mv rfl rfl<|.P rfl (ko underlying9 rfl)<|.P rfl (bY rfl rfl)<|.nil<|U.fG rfl (by simp at hl⊢;omega)<|U.exit (fc (eY ?_));refine U.seq<|U.block<|U.loop (ι:=N4 s) (fun sx=>[(4,.str sx.cur),(5,.b (dZ s).2)]) (fun sx=>[]) (fun sx=>sx.cur.length) ⟨(dZ s).1,by rw[hx];simpa using hp,rfl⟩ ?_ ?_
    ·exact Le.mk rfl (.n 2 rfl rfl .nil) .nil
    ·rintro⟨cur,hd,hx⟩;dsimp only;refine U.seq (U.seq (U.cH [.p,.p,.p,.p,.p,.p,.p,.p] ?_));refine .mv rfl rfl<|.P rfl (ko underlying9 rfl)<|.P rfl (ju rfl rfl)<|.mv rfl rfl<|.gT rfl (.inl rfl) rfl rfl rfl (fun hg=>pk (fun _=>bG rfl _))<|.gT rfl (.inl rfl) rfl rfl rfl (fun hg=>pk (fun _=>rS underlying9 (bI rfl hg) rfl (c:=cur.headD 0) zD (I8 rfl (by grind)) _))<|.gT rfl (.inl rfl) rfl rfl rfl (fun hg=>pk (fun _=>l5 (bI rfl hg) rfl _))<|.P rfl (kN rfl rfl)<|.nil<|U.cond rfl (fun h4=>?_) (fun h4=>?_)
     ·have il:=h4;try simp only[bs]at il
      refine U.skip<|U.block<|rg<|.mv rfl rfl<|.P rfl (wj underlying9 rfl (l:=1) (r:=cur.drop 1) (.inr ⟨_,_,rfl,rfl⟩) (.inl ⟨rfl,rfl⟩) zO zO (HP _))<|.ag rfl rfl<|.nil<|U.nil (dv ?_);refine U.nil (dx ?_);exact⟨⟨cur.drop 1,hd,by rw[←hx];exact(Bg zO zO).symm⟩,by simp;omega,Le.mk rfl (.n 2 rfl rfl .nil) .nil⟩
     ·have il:=h4;try simp only[bs]at il
      refine U.exit (fc (eY ?_));refine U.seq (U.cH [.p,.p,.p,.p,.p,.p,.p,.p,.p] ?_);refine .mv rfl rfl<|.mv rfl rfl<|.mv rfl rfl<|.gT rfl (.inl rfl) rfl rfl rfl (fun hg=>pk (fun _=>bG rfl _))<|.gT rfl (.inl rfl) rfl rfl rfl (fun hg=>pk (fun _=>ko underlying9 (bI rfl hg) _))<|.gT rfl (.inl rfl) rfl rfl rfl (fun hg=>pk (fun _=>ju (bI rfl hg) rfl _))<|.P rfl (kN rfl rfl)<|.ag rfl rfl<|.ag rfl rfl<|.nil<|U.ret (?_);exact uM rfl rfl (Sub.str (by exact N5 hd hx zO)) (Sub.bool (by exact N6 hd hx zO))
   ·simp only[List.length_cons]at hl;refine U.seq<|U.seq<|rg<|.mv rfl rfl<|.mv rfl rfl<|.P rfl (ko underlying9 rfl)<|.P rfl (bY rfl rfl)<|.nil<|U.iY rfl zQ<|U.skip<|U.seq<|U.block<|U.seq (U.cH [.p,.p,.p,.p,.p,.p,.p,.p,.p,.p] ?_);refine .mv rfl rfl<|.mv rfl rfl<|.P rfl (rS underlying9 rfl rfl zO (sR hx rfl))<|.P rfl (bY rfl rfl)<|.mv rfl rfl<|.gF rfl (.inl rfl) rfl rfl rfl (fun hg=>pk (fun _=>bG rfl _))<|.gF rfl (.inl rfl) rfl rfl rfl (fun hg=>pk (fun _=>bG rfl _))<|.gF rfl (.inl rfl) rfl rfl rfl (fun hg=>pk (fun _=>rS underlying9 (bI rfl (nt hg)) (bI rfl (nt hg)) zO (sR hx rfl) _))<|.gF rfl (.inl rfl) rfl rfl rfl (fun hg=>pk (fun _=>ju (bI rfl (nt hg)) rfl _))<|.P rfl (rT rfl rfl)<|.nil<|U.cond rfl (fun h5=>?_) (fun h5=>?_)
    ·have uI:=h5;try simp only[bs]at uI
     refine U.seq<|rg<|.ag rfl rfl<|.ag rfl rfl<|.nil<|U.ret (lS (u4 (lS (?_))));exact uM rfl rfl (Sub.str (by(rw[D6 hx zO]))) (Sub.bool (by(rw[D6 hx zO])))
    ·refine U.skip<|U.nil (dv ?_);refine rg<|.mv rfl rfl<|.P rfl (cn rfl rfl (aB zO))<|.ag rfl rfl<|.nil<|U.nil (dx ?_);exact⟨⟨pre++[x],rest,by simp[hx],by grind[dh]⟩,by simp,Le.mk rfl (.cons rfl (Sub.str (by grind[wy,uU])) rfl (.cons rfl (Sub.bool (by grind[wy,uU])) rfl (.cons rfl (Sub.int zS) rfl .nil))) .nil⟩
theorem Hx(s:ae):Fc Tryz.prog 120 [.str s] (.str (canon s)):=by
 refine bE func120 ntmps120 results120 ?_;refine U.qh 0 rfl (fun hb=>?_);simp only[aH]at hb;have qz:=m_ s;refine go []<|oP (aj call176 rfl (yV _))<|br (fun h1=>?_) (fun h1=>?_)
 ·exact sd (by have:=N7 s zA;simp[aH];omega)<|an rfl (Sub.str (by grind[canon]))
 ·exact an rfl (Sub.str (by grind[canon]))
theorem XX(s:ae):Fc Tryz.prog 87 [.str s] (.i (rj s)):=by
 refine bE func87 ntmps87 results87 ?_;refine go []<|oP (aj call120 rfl (Hx _))<|br (fun h1=>?_) (fun h1=>?_)
 ·exact an rfl (Sub.int (by grind[rj]))
 ·exact an rfl (Sub.int (by grind[rj]))
theorem YF(a b:ae):Fc Tryz.prog 123 [.str a,.str b] (.i (kl a b)):=by
 refine bE func123 ntmps123 results123 ?_;refine go []<|oP (aj call176 rfl (yV _))<|oP (aj call176 rfl (yV _))<|br (fun h1=>?_) (fun h1=>?_)
 ·refine br (fun h2=>?_) (fun h2=>?_)
  ·exact an rfl (Sub.int (by grind[kl]))
  ·exact an rfl (Sub.int (by grind[kl]))
 ·refine br (fun h3=>?_) (fun h3=>?_)
  ·refine br (fun h4=>?_) (fun h4=>?_)
   ·refine br (fun h5=>?_) (fun h5=>?_)
    ·exact sd (aB zO)<|an rfl (Sub.int (by grind[kl]))
    ·exact an rfl (Sub.int (by grind[kl]))
   ·refine br (fun h6=>?_) (fun h6=>?_)
    ·exact sd (aB zO)<|an rfl (Sub.int (by grind[kl]))
    ·refine br (fun h7=>?_) (fun h7=>?_)
     ·exact an rfl (Sub.int (by grind[kl]))
     ·exact an rfl (Sub.int (by grind[kl]))
  ·refine br (fun h8=>?_) (fun h8=>?_)
   ·refine br (fun h9=>?_) (fun h9=>?_)
    ·exact sd (aB zO)<|an rfl (Sub.int (by grind[kl]))
    ·exact an rfl (Sub.int (by grind[kl]))
   ·refine br (fun gE=>?_) (fun gE=>?_)
    ·exact sd (aB zO)<|an rfl (Sub.int (by grind[kl]))
    ·refine br (fun f_=>?_) (fun f_=>?_)
     ·exact an rfl (Sub.int (by grind[kl]))
     ·exact an rfl (Sub.int (by grind[kl]))
structure ajR(s:ae)(hs:(digits s).1.length≤17)where
 pre:List UInt8
 rest:List UInt8
 hx:(digits s).1=pre++rest
theorem ajQ(s:ae)(hs:(digits s).1.length≤17):Fc Tryz.prog 124 [.str s] (.bl [.i (val s),.b true]):=by
 refine pO func124 ntmps124 results124 ?_;refine U.qh 0 rfl (fun hb=>?_);simp only[aH]at hb;have EU:=pM s;refine U.seq<|rg<|.ag rfl rfl<|.ag rfl rfl<|.nil<|U.seq<|rg<|.mv rfl rfl<|.P rfl (aj call176 rfl (yV _))<|.mv rfl rfl<|.P rfl (iJ rfl rfl)<|.P rfl (iJ rfl rfl)<|.ag rfl rfl<|.ag rfl rfl<|.nil<|U.seq<|U.seq<|rg<|.mv rfl rfl<|.P rfl (ko underlying9 rfl)<|.P rfl (ju rfl rfl)<|.nil<|U.cond rfl (fun h1=>?_) (fun h1=>?_)
 ·have a_:=h1;try simp only[bs]at a_
  refine U.seq<|rg<|.ag rfl rfl<|.ag rfl rfl<|.nil<|U.ret (?_);exact uM rfl rfl (Sub.int zO) (Sub.bool (by grind))
 ·refine U.skip<|U.seq<|rg<|.ag rfl rfl<|.nil<|U.seq<|U.seq<|rg<|.ag rfl rfl<|.nil<|U.block<|U.loop (ι:=ajR s hs) (fun sx=>[(4,.str (digits s).1),(5,.b (digits s).2),(6,.i (natVal sx.pre)),(7,.i sx.pre.length)]) (fun sx=>[]) (fun sx=>sx.rest.length) ⟨[],(digits s).1,rfl⟩ ?_ ?_
  ·exact Le.mk rfl (.n 4 rfl rfl .nil) .nil
  ·rintro⟨pre,rest,hx⟩;dsimp only;have hl:=congrArg List.length hx;simp only[List.length_append]at hl;rw[hx,List.all_append,Bool.and_eq_true]at EU;have hv:=Tb EU.1 zO;rcases rest with _|⟨x,rest⟩
   ·skip;refine U.seq<|U.seq<|rg<|.mv rfl rfl<|.mv rfl rfl<|.P rfl (ko underlying9 rfl)<|.P rfl (bY rfl rfl)<|.nil<|U.fG rfl (by simp at hl⊢;omega)<|U.exit (fc (eY ?_));refine U.seq<|U.seq<|rg<|.mv rfl rfl<|.nil<|U.cond rfl (fun h2=>?_) (fun h2=>?_)
    ·refine rg<|.mv rfl rfl<|.P rfl (F7 rfl (aB zO))<|.ag rfl rfl<|.nil<|U.seq<|rg<|.mv rfl rfl<|.ag rfl rfl<|.ag rfl rfl<|.nil<|U.ret (?_);exact uM rfl rfl (Sub.int (by simp only[val,List.append_nil]at*;simp[*])) (Sub.bool (by grind))
    ·refine U.skip<|U.seq<|rg<|.mv rfl rfl<|.ag rfl rfl<|.ag rfl rfl<|.nil<|U.ret (?_);exact uM rfl rfl (Sub.int (by simp only[val,List.append_nil]at*;simp[*])) (Sub.bool (by grind))
   ·simp only[List.length_cons]at hl;have hq:=EU.2;simp only[List.all_cons,Bool.and_eq_true,dh,decide_eq_true_eq]at hq;have aqs:=s8 pre EU.1;have aqp:10^pre.length≤10^16:=Nat.pow_le_pow_right zO zO;refine U.seq<|U.seq<|rg<|.mv rfl rfl<|.mv rfl rfl<|.P rfl (ko underlying9 rfl)<|.P rfl (bY rfl rfl)<|.nil<|U.iY rfl zQ<|U.skip<|U.seq<|U.block<|rg<|.mv rfl rfl<|.P rfl (wh rfl rfl (aB zO))<|.mv rfl rfl<|.mv rfl rfl<|.P rfl (rS underlying9 rfl rfl zO (sR hx rfl))<|.P rfl (fp rfl rfl (V4 zO zO))<|.P rfl (F5 underlying5 underlying3 rfl (aB zO))<|.P rfl (cn rfl rfl (aB zO))<|.ag rfl rfl<|.nil<|U.nil (dv ?_);refine rg<|.mv rfl rfl<|.P rfl (cn rfl rfl (aB zO))<|.ag rfl rfl<|.nil<|U.nil (dx ?_);exact⟨⟨pre++[x],rest,by simp[hx]⟩,by simp,Le.mk rfl (.n 2 rfl rfl (.cons rfl (Sub.int (by rw[uA];omega)) rfl (.cons rfl (Sub.int zS) rfl .nil))) .nil⟩
structure agJ(n:Int)(hn:-1000000000000000000<n∧n<1000000000000000000)where
 cur:Int
 acc:ae
 hx:iP n.natAbs=iP cur.natAbs++acc
 hc:-1000000000000000000<cur∧cur<1000000000000000000
theorem agI(n:Int)(hn:-1000000000000000000<n∧n<1000000000000000000):Fc Tryz.prog 125 [.i n] (.str (ofInt n)):=by
 refine bE func125 ntmps125 results125 ?_;have qz:=FG 18 n.natAbs zO;refine U.seq<|rg<|.ag rfl rfl<|.nil<|U.seq<|U.seq<|rg<|.mv rfl rfl<|.P rfl (l5 rfl rfl)<|.nil<|U.cond rfl (fun h1=>?_) (fun h1=>?_)
 ·have a_:=h1;try simp only[bs]at a_
  refine U.seq<|rg<|.ag rfl rfl<|.nil<|U.ret (?_);exact bS rfl (Sub.str (by simp[ofInt,nM, *]))
 ·refine U.skip<|U.seq<|rg<|.ag rfl rfl<|.nil<|U.seq<|U.seq<|rg<|.mv rfl rfl<|.ag rfl rfl<|.nil<|U.block<|U.loop (ι:=agJ n hn) (fun sx=>[(0,.i n),(3,.str sx.acc),(4,.i sx.cur)]) (fun sx=>[]) (fun sx=>sx.cur.natAbs) ⟨n,[],by simp,hn⟩ ?_ ?_
  ·exact Le.mk rfl (.n 3 rfl rfl .nil) .nil
  ·rintro⟨cur,acc,hx,hc⟩;dsimp only;have ha:=amE cur;have hd:=akW cur;refine U.seq<|U.seq<|rg<|.mv rfl rfl<|.P rfl (wi rfl rfl)<|.nil<|U.cond rfl (fun h2=>?_) (fun h2=>?_)
   ·have dO:=h2;try simp only[bs]at dO
    refine U.skip<|U.seq<|U.block<|U.seq<|rg<|.mv rfl rfl<|.P rfl (qW rfl rfl zD rfl)<|.ag rfl rfl<|.nil<|U.seq<|U.seq<|rg<|.mv rfl rfl<|.P rfl (bY rfl rfl)<|.nil<|U.cond rfl (fun h3=>?_) (fun h3=>?_)
    ·have gU:=h3;try simp only[bs]at gU
     refine rg<|.mv rfl rfl<|.P rfl (F7 rfl (aB zO))<|.ag rfl rfl<|.nil<|rg<|.mv rfl rfl<|.P rfl (cn rfl rfl (aB zO))<|.P rfl (F5 underlying3 underlying21 rfl (Mi zO zO))<|.P rfl (Lx underlying21 underlying9 rfl (c:=UInt8.ofNat (48+cur.natAbs%10)) zO zO (by congr 1;omega))<|.mv rfl rfl<|.P rfl (yg rfl rfl (by simp only[aH];have:=congrArg List.length hx;simp at this⊢;omega) rfl)<|.ag rfl rfl<|.nil<|U.nil (dv ?_);refine rg<|.mv rfl rfl<|.P rfl (oJ rfl rfl zD (aB zO))<|.ag rfl rfl<|.nil<|U.nil (dx ?_);exact⟨⟨cur.tdiv 10,UInt8.ofNat (48+cur.natAbs%10)::acc,by rw[hx,S7 zA];simp,by omega⟩,by(try dsimp only);omega,Le.mk rfl (.n 3 rfl rfl .nil) .nil⟩
    ·have gU:=h3;try simp only[bs]at gU
     refine U.skip<|rg<|.mv rfl rfl<|.P rfl (cn rfl rfl (aB zO))<|.P rfl (F5 underlying3 underlying21 rfl (Mi zO zO))<|.P rfl (Lx underlying21 underlying9 rfl (c:=UInt8.ofNat (48+cur.natAbs%10)) zO zO (by congr 1;omega))<|.mv rfl rfl<|.P rfl (yg rfl rfl (by simp only[aH];have:=congrArg List.length hx;simp at this⊢;omega) rfl)<|.ag rfl rfl<|.nil<|U.nil (dv ?_);refine rg<|.mv rfl rfl<|.P rfl (oJ rfl rfl zD (aB zO))<|.ag rfl rfl<|.nil<|U.nil (dx ?_);exact⟨⟨cur.tdiv 10,UInt8.ofNat (48+cur.natAbs%10)::acc,by rw[hx,S7 zA];simp,by omega⟩,by(try dsimp only);omega,Le.mk rfl (.n 3 rfl rfl .nil) .nil⟩
   ·have dO:=h2;try simp only[bs]at dO
    refine U.exit (fc (eY ?_));refine U.seq<|U.seq<|rg<|.mv rfl rfl<|.P rfl (bY rfl rfl)<|.nil<|U.cond rfl (fun h4=>?_) (fun h4=>?_)
    ·have il:=h4;try simp only[bs]at il
     refine rg<|.mv rfl rfl<|.P rfl (yg rfl rfl (by simp only[aH];have:=congrArg List.length hx;simp at this⊢;omega) rfl)<|.ag rfl rfl<|.nil<|U.seq<|rg<|.mv rfl rfl<|.ag rfl rfl<|.nil<|U.ret (?_);exact bS rfl (Sub.str (by simp[ofInt,nM, *]))
    ·have il:=h4;try simp only[bs]at il
     refine U.skip<|U.seq<|rg<|.mv rfl rfl<|.ag rfl rfl<|.nil<|U.ret (?_);exact bS rfl (Sub.str (by simp[ofInt,nM, *]))
end Go.T
