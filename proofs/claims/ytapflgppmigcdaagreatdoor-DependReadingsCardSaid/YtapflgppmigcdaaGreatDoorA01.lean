/- Contracts of functions that the statement reaches, and the logic in which they are proved (no condition). -/
import Derived.Calls
import Derived.KernelRfl
import Derived.Orders
import Derived.Laws.Sem
import Derived.OrdersIn
import Derived.RangeFuncLeaves
set_option linter.all false
set_option maxRecDepth 20000
namespace Go
def zO{p:Prop}(h:p:=by omega):p:=h
def zK{p:Prop}(h:p:=by decide+kernel):p:=h
def zS{p:Prop}(h:p:=by simp):p:=h
def zQ{p:Prop}(h:p:=by simp;omega):p:=h
def zD{p:Prop}(h:p:=by decide):p:=h
def zA{p:Prop}(h:p:=by assumption):p:=h
def aF:=@if_neg
def aG:=@of_decide_eq_true
def aT:=@congrArg
def aV:=@if_pos
def bd:=@Bool.and_eq_true
def bl:=@List.length_append
def bB:=@List.length_map
def bD:=@List.length_cons
def bH:=@Array.getElem?_eq_some_iff
def cc:=@List.length_eq_zero_iff
def cd:=@decide_eq_true_eq
def cq:=@Bool.or_eq_false_iff
def cr:=@List.mem_cons
def cC:=@List.mem_cons_of_mem
def cH:=@Option.some.injEq
def cI:=@List.getElem?_eq_some_iff
def cM:=@List.mem_append
def cP:=@List.map_cons
def c7:=@List.mem_cons_self
def dd:=@Nat.mul_le_mul_right
def de:=@List.all_eq_true
def dh:=@List.mem_map
def dj:=@List.mem_of_getElem?
def dM:=@Nat.le_trans
def dO:=@Nat.add_mul
def dP:=@Nat.le_refl
def dW:=@Array.getElem?_eq_getElem
def dY:=@decide_eq_false_iff_not
def eu:=@List.getElem?_eq_getElem
def eE:=@Nat.pow_le_pow_right
def eQ:=@Nat.lt_or_ge
def eX:=@List.mem_filter
def fj:=@of_decide_eq_false
def fO:=@Nat.mul_comm
def fR:=@List.getElem?_map
def fV:=@List.getD_eq_getElem?_getD
def fW:=@List.flatten_cons
def fZ:=@Bool.or_eq_true
def gx:=@Option.map_eq_some_iff
def gM:=@Bool.false_eq_true
def gZ:=@List.take_of_length_le
def hG:=@List.length_nil
def iv:=@Nat.mul_assoc
def iH:=@decide_eq_true
def iJ:=@List.append_nil
def iP:=@List.drop_of_length_le
def iX:=@cond_true
def ja:=@Array.getD_eq_getD_getElem?
def jg:=@Nat.mul_le_mul_left
def jh:=@cond_false
def jk:=@Option.map_some
def ju:=@List.drop_eq_getElem_cons
def jE:=@Nat.blt_eq
def jF:=@List.cons_append
def jH:=@List.getElem?_cons_zero
def jN:=@Nat.mul_add
def jW:=@Array.getElem?_toList
def j_:=@List.any_eq_true
def kl:=@List.mem_singleton
def ko:=@Nat.eq_zero_or_pos
def kr:=@List.nodup_cons
def kJ:=@List.all_cons
def ln:=@List.mem_append_left
def lA:=@List.mem_flatten
def lD:=@Bool.not_eq_true'
def lE:=@List.all_append
def lF:=@Nat.lt_of_lt_of_le
def lG:=@List.take_append_drop
def lN:=@Nat.pow_succ
def lW:=@List.take_succ_cons
def l6:=@Nat.add_assoc
def l8:=@Option.getD_some
def l_:=@List.cons.injEq
def mw:=@List.getElem?_of_mem
def mD:=@Nat.zero_add
def mE:=@Bool.eq_iff_iff
def mX:=@if_true
def ng:=@List.append_assoc
def nq:=@List.filter_append
def nw:=@List.length_filter_le
def nA:=@Nat.le_of_ble_eq_true
def nR:=@List.length_singleton
def n0:=@Nat.mod_lt
def oe:=@List.foldl_cons
def oq:=@List.filter_cons
def ou:=@decide_eq_decide
def oG:=@List.set_cons_zero
def oH:=@Int.natAbs_natCast
def oL:=@Bool.true_and
def oY:=@Array.getElem?_append_left
def oZ:=@Nat.mod_eq_of_lt
def o_:=@Int.tdiv_eq_ediv_of_nonneg
def pb:=@if_false
def pd:=@List.pairwise_append
def ph:=@Nat.pow_pos
def pw:=@List.ne_nil_of_mem
def px:=@List.mem_range
def pG:=@Array.getElem?_setIfInBounds
def pH:=@List.any_append
def pJ:=@List.any_cons
def pL:=@Nat.add_zero
def pS:=@Array.getElem?_push
def pT:=@Nat.eq_of_beq_eq_true
def p9:=@List.getElem?_eq_none
def qc:=@Ne.symm
def qe:=@Option.some.inj
def qw:=@Nat.div_le_iff_le_mul_add_pred
def qA:=@Nat.one_mul
def qB:=@And.left
def qC:=@List.pairwise_iff_getElem
def qD:=@List.mem_map_of_mem
def qX:=@List.flatten_append
def q0:=@Nat.lt_trichotomy
def q8:=@Int.toNat_natCast
def q_:=@List.nil_append
def rm:=@Nat.mul_zero
def rv:=@List.find?_cons_of_neg
def rB:=@List.pairwise_map
def rH:=@List.foldl_append
def rI:=@Decidable.not_not
def r7:=@List.getElem?_append_left
def sf:=@UInt8.toNat_inj
def sA:=@UInt8.lt_iff_toNat_lt
def sD:=@Array.getElem?_modify
def sW:=@Nat.div_eq_of_lt
def tu:=@List.not_mem_nil
def tB:=@List.le_antisymm
def tC:=@Bool.or_false
def tD:=@List.drop_drop
def tE:=@List.mem_of_mem_take
def tM:=@List.any_eq_false
def tR:=@decide_eq_false
def tT:=@Array.getElem?_eq_none
def uq:=@List.length_attachWith
def ux:=@List.find?_cons_of_pos
def uA:=@List.perm_ext_iff_of_nodup
def uB:=@List.length_take
def uH:=@List.drop_zero
def uO:=@List.contains_iff_mem
def vb:=@decide_eq_true_iff
def vv:=@List.mem_append_right
def vX:=@List.getLastD_eq_getLast?
def vY:=@Nat.le_succ
def v8:=@Nat.mul_one
def wo:=@Int.mul_neg
def wv:=@Int.natCast_mul
def wz:=@Nat.div_add_mod
def wC:=@List.Nodup.length_le_of_subset
def wG:=@List.nodup_append
def wH:=@List.drop_append_of_le_length
def wI:=@List.take_append_of_le_length
def wK:=@List.getElem?_cons_succ
def xe:=@List.filter_cons_of_pos
def xl:=@List.filter_cons_of_neg
def xo:=@List.not_lt
def xv:=@List.mem_filterMap
def xw:=@List.pairwise_cons
def xW:=@Nat.zero_mul
def xY:=@Nat.mul_right_comm
def ya:=@getElem!_pos
def yj:=@Nat.le_of_lt
def y0:=@List.any_nil
def y9:=@Nat.mod_add_div
def y_:=@Nat.div_lt_iff_lt_mul
def zb:=@List.getElem?_append_right
def zh:=@Bool.not_true
def zF:=@Nat.mul_lt_mul_of_lt_of_le
def zN:=@Nat.pow_add
def zT:=@Bool.false_and
def z1:=@List.length_drop
def Ad:=@List.all_reverse
def Ag:=@List.set_set
def Ar:=@Array.length_toList
def Av:=@List.length_pos_iff
def AA:=@Bool.and_true
def AG:=@Array.ext_getElem?
def AI:=@Nat.pos_of_ne_zero
def AJ:=@And.right
def Bh:=@List.map_append
def Bp:=@Nat.zero_le
def Bv:=@List.eq_nil_of_length_eq_zero
def Bz:=@List.size_toArray
def BA:=@List.findIdx_cons
def BB:=@Bool.not_false
def BI:=@Nat.add_comm
def BL:=@decide_false
def BQ:=@Array.getElem_setIfInBounds
def BX:=@Nat.beq_eq
def B3:=@List.mem_of_mem_drop
def Ca:=@Array.size_replicate
def CD:=@List.getElem_mem
def CO:=@Array.toList_setIfInBounds
def CR:=@List.dropWhile_cons_of_pos
def CU:=@List.dropWhile_cons_of_neg
def C5:=@Int.tmod_eq_emod_of_nonneg
def C7:=@decide_true
def C9:=@Int.neg_mul
def C_:=@List.map_congr_left
def DW:=@List.replicate_succ
def DX:=@List.getElem_of_mem
def D3:=@Nat.min_eq_left
def D4:=@Nat.div_le_self
def D5:=@Nat.add_mul_mod_self_left
def El:=@Int.natCast_add
def Em:=@List.exists_mem_of_ne_nil
def En:=@List.mem_of_find?_eq_some
def Ep:=@Array.getElem?_replicate
def Er:=@List.getElem?_take
def EH:=@Nat.lt_of_le_of_lt
def E6:=@List.Perm.eq_of_pairwise
def Fh:=@Bool.not_eq_false'
def Fl:=@Nat.mul_le_mul
def Fo:=@Int.natAbs_mul
def Fx:=@List.nodup_nil
def Fz:=@Nat.le_mul_of_pos_right
def FL:=@Array.size_append
def F0:=@List.ext_getElem?
def Gc:=@Nat.mul_pos
def Gm:=@List.le_trans
def Gn:=@List.take_length
def Gy:=@Nat.le_add_right
def GD:=@or_false
def GJ:=@List.getElem?_toArray
def GK:=@List.length_replicate
def GM:=@List.singleton_append
def GN:=@Nat.le_div_iff_mul_le
def GY:=@Classical.choose_spec
def G6:=@List.filterMap_append
def G7:=@Nat.le_of_eq
def G8:=@Array.getElem_modify
def G9:=@List.reverse_reverse
def Ha:=@List.map_map
def HN:=@Nat.add_mul_div_left
def HW:=@not_or
def HX:=@List.find?_cons
def HZ:=@List.length_reverse
def H3:=@beq_eq_false_iff_ne
def H4:=@true_and
def H_:=@Int.natAbs_neg
def Ie:=@Nat.mod_one
def Im:=@List.set_cons_succ
def Iq:=@Array.ext
def Ir:=@List.getElem?_drop
def Iu:=@Nat.add_sub_cancel
def Iv:=@Array.all_eq_true'
def Iy:=@Bool.and_self
def Iz:=@List.map_take
def IA:=@List.le_of_lt
def IB:=@not_false_eq_true
def I1:=@List.filter_congr
def I2:=@Array.ext'
def I5:=@Option.bind_some
def Jr:=@Nat.lt_succ_self
def Jv:=@List.nodup_range
def JK:=@List.all_nil
def JN:=@Option.getD_none
def JT:=@beq_self_eq_true
def JW:=@Nat.gcd_comm
def J5:=@List.le_refl
def J9:=@Int.sub_zero
def Kb:=@List.flatten_nil
def Kp:=@Nat.succ_mul
def KU:=@Bool.decide_and
def K3:=@Option.map_none
def LG:=@Nat.sub_mul
def LJ:=@List.take_left
def LW{p:Prop}(h:p:=by kernel_rfl):p:=h
end Go
namespace Go.T
open Go
def I6:List Nat:=[1,10,100,1000,10000,100000,1000000,10000000,100000000,1000000000,10000000000,100000000000,1000000000000,10000000000000,100000000000000,1000000000000000,10000000000000000,100000000000000000,1000000000000000000,10000000000000000000]
@[reducible] def om:TypeId:=5
@[reducible] def pN:TypeId:=291
def Uv:List (Nat×List Value):=[(5,I6.map fun(n:Nat)=>Value.int .u64 (n:Int))]
def Lu:List Nat:=[3,4]
class bX where
 z:Prop
instance(priority:=low) axG:bX:=⟨True⟩
variable[bX]
def iE(w w':World):Prop:=(w'.tape=w.tape/\w.drawn<=w'.drawn)\/bX.z
def iE.eq{w w':World}(h:w'.tape=w.tape)(h':w'.drawn=w.drawn):iE w w':=.inl ⟨h,G7 h'.symm⟩
theorem iE.trans{w w1 w2:World}(h:iE w w1)(h':iE w1 w2):iE w w2:=by
 rcases h with h|h
 ·rcases h' with h'|h'
  ·exact .inl ⟨h'.1.trans h.1,dM h.2 h'.2⟩
  ·exact .inr h'
 ·exact .inr h
structure Loc where
 b:Nat
 off:Nat
 cap:Nat
inductive D where
 |any
 |raw (v:Value)
 |str (s:List UInt8)
 |agg (cs:List D)
 |a_ (ds:List D)
 |snap (sz:Nat) (fP:Bool) (rows:List (List D))
 |bj (cs:List D)
 |box (id off:Nat)
 |gs (id n:Nat)
 |pR (id off:Nat)
 |cL (id:Nat)
 |fn (f:Fn) (first av_:List D)
 |sO (id off n:Nat)
 |qg (id off n:Nat)
 |gr (id n:Nat)
 |pq (ks vs:List D)
 deriving Inhabited
def aD:Nat:=1152921504606846976
abbrev aA:=Nat->Option Loc
def dZ:aA:=fun _=>none
mutual
def V(w:World)(O:Nat->Prop)(ρ:aA):D->Value->Prop
 |.any,_=>True
 |.raw u,v=>v=u
 |.str s,v=>v=.string ⟨s.toArray⟩/\s.length<=aD
 |.agg ds,v=>∃vs,v=.agg vs/\Vs w O ρ ds vs.toList
 |.a_ ds,v=>∃vs,v=.tuple vs/\Vs w O ρ ds vs.toList
 |.snap sz fP rows,v=>∃a cap,v=.slice a rows.length cap/\(rows.length<=cap/\rows.length<=aD)/\(fP=true->cap=rows.length)/\
   (rows≠[]->∃b off,a=some ⟨b,off,none⟩/\(b<w.heap.size/\¬O b)/\Vr w O b off sz rows)
 |.bj cs,v=>∃b off,v=.pointer (some ⟨b,off,none⟩)/\(b<w.heap.size/\¬O b)/\Vc w O b off cs
 |.box id off,v=>∃l,ρ id=some l/\v=.pointer (some ⟨l.b,off,none⟩)
 |.gs id n,v=>(n=0/\∃a,v=.slice a 0 0)\/(n≠0/\∃l,ρ id=some l/\v=.slice (some ⟨l.b,l.off,none⟩) n l.cap)
 |.pR id off,v=>∃l,ρ id=some l/\v=.pointer (some ⟨l.b,l.off+off,none⟩)
 |.cL id,v=>∃l,ρ id=some l/\v=.map (some l.b)
 |.fn f as bs,v=>∃us vs,v=.func f us vs/\Vs w O ρ as us.toList/\Vs w O ρ bs vs.toList
 |.sO id off n,v=>∃l cap,ρ id=some l/\v=.slice (some ⟨l.b,off,none⟩) n cap/\n<=cap
 |.qg id off n,v=>∃l cap,ρ id=some l/\v=.slice (some ⟨l.b,l.off+off,none⟩) n cap/\n<=cap
 |.gr id n,v=>∃l,ρ id=some l/\n<=l.cap/\v=.slice (some ⟨l.b,l.off,none⟩) n l.cap
 |.pq ks vs,v=>∃b es,v=.map (some b)/\(b<w.heap.size/\¬O b)/\(w.heap[b]?=some (.map es ks.length)/\vs.length=ks.length/\∀(i:Nat) e,es[i]?=some e->e.born=i)/\Vs w O dZ ks (es.toList.map (·.key))/\Vs w O dZ vs (es.toList.map (·.val))
def Vs(w:World)(O:Nat->Prop)(ρ:aA):List D->List Value->Prop
 |[],vs=>vs=[]
 |d::ds,vs=>∃u us,vs=u::us/\V w O ρ d u/\Vs w O ρ ds us
def Vc(w:World)(O:Nat->Prop)(b off:Nat):List D->Prop
 |[]=>True
 |d::ds=>(∃u,(w.cell? ⟨b,off,none⟩=some u/\u.oneCell'=true)/\V w O dZ d u)/\Vc w O b (off+1) ds
def Vr(w:World)(O:Nat->Prop)(b off sz:Nat):List (List D)->Prop
 |[]=>True
 |r::rs=>(r.length=sz/\Vc w O b off r)/\Vr w O b (off+sz) sz rs
end
def bN(ρ av:aA):Prop:=∀i l,ρ i=some l->av i=some l
def bN.refl(ρ:aA):bN ρ ρ:=fun _ _ h=>h
def bN.trans{a b c:aA}(h:bN a b)(h':bN b c):bN a c:=fun i l e=>h' i l (h i l e)
def P6:Obj->Bool
 |.cells _ _ _=>true
 |.map _ _=>true
 |_=>false
def Kept(w:World)(O:Nat->Prop)(w':World)(O':Nat->Prop):Prop:=
 w.heap.size<=w'.heap.size/\∀b,b<w.heap.size->¬O b->(∀o,w.heap[b]?=some o->P6 o=true->w'.heap[b]?=w.heap[b]?)/\¬O' b
def Kept.oK{w:World}{O:Nat->Prop}{w':World}{O':Nat->Prop}(h:Kept w O w' O'){b:Nat}(hb:b<w.heap.size/\¬O b):b<w'.heap.size/\¬O' b:=
 ⟨lF hb.1 h.1,(h.2 b hb.1 hb.2).2⟩
theorem Kept.trans{w w1 w2:World}{O O1 O2:Nat->Prop}(h:Kept w O w1 O1)(h':Kept w1 O1 w2 O2):Kept w O w2 O2:=
 ⟨dM h.1 h'.1,fun b hb ho=>⟨fun o e hs=>by
  have e1:=(h.2 b hb ho).1 o e hs;exact((h'.2 b (h.oK ⟨hb,ho⟩).1 (h.oK ⟨hb,ho⟩).2).1 o (e1.trans e) hs).trans e1,(h'.oK (h.oK ⟨hb,ho⟩)).2⟩⟩
def Kept.refl(w:World)(O:Nat->Prop):Kept w O w O:=⟨dP _,fun _ _ h=>⟨fun _ _ _=>rfl,h⟩⟩
def Gl(w:World)(O:Nat->Prop):Prop:=(∀g vs,(g,vs)∈Uv->(∃T fr,w.heap[g]?=some (.cells vs.toArray T fr))/\¬O g)/\∀g,g∈Lu->(∃te pe T fr,w.heap[g]?=some (.cells #[.iface te pe] T fr))/\¬O g
def Gl.mono{w w':World}{O O':Nat->Prop}(hk:Kept w O w' O')(h:Gl w O):Gl w' O':=⟨fun g vs hm=>by
 obtain⟨⟨T,fr,h1⟩,h2⟩:=h.1 g vs hm;have hb:g<w.heap.size:=(bH.1 h1).1;exact⟨⟨T,fr,((hk.2 g hb h2).1 _ h1 rfl).trans h1⟩,(hk.2 g hb h2).2⟩,fun g hm=>by
 obtain⟨⟨te,pe,T,fr,h1⟩,h2⟩:=h.2 g hm;have hb:g<w.heap.size:=(bH.1 h1).1;exact⟨⟨te,pe,T,fr,((hk.2 g hb h2).1 _ h1 rfl).trans h1⟩,(hk.2 g hb h2).2⟩⟩
def adr{w:World}{b off:Nat}{u:Value}(h:w.cell? ⟨b,off,none⟩=some u):b<w.heap.size:=by
 rcases eQ b w.heap.size with g|g
 ·exact g
 ·simp[World.cell?,tT g]at h
def ado{w:World}{b off:Nat}{u:Value}(h:w.cell? ⟨b,off,none⟩=some u):∃c T fr,w.heap[b]?=some (.cells c T fr):=by
 unfold World.cell? at h;split at h
 ·rename_i c T fr e;exact⟨c,T,fr,e⟩
 ·cases h
def adq{w w':World}{b off:Nat}{u:Value}(hk:∀o,w.heap[b]?=some o->P6 o=true->w'.heap[b]?=w.heap[b]?)(h:w.cell? ⟨b,off,none⟩=some u):w'.cell? ⟨b,off,none⟩=some u:=by
 obtain⟨c,T,fr,e⟩:=ado h;have:=hk _ e rfl;simpa[World.cell?,this]using h
def adp{w w':World}{b off:Nat}(h:w'.heap[b]?=w.heap[b]?):w'.cell? ⟨b,off,none⟩=w.cell? ⟨b,off,none⟩:=by
 simp[World.cell?,h]
mutual
theorem V.mono{w w':World}{O O':Nat->Prop}{ρ av:aA}(hk:Kept w O w' O')(hr:bN ρ av):
  ∀(d:D)(v:Value),V w O ρ d v->V w' O' av d v
 |.any,_,_=>by simp[V]
 |.raw u,v,h=>by simpa[V]using h
 |.str s,v,h=>by simpa[V]using h
 |.agg ds,v,h=>by
  simp only[V]at h|-;obtain⟨vs,e,h⟩:=h;exact⟨vs,e,Vs.mono hk hr ds _ h⟩
 |.a_ ds,v,h=>by
  simp only[V]at h|-;obtain⟨vs,e,h⟩:=h;exact⟨vs,e,Vs.mono hk hr ds _ h⟩
 |.snap sz fP rows,v,h=>by
  simp only[V]at h|-;obtain⟨a,cap,e,h1,h2,h3⟩:=h;refine⟨a,cap,e,h1,h2,fun aC=>?_⟩;obtain⟨b,off,e2,h4,h5⟩:=h3 aC;exact⟨b,off,e2,hk.oK h4,Vr.mono hk b off sz h4 rows h5⟩
 |.bj cs,v,h=>by
  simp only[V]at h|-;obtain⟨b,off,e,h1,h2⟩:=h;exact⟨b,off,e,hk.oK h1,Vc.mono hk b off h1 cs h2⟩
 |.box id off,v,h=>by
  simp only[V]at h|-;obtain⟨l,e,h⟩:=h;exact⟨l,hr _ _ e,h⟩
 |.gs id n,v,h=>by
  simp only[V]at h|-;rcases h with h|⟨hn,l,e,h⟩
  ·exact .inl h
  ·exact .inr ⟨hn,l,hr _ _ e,h⟩
 |.pR id off,v,h=>by
  simp only[V]at h|-;obtain⟨l,e,h⟩:=h;exact⟨l,hr _ _ e,h⟩
 |.cL id,v,h=>by
  simp only[V]at h|-;obtain⟨l,e,h⟩:=h;exact⟨l,hr _ _ e,h⟩
 |.fn f as bs,v,h=>by
  simp only[V]at h|-;obtain⟨us,vs,e,h1,h2⟩:=h;exact⟨us,vs,e,Vs.mono hk hr as _ h1,Vs.mono hk hr bs _ h2⟩
 |.sO id off n,v,h=>by
  simp only[V]at h|-;obtain⟨l,cap,e,h⟩:=h;exact⟨l,cap,hr _ _ e,h⟩
 |.qg id off n,v,h=>by
  simp only[V]at h|-;obtain⟨l,cap,e,h⟩:=h;exact⟨l,cap,hr _ _ e,h⟩
 |.gr id n,v,h=>by
  simp only[V]at h|-;obtain⟨l,e,h⟩:=h;exact⟨l,hr _ _ e,h⟩
 |.pq ks vs,v,h=>by
  simp only[V]at h|-;obtain⟨b,es,e,h1,h2,h3,h4⟩:=h;exact⟨b,es,e,hk.oK h1,⟨((hk.2 b h1.1 h1.2).1 _ h2.1 rfl).trans h2.1,h2.2⟩,Vs.mono hk (bN.refl _) ks _ h3,Vs.mono hk (bN.refl _) vs _ h4⟩
theorem Vs.mono{w w':World}{O O':Nat->Prop}{ρ av:aA}(hk:Kept w O w' O')(hr:bN ρ av):
  ∀(ds:List D)(vs:List Value),Vs w O ρ ds vs->Vs w' O' av ds vs
 |[],vs,h=>by simpa[Vs]using h
 |d::ds,vs,h=>by
  simp only[Vs]at h|-;obtain⟨u,us,e,h1,h2⟩:=h;exact⟨u,us,e,V.mono hk hr d u h1,Vs.mono hk hr ds us h2⟩
theorem Vc.mono{w w':World}{O O':Nat->Prop}(hk:Kept w O w' O')(b off:Nat)(hb:b<w.heap.size/\¬O b):
  ∀(ds:List D),Vc w O b off ds->Vc w' O' b off ds
 |[],_=>by simp[Vc]
 |d::ds,h=>by
  simp only[Vc]at h|-;obtain⟨⟨u,h1,h2⟩,h3⟩:=h;exact⟨⟨u,⟨adq (hk.2 b hb.1 hb.2).1 h1.1,h1.2⟩,V.mono hk (bN.refl _) d u h2⟩,Vc.mono hk b (off+1) hb ds h3⟩
theorem Vr.mono{w w':World}{O O':Nat->Prop}(hk:Kept w O w' O')(b off sz:Nat)(hb:b<w.heap.size/\¬O b):
  ∀(rs:List (List D)),Vr w O b off sz rs->Vr w' O' b off sz rs
 |[],_=>by simp[Vr]
 |r::rs,h=>by
  simp only[Vr]at h|-;exact⟨⟨h.1.1,Vc.mono hk b off hb r h.1.2⟩,Vr.mono hk b (off+sz) sz hb rs h.2⟩
end
abbrev Env:=List (Nat×D)
def Env.get:Env->Nat->Option D
 |[],_=>none
 |(t,d)::r,s=>bif Nat.beq t s then some d else Env.get r s
def Env.put(e:Env):Option Tmp->D->Env
 |none,_=>e
 |some t,d=>(t,d)::e
def Env.op(e:Env):Operand->Option D
 |.tmp t=>e.get t
 |.const (.string b)=>bif Nat.ble b.data.size 65536 then some (.str b.data.toList)else some (.raw (.string b))
 |.const v=>some (.raw v)
 |.global g=>some (.raw (.pointer (some ⟨g,0,none⟩)))
 |.func f=>some (.fn (.func f) [] [])
structure xQ where
 ps:Array Tmp
 assign:Code
 body:Code
 N:Nat
inductive Ob where
 |dead
 |cells (ds:List D)
 |arr (sz:Nat) (rows:List (List D))
 |lp (st:LoopState) (B1:Option Code) (s:xQ) (env:Env)
 |mp (r5:List (D×D))
 |mi (m zJ:Nat) (seen:List Nat)
 |fq (j n:Nat)
 |ba (s:List UInt8)
 |res (sz:Nat)
 |mj (ks vs:List D) (seen:List Nat)
 |mn
def Ob.live:Ob->Bool
 |.dead=>false
 |.arr _ []=>false
 |.ba []=>false
 |_=>true
abbrev ae:=List (Nat×Ob)
def ae.get:ae->Nat->Option Ob
 |[],_=>none
 |(t,d)::r,s=>bif Nat.beq t s then some d else ae.get r s
def ae.set:ae->Nat->Ob->ae
 |[],i,x=>[(i,x)]
 |(t,d)::r,i,x=>bif Nat.beq t i then(t,x)::r else(t,d)::ae.set r i x
def Env.bm(t s:Nat)(d:D)(e:Env):Env.get ((t,d)::e) s=if t=s then some d else e.get s:=by
 by_cases h:t=s
 ·subst h;simp[Env.get]
 ·have:Nat.beq t s=false:=by
   cases h2:Nat.beq t s with
   |true=>exact absurd (pT h2) h
   |false=>rfl
  simp[Env.get,this,h]
def ae.bm(t s:Nat)(d:Ob)(e:ae):ae.get ((t,d)::e) s=if t=s then some d else e.get s:=by
 by_cases h:t=s
 ·subst h;simp[ae.get]
 ·have:Nat.beq t s=false:=by
   cases h2:Nat.beq t s with
   |true=>exact absurd (pT h2) h
   |false=>rfl
  simp[ae.get,this,h]
theorem ae.ej(i j:Nat)(o:Ob):∀Z:ae,(Z.set i o).get j=if i=j then some o else Z.get j
 |[]=>by simp[ae.set,ae.bm,ae.get]
 |(t,d)::r=>by
  simp only[ae.set];cases h:Nat.beq t i with
  |true=>
   obtain rfl:=pT h;rw[iX,ae.bm,ae.bm];by_cases e:t=j<;>simp[e]
  |false=>
   have aC:t≠i:=fun e=>by subst e;simp at h
   rw[jh,ae.bm,ae.ej i j o r,ae.bm];by_cases e:t=j
   ·subst e;simp[qc aC]
   ·simp[e]
def cj(ρ:aA)(Z:ae)(b:Nat):Prop:=∃i o l,Z.get i=some o/\o.live=true/\ρ i=some l/\l.b=b
def Ot(O:Nat->Prop)(ρ:aA)(Z:ae)(b:Nat):Prop:=O b\/cj ρ Z b
def xO(w:World)(O:Nat->Prop)(b:Nat)(ks vs:List D):Prop:=
 ∃es,(b<w.heap.size/\¬O b)/\(w.heap[b]?=some (.map es ks.length)/\vs.length=ks.length/\∀(i:Nat) e,es[i]?=some e->e.born=i)/\Vs w O dZ ks (es.toList.map (·.key))/\Vs w O dZ vs (es.toList.map (·.val))
def FM{w:World}{O:Nat->Prop}{ρ:aA}{ks vs:List D}{v:Value}:V w O ρ (.pq ks vs) v↔∃b,v=.map (some b)/\xO w O b ks vs:=by
 simp only[V,xO];constructor
 ·rintro⟨b,es,h1,h2,h3,h4,h5⟩;exact⟨b,h1,es,h2,h3,h4,h5⟩
 ·rintro⟨b,h1,es,h2,h3,h4,h5⟩;exact⟨b,es,h1,h2,h3,h4,h5⟩
theorem xO.mono{w w':World}{O O':Nat->Prop}{b:Nat}{ks vs:List D}(hk:Kept w O w' O')(h:xO w O b ks vs):xO w' O' b ks vs:=by
 obtain⟨es,h1,h2,h3,h4⟩:=h;exact⟨es,hk.oK h1,⟨((hk.2 b h1.1 h1.2).1 _ h2.1 rfl).trans h2.1,h2.2⟩,Vs.mono hk (bN.refl _) ks _ h3,Vs.mono hk (bN.refl _) vs _ h4⟩
def ig(w:World)(O:Nat->Prop)(ρ:aA)(l:Loc):Ob->Prop
 |.dead=>True
 |.cells ds=>∃vs T,w.heap[l.b]?=some (.cells vs T (0,0))/\Vs w O ρ ds vs.toList
 |.arr sz rows=>∃c T,w.heap[l.b]?=some (.cells c T (0,0))/\l.off+l.cap*sz<=c.size/\(rows.length<=l.cap/\rows.length<=aD)/\Vr w O l.b l.off sz rows
 |.lp st B1 s env=>∃fn tmps df,w.heap[l.b]?=some (.loop ⟨st,B1,fn,tmps,s.ps,s.assign,s.body,df⟩)/\tmps.size=s.N/\∀t d,env.get t=some d->V w O ρ d (tmps.getD t undef)
 |.mp r5=>∃es,w.heap[l.b]?=some (.map es r5.length)/\es.size=r5.length/\∀(i:Nat)(kd vd:D),r5[i]?=some (kd,vd)->∃e,es[i]?=some e/\e.born=i/\V w O ρ kd e.key/\V w O ρ vd e.val
 |.mi m zJ seen=>∃lm,ρ m=some lm/\w.heap[l.b]?=some (.mapIter (some lm.b) zJ seen.toArray zJ)
 |.fq j n=>∃p v,w.heap[l.b]?=some (.cells #[p,v] pN (0,0))/\(p=.pointer none\/p=.pointer (some ⟨l.b,0,none⟩))/\((n=0/\∃ad,v=.slice ad 0 0)\/(n≠0/\∃lj,ρ j=some lj/\v=.slice (some ⟨lj.b,0,none⟩) n lj.cap))
 |.ba s=>∃c,w.heap[l.b]?=some (.cells c om (0,0))/\l.off=0/\c.size=l.cap/\s.length<=l.cap/\l.cap<=9223372036854775807/\c.toList.take s.length=s.map fun b=>.int .u8 b.toNat
 |.res sz=>∃c T,w.heap[l.b]?=some (.cells c T (0,0))/\l.off+l.cap*sz<=c.size
 |.mj ks vs seen=>∃b,xO w O b ks vs/\w.heap[l.b]?=some (.mapIter (some b) ks.length seen.toArray ks.length)
 |.mn=>w.heap[l.b]?=some (.mapIter none 0 #[] 0)
structure cX(w:World)(O:Nat->Prop)(ρ:aA)(Z:ae):Prop where
 lt:∀b,O b->b<w.heap.size
 fresh:∀i,Z.get i=none->ρ i=none
 own:∀i o,Z.get i=some o->o.live=true->∃l,ρ i=some l/\¬O l.b/\ig w (Ot O ρ Z) ρ l o
 inj:∀i j o o' l l',Z.get i=some o->Z.get j=some o'->o.live=true->o'.live=true->ρ i=some l->ρ j=some l'->l.b=l'.b->i=j
structure Tr(O:Nat->Prop)(w:World)(ρ:aA)(Z:ae)(w':World)(av:aA)(aj:ae):Prop where
 le:bN ρ av
 size:w.heap.size<=w'.heap.size
 same:∀b,b<w.heap.size->¬cj ρ Z b->w'.heap[b]?=w.heap[b]?
 new:∀b,cj av aj b->cj ρ Z b\/w.heap.size<=b
 ok:cX w' O av aj
 os:w'.os=w.os/\w'.output=w.output/\iE w w'
def Tr.kept{O:Nat->Prop}{w:World}{ρ:aA}{Z:ae}{w':World}{av:aA}{aj:ae}(h:Tr O w ρ Z w' av aj):Kept w (Ot O ρ Z) w' (Ot O av aj):=by
 refine⟨h.size,fun b hb ho=>⟨fun _ _ _=>h.same b hb fun g=>ho (.inr g),fun g=>?_⟩⟩;rcases g with g|g
 ·exact ho (.inl g)
 ·rcases h.new b g with g|g
  ·exact ho (.inr g)
  ·omega
theorem Tr.refl{O:Nat->Prop}{w:World}{ρ:aA}{Z:ae}(h:cX w O ρ Z):Tr O w ρ Z w ρ Z:=
 ⟨bN.refl _,dP _,fun _ _ _=>rfl,fun _ h=>.inl h,h,rfl,rfl,iE.eq rfl rfl⟩
theorem Tr.trans{O:Nat->Prop}{w w1 w2:World}{ρ FD FF:aA}{Z dG m9:ae}(h:Tr O w ρ Z w1 FD dG)(h':Tr O w1 FD dG w2 FF m9):Tr O w ρ Z w2 FF m9:=by
 refine⟨h.le.trans h'.le,dM h.size h'.size,fun b hb ho=>?_,fun b hb=>?_,h'.ok,h'.os.1.trans h.os.1,h'.os.2.1.trans h.os.2.1,h.os.2.2.trans h'.os.2.2⟩
 ·refine(h'.same b (lF hb h.size) fun g=>?_).trans (h.same b hb ho);rcases h.new b g with g|g
  ·exact ho g
  ·omega
 ·rcases h'.new b hb with g|g
  ·exact h.new b g
  ·exact .inr (dM h.size g)
structure hJ(O:Nat->Prop)(w:World)(ρ:aA)(Z:ae)(w':World)(av:aA)(aj:ae):Prop where
 size:w.heap.size<=w'.heap.size
 same:∀b,b<w.heap.size->¬cj ρ Z b->w'.heap[b]?=w.heap[b]?
 new:∀b,cj av aj b->cj ρ Z b\/w.heap.size<=b
 ok:cX w' O av aj
 os:w'.os=w.os/\w'.output=w.output/\iE w w'
def Tr.xE{O:Nat->Prop}{w:World}{ρ:aA}{Z:ae}{w':World}{av:aA}{aj:ae}(h:Tr O w ρ Z w' av aj):hJ O w ρ Z w' av aj:=⟨h.size,h.same,h.new,h.ok,h.os⟩
def hJ.kept{O:Nat->Prop}{w:World}{ρ:aA}{Z:ae}{w':World}{av:aA}{aj:ae}(h:hJ O w ρ Z w' av aj):Kept w (Ot O ρ Z) w' (Ot O av aj):=by
 refine⟨h.size,fun b hb ho=>⟨fun _ _ _=>h.same b hb fun g=>ho (.inr g),fun g=>?_⟩⟩;rcases g with g|g
 ·exact ho (.inl g)
 ·rcases h.new b g with g|g
  ·exact ho (.inr g)
  ·omega
theorem hJ.refl{O:Nat->Prop}{w:World}{ρ:aA}{Z:ae}(h:cX w O ρ Z):hJ O w ρ Z w ρ Z:=(Tr.refl h).xE
theorem hJ.trans{O:Nat->Prop}{w w1 w2:World}{ρ FD FF:aA}{Z dG m9:ae}(h:hJ O w ρ Z w1 FD dG)(h':hJ O w1 FD dG w2 FF m9):hJ O w ρ Z w2 FF m9:=by
 refine⟨dM h.size h'.size,fun b hb ho=>?_,fun b hb=>?_,h'.ok,h'.os.1.trans h.os.1,h'.os.2.1.trans h.os.2.1,h.os.2.2.trans h'.os.2.2⟩
 ·refine(h'.same b (lF hb h.size) fun g=>?_).trans (h.same b hb ho);rcases h.new b g with g|g
  ·exact ho g
  ·omega
 ·rcases h'.new b hb with g|g
  ·exact h.new b g
  ·exact .inr (dM h.size g)
theorem Tr.V{O:Nat->Prop}{w:World}{ρ:aA}{Z:ae}{w':World}{av:aA}{aj:ae}(h:Tr O w ρ Z w' av aj){d:D}{v:Value}(hv:V w (Ot O ρ Z) ρ d v):V w' (Ot O av aj) av d v:=
 V.mono h.kept h.le d v hv
end Go.T
namespace Go.T
open Go
variable[bX]
def aq(P:Program)(o:Oper)(env:Env)(Z:ae)(d:D)(aj:ae):Prop:=
 ∀(O:Nat->Prop)(ρ:aA)(a:Act)(w:World),cX w O ρ Z->Gl w (Ot O ρ Z)->
  (∀x∈o.op.operands.toList,∀d',env.op x=some d'->V w (Ot O ρ Z) ρ d' (a.eval x))->
  o.wp P a w (fun a' w'=>∃av v,a'=a.put o.dst v/\Tr O w ρ Z w' av aj/\V w' (Ot O av aj) av d v) (fun _ _ _=>False)
inductive Kind where
 |p|r|w
 deriving DecidableEq
def On(ops:Array Oper)(env:Env)(o:Oper):Prop:=
 match o.guard with
 |none=>True
 |some (g,b)=>∃t,(ops[g]?).bind (·.dst)=some t/\env.get t=some (.raw (.bool b))
def ui(ops:Array Oper)(env:Env)(o:Oper):Prop:=
 ∃g b t u,o.guard=some (g,b)/\(ops[g]?).bind (·.dst)=some t/\env.get t=some (.raw u)/\u≠.bool b
def eF(N:Nat):Option Tmp->Bool
 |none=>true
 |some t=>Nat.blt t N
inductive cN(P:Program)(N:Nat)(ops:Array Oper)(K:Env->ae->Prop):List Oper->List Kind->Env->ae->Prop
 |nil {env:Env} {Z:ae} (h:K env Z):cN P N ops K [] [] env Z
 |p {o:Oper} {l:List Oper} {ks:List Kind} {env:Env} {Z:ae} {d:D} (hd:eF N o.dst=true) (hg:On ops env o)
   (h:∀Z,aq P o env Z d Z) (k:cN P N ops K l ks (env.put o.dst d) Z):cN P N ops K (o::l) (.p::ks) env Z
 |r {o:Oper} {l:List Oper} {ks:List Kind} {env:Env} {Z:ae} {d:D} (hd:eF N o.dst=true) (hg:On ops env o)
   (h:aq P o env Z d Z) (k:cN P N ops K l ks (env.put o.dst d) Z):cN P N ops K (o::l) (.r::ks) env Z
 |w {o:Oper} {l:List Oper} {ks:List Kind} {env:Env} {Z aj:ae} {d:D} (hd:eF N o.dst=true) (hg:On ops env o)
   (h:aq P o env Z d aj) (k:cN P N ops K l ks (env.put o.dst d) aj):cN P N ops K (o::l) (.w::ks) env Z
 |off {o:Oper} {l:List Oper} {jt:Kind} {ks:List Kind} {env:Env} {Z:ae} (hd:eF N o.dst=true) (hg:ui ops env o)
   (k:cN P N ops K l ks (env.put o.dst (.raw undef)) Z):cN P N ops K (o::l) (jt::ks) env Z
structure Ctx where
 O:Nat->Prop
 w0:World
 we:aA
 IG:ae
 ro:Option Nat
def fz(ro:Option Nat):Fence:={Fence.wide with round:=ro}
structure Marks(n:Nat)(w:World)(O:Nat->Prop)(ds:List Deferred):Prop where
 at_:∀d∈ds,∃r,d=⟨.collected r,#[]⟩/\n<=r/\r<w.heap.size/\¬O r/\w.heap[r]?=some (.deferred (some []))
 apart:ds.Pairwise fun d e=>∀r,d=⟨.collected r,#[]⟩->e≠⟨.collected r,#[]⟩
theorem Marks.nil(n:Nat)(w:World)(O:Nat->Prop):Marks n w O []:=⟨fun d h=>absurd h zS,.nil⟩
def Marks.mono{n:Nat}{w w':World}{O O':Nat->Prop}{ds:List Deferred}(h:Marks n w O ds)(hs:w.heap.size<=w'.heap.size)(hk:∀b,b<w.heap.size->¬O b->w'.heap[b]?=w.heap[b]?/\¬O' b):Marks n w' O' ds:=
 ⟨fun d hd=>by
  obtain⟨r,h1,h2,h3,h4,h5⟩:=h.at_ d hd;exact⟨r,h1,h2,lF h3 hs,(hk r h3 h4).2,(hk r h3 h4).1.trans h5⟩,h.apart⟩
def hJ.marks{O:Nat->Prop}{w:World}{ρ:aA}{Z:ae}{w':World}{av:aA}{aj:ae}(h:hJ O w ρ Z w' av aj){n:Nat}{ds:List Deferred}(hm:Marks n w (Ot O ρ Z) ds):Marks n w' (Ot O av aj) ds:=
 hm.mono h.size fun b hb ho=>⟨h.same b hb fun g=>ho (.inr g),(h.kept.oK ⟨hb,ho⟩).2⟩
structure Fr where
 N:Nat
 ps:List Nat
 rd:Bool:=false
 yl:Option (Nat×Nat):=none
structure qu(F:Fr)(C:Ctx)(env:Env)(Z:ae)(a:Act)(w:World)(ρ:aA):Prop where
 keep:∀i,i∈F.ps->∀l,C.we i=some l->ρ i=some l
 tr:hJ C.O C.w0 C.we C.IG w ρ Z
 env:∀t d,env.get t=some d->V w (Ot C.O ρ Z) ρ d (a.tmps.getD t undef)
 size:a.tmps.size=F.N
 marks:Marks C.w0.heap.size w (Ot C.O ρ Z) a.defers
 rd:F.rd=false->C.ro=none
 yl:∀i b,F.yl=some (i,b)->i∈F.ps/\∃l,C.we i=some l/\l.b=b
 gl:Gl C.w0 (Ot C.O C.we C.IG)
def qu.ym{F:Fr}{C:Ctx}{env:Env}{Z:ae}{a:Act}{w:World}{ρ:aA}(h:qu F C env Z a w ρ):Gl w (Ot C.O ρ Z):=h.gl.mono h.tr.kept
def qu.step{F:Fr}{C:Ctx}{env aY:Env}{Z aj:ae}{a a':Act}{w w':World}{ρ av:aA}(h:qu F C env Z a w ρ)(ht:Tr C.O w ρ Z w' av aj)(he:∀t d,aY.get t=some d->V w' (Ot C.O av aj) av d (a'.tmps.getD t undef))(hs:a'.tmps.size=a.tmps.size)(hd:a'.defers=a.defers):qu F C aY aj a' w' av:=
 ⟨fun i hi l hl=>ht.le i l (h.keep i hi l hl),h.tr.trans ht.xE,he,hs.trans h.size,by rw[hd];exact ht.xE.marks h.marks,h.rd,h.yl,h.gl⟩
def St(F:Fr)(C:Ctx)(env:Env)(Z:ae)(a:Act)(w:World):Prop:=∃ρ,qu F C env Z a w ρ
def C'(xs:Array Value)(i j:Nat)(v:Value)(h:i<xs.size):(xs.setIfInBounds i v).getD j undef=if i=j then v else xs.getD j undef:=by
 by_cases e:i=j
 ·subst e;simp[Array.getD,h]
 ·simp only[aF e,Array.getD,Array.size_setIfInBounds];by_cases hj:j<xs.size
  ·simp[hj,e]
  ·simp[hj]
def Act.vT(a:Act)(dst:Option Tmp)(v:Value):(a.put dst v).tmps.size=a.tmps.size:=by
 cases dst<;>simp[Act.put]
def wE{w:World}{O:Nat->Prop}{ρ:aA}{env:Env}{a:Act}{N:Nat}{dst:Option Tmp}{d:D}{v:Value}(hN:a.tmps.size=N)(hd:eF N dst=true)
  (he:∀t d,env.get t=some d->V w O ρ d (a.tmps.getD t undef))(hv:V w O ρ d v):∀t d',(env.put dst d).get t=some d'->V w O ρ d' ((a.put dst v).tmps.getD t undef):=by
 cases dst with
 |none=>exact he
 |some s=>
  intro t d' h;have hs:s<a.tmps.size:=by rw[hN];simpa[eF,jE]using hd
  simp only[Env.put,Env.bm]at h;simp only[Act.put,C' _ _ _ _ hs];by_cases e:s=t
  ·simp only[aV e]at h|-;cases h;exact hv
  ·simp only[aF e]at h|-;exact he t d' h
def O0{w:World}{O:Nat->Prop}{ρ:aA}{env:Env}{a:Act}{v:Value}{d':D}(h:env.op (.const v)=some d'):V w O ρ d' (a.eval (.const v)):=by
 have hr:∀d',some (D.raw v)=some d'->V w O ρ d' (a.eval (.const v)):=fun d' h=>by
  simp only[cH]at h;subst h;simp[V,Act.eval]
 cases v with
 |string b=>
  simp only[Env.op]at h;cases hb:Nat.ble b.data.size 65536 with
  |false=>simp only[hb,jh]at h;exact hr _ h
  |true=>
   simp only[hb,iX,cH]at h;subst h;have:b.data.size<=65536:=by simpa using hb
   simp only[V,Act.eval];refine⟨by cases b;simp,?_⟩;simp only[aD,Ar];omega
 |_=>exact hr _ h
def vq{w:World}{O:Nat->Prop}{ρ:aA}{env:Env}{a:Act}
  (he:∀t d,env.get t=some d->V w O ρ d (a.tmps.getD t undef)):∀x d',env.op x=some d'->V w O ρ d' (a.eval x):=by
 intro x d' h;cases x with
 |tmp t=>exact he t d' h
 |const v=>exact O0 h
 |global g=>simp only[Env.op,cH]at h;subst h;simp[V,Act.eval]
 |func f=>simp only[Env.op,cH]at h;subst h;exact⟨#[],#[],rfl,by simp[Vs],by simp[Vs]⟩
def abl{ops:Array Oper}{o:Oper}{tmps:Array Value}{g:Nat}{b:Bool}{t:Nat}{u:Value}(hg:o.guard=some (g,b))(ht:(ops[g]?).bind (·.dst)=some t)(hu:tmps.getD t undef=u):
  Region.wanted o (yielded ops tmps)=true↔u=.bool b:=by
 simp only[Region.wanted,hg,yielded,ht,I5];by_cases h:t<tmps.size
 ·have:tmps[t]?=some u:=by simpa[Array.getD,h]using hu
  rw[this];cases u<;>simp
 ·have h1:tmps[t]?=none:=by simpa using h
  have h2:u=undef:=by simpa[Array.getD,h]using hu.symm
  rw[h1,h2];simp[undef]
def Fw{ops:Array Oper}{env:Env}{o:Oper}{a:Act}{w:World}{O:Nat->Prop}{ρ:aA}(hg:On ops env o)
  (he:∀g b t,o.guard=some (g,b)->(ops[g]?).bind (·.dst)=some t->∀d,env.get t=some d->V w O ρ d (a.tmps.getD t undef)):Region.wanted o (yielded ops a.tmps)=true:=by
 unfold On at hg;split at hg
 ·rename_i h;simp[Region.wanted,h]
 ·rename_i g b h;obtain⟨t,ht,e⟩:=hg;have:=he g b t h ht _ e;simp only[V]at this;exact(abl h ht this).2 rfl
def Qo{ops:Array Oper}{env:Env}{o:Oper}{a:Act}{w:World}{O:Nat->Prop}{ρ:aA}(hg:ui ops env o)
  (he:∀g b t,o.guard=some (g,b)->(ops[g]?).bind (·.dst)=some t->∀d,env.get t=some d->V w O ρ d (a.tmps.getD t undef)):Region.wanted o (yielded ops a.tmps)=false:=by
 obtain⟨g,b,t,u,h,ht,e,hu⟩:=hg;have:=he g b t h ht _ e;simp only[V]at this;have h2:=(abl (tmps:=a.tmps) h ht this);cases hw:Region.wanted o (yielded ops a.tmps)with
 |false=>rfl
 |true=>exact absurd (h2.1 hw) hu
structure Trace(P:Program)(N:Nat)(ops:Array Oper)(l:List Oper)(ks:List Kind)(E:Nat->Env)(B:Nat->ae)(ds:Nat->D):Prop where
 len:ks.length=l.length
 step:∀i o k,l[i]?=some o->ks[i]?=some k->eF N o.dst=true/\E (i+1)=(E i).put o.dst (ds i)/\(k≠.w->B (i+1)=B i)/\
  ((On ops (E i) o/\(k=.p->∀Z,aq P o (E i) Z (ds i) Z)/\aq P o (E i) (B i) (ds i) (B (i+1)))\/(ui ops (E i) o/\ds i=.raw undef/\B (i+1)=B i))
def cN.trace{P:Program}{N:Nat}{ops:Array Oper}{K:Env->ae->Prop}{l:List Oper}{ks:List Kind}{env:Env}{Z:ae}(h:cN P N ops K l ks env Z):
  ∃E B ds,Trace P N ops l ks E B ds/\E 0=env/\B 0=Z/\K (E l.length) (B l.length):=by
 have cons:∀{o:Oper}{l:List Oper}{k:Kind}{ks:List Kind}{env:Env}{Z aj:ae}{d:D},eF N o.dst=true->(k≠.w->aj=Z)->
   ((On ops env o/\(k=.p->∀Z,aq P o env Z d Z)/\aq P o env Z d aj)\/(ui ops env o/\d=.raw undef/\aj=Z))->
   (∃E B ds,Trace P N ops l ks E B ds/\E 0=env.put o.dst d/\B 0=aj/\K (E l.length) (B l.length))->
   ∃E B ds,Trace P N ops (o::l) (k::ks) E B ds/\E 0=env/\B 0=Z/\K (E (o::l).length) (B (o::l).length):=by
  intro o l k ks env Z aj d hd hk hs ⟨E,B,ds,ht,hE,hB,hK⟩;subst hB;refine⟨fun i=>match i with|0=>env|i+1=>E i,fun i=>match i with|0=>Z|i+1=>B i,fun i=>match i with|0=>d|i+1=>ds i,⟨by simp[ht.len],?_⟩,rfl,rfl,hK⟩;intro i o' k' ho uR;cases i with
  |zero=>
   simp only[jH,cH]at ho uR;subst ho;subst uR;exact⟨hd,hE,hk,hs⟩
  |succ i=>exact ht.step i o' k' (by simpa using ho) (by simpa using uR)
 induction h with
 |nil h=>exact⟨fun _=>_,fun _=>_,fun _=>.any,⟨rfl,fun i o k h=>by simp at h⟩,rfl,rfl,h⟩
 |p hd hg h _ ih=>exact cons hd (fun _=>rfl) (.inl ⟨hg,fun _=>h,h _⟩) ih
 |r hd hg h _ ih=>exact cons hd (fun _=>rfl) (.inl ⟨hg,(fun e=>by cases e),h⟩) ih
 |w hd hg h _ ih=>exact cons hd (fun e=>absurd rfl e) (.inl ⟨hg,(fun e=>by cases e),h⟩) ih
 |off hd hg _ ih=>exact cons hd (fun _=>rfl) (.inr ⟨hg,rfl,rfl⟩) ih
def Act.nh(a:Act)(dst:Option Tmp)(v:Value):(a.put dst v).defers=a.defers:=by cases dst<;>rfl
def zZ{P:Program}{o:Oper}{a:Act}{w:World}{K:Act->World->Prop}{Q:Exit->Act->World->Prop}(ro:Option Nat)(h:o.wp P a w K (fun _ _ _=>False))(hK:∀a' w',K a' w'->a'.defers=a.defers):o.wpIn (fz ro) 0 P a w K Q:=by
 have hd:∀c,o.op≠.defer c:=by
  intro c hc;unfold Oper.wp at h;simp only[execOp,hc]at h;rw[Sem.run_bind]at h;cases hr:(resolve a.eval c o.type).run P w with
  |ok d w'=>
   rw[hr]at h;simp only[Result.andThen_ok,Sem.run_pure,Oper.upon]at h;have:=hK _ _ h;rw[Act.nh]at this;simpa using congrArg List.length this
  |halt x w'=>
   rw[hr]at h;cases x<;>exact h
 refine⟨fun _ _=>trivial,?_⟩;rw[Oper.semAt_eq _ _ _ hd];unfold Oper.wp at h;generalize (execOp a.eval o).run P w=r at*;have ai3:∀{f args w' R R'},Calls P f args w' R->(∀e xJ,R e xJ->R' e xJ)->CallsIn (fz ro) 0 P f args w' R':=by
  intro f args w' R R' h1 h2;exact callsIn_wide.2 (Calls.mono h1 h2)
 cases r with
 |ok n w'=>
  cases n<;>simp only[Oper.upon]at h<;>simp only[Oper.uponIn]<;>
   first
    |exact h
    |exact⟨fun e=>by simp[fz,Fence.wide]at e,ai3 h (fun e xJ he=>by cases e<;>first|exact he|exact he.elim|exact(let⟨_,_,f⟩:=he;f.elim))⟩
    |exact⟨fun e=>by simp[fz,Fence.wide]at e,fun c cs _=>let⟨v,w2,r1,s1⟩:=h c cs;⟨v,w2,r1,stepsIn_wide.2 s1⟩⟩
 |halt x w'=>cases x<;>simp only[Oper.upon]at h
theorem Trace.text{P:Program}{F:Fr}{C:Ctx}{ops:Array Oper}{ks:List Kind}{E:Nat->Env}{B:Nat->ae}{ds:Nat->D}(ht:Trace P F.N ops ops.toList ks E B ds){Q:Exit->Act->World->Prop}
  (hQ:∀a w,St F C (E ops.size) (B ops.size) a w->Q .normal a w):
  ∀(n i:Nat),i+n=ops.size->∀a w,St F C (E i) (B i) a w->wpOpsIn (fz C.ro) 0 P ops Q (List.range' i n) a w
 |0,i,hi,a,w,hs=>by
  simp only[List.range',wpOpsIn];obtain rfl:i=ops.size:=by omega
  exact hQ a w hs
 |n+1,i,hi,a,w,hs=>by
  have bA:i<ops.size:=by omega
  have ho:ops[i]?=some ops[i]:=dW bA;have hk:∃k,ks[i]?=some k:=⟨ks[i]'(by rw[ht.len];simpa using bA),eu _⟩
  obtain⟨k,hk⟩:=hk;obtain⟨hd,hE,_,gX⟩:=ht.step i ops[i] k (by simp[bA]) hk;obtain⟨ρ,aU⟩:=hs;simp only[List.range',wpOpsIn,ho];rcases gX with⟨hg,_,hq⟩|⟨hg,wQ,Dl⟩
  ·rw[aV (Fw hg (fun _ _ t _ _ d h=>aU.env t d h))];have:=hq C.O ρ a w aU.tr.ok aU.ym (fun x _ d' h=>vq aU.env x d' h);refine Oper.wpIn_mono ?_ (zZ C.ro this (by rintro a' w' ⟨av,v,rfl,_⟩;exact Act.nh ..));rintro a' w' ⟨av,v,rfl,k7,hv⟩;refine Trace.text ht hQ n (i+1) zO _ _ ⟨av,aU.step k7 ?_ (Act.vT _ _ _) (Act.nh ..)⟩;rw[hE];exact wE aU.size hd (fun t d h=>k7.V (aU.env t d h)) hv
  ·rw[aF (by simp[Qo hg (fun _ _ t _ _ d h=>aU.env t d h)])];refine⟨fun _ _=>trivial,Trace.text ht hQ n (i+1) zO _ _ ⟨ρ,?_⟩⟩;rw[Dl];refine aU.step (Tr.refl aU.tr.ok) ?_ (Act.vT _ _ _) (Act.nh ..);rw[hE,wQ];exact wE aU.size hd aU.env (by simp[V])
def Oh:List Oper->List Nat->List Nat
 |[],acc=>acc
 |o::l,acc=>Oh l (acc++[o.after.toList.foldl (fun s e=>if Region.binds .any e then s|||2^e.on|||acc.getD e.on 0 else s) 0])
def Cd(ops:Array Oper)(o:Oper):List Tmp:=
 (o.op.operands.toList.filterMap fun|.tmp t=>some t|_=>none)++
 (match o.guard with|none=>[]|some (g,_)=>(((ops[g]?).bind (·.dst)).toList))
def x8(ops:Array Oper)(oi oj:Oper)(ki kj:Kind):Bool:=
 (match oi.dst with|some t=>(Cd ops oj).contains t||oj.dst==some t|none=>false)||
 (match oj.dst with|some t=>(Cd ops oi).contains t|none=>false)||
 (match ki,kj with|.w,.w|.w,.r|.r,.w=>true|_,_=>false)
def kN(ops:Array Oper)(ks:List Kind):Bool:=
 let m:=Oh ops.toList []
 (List.range ops.size).all fun j=>match ops[j]?,ks[j]?with
  |some oj,some kj=>(oj.after.toList.all fun e=>!Region.binds .any e||Nat.blt e.on j)&&
   (List.range j).all fun i=>match ops[i]?,ks[i]?with
    |some oi,some ki=>!x8 ops oi oj ki kj||(m.getD j 0).testBit i
    |_,_=>false
  |_,_=>false
inductive wi(ops:Array Oper):Nat->Nat->Prop
 |SI {j:Nat} {o:Oper} {e:Edge} (ho:ops[j]?=some o) (he:e∈o.after.toList) (hb:Region.binds .any e=true):wi ops e.on j
 |step {i j:Nat} {o:Oper} {e:Edge} (ho:ops[j]?=some o) (he:e∈o.after.toList) (hb:Region.binds .any e=true) (h:wi ops i e.on):wi ops i j
def ahz{acc:List Nat}{R:Nat->Prop}(es:List Edge)(h:∀e∈es,Region.binds .any e=true->R e.on/\∀i,(acc.getD e.on 0).testBit i=true->R i):
  ∀s:Nat,(∀i,s.testBit i=true->R i)->∀i,(es.foldl (fun s e=>if Region.binds .any e then s|||2^e.on|||acc.getD e.on 0 else s) s).testBit i=true->R i:=by
 induction es with
 |nil=>intro s hs i hi;exact hs i hi
 |cons e es ih=>
  intro s hs;simp only[oe];refine ih (fun e' he'=>h e' (cC _ he')) _ ?_;intro i hi;by_cases hb:Region.binds .any e=true
  ·simp only[hb,mX,Nat.testBit_or,fZ]at hi;have h1:=h e c7 hb;rcases hi with(hi|hi)|hi
   ·exact hs i hi
   ·rw[Nat.testBit_two_pow]at hi;have:e.on=i:=by simpa using hi
    exact this▸h1.1
   ·exact h1.2 i hi
  ·simp only[hb]at hi;exact hs i hi
theorem XO(ops:Array Oper):∀(l:List Oper)(acc:List Nat),ops.toList.drop acc.length=l->(∀j i,(acc.getD j 0).testBit i=true->wi ops i j)->
  ∀j i,((Oh l acc).getD j 0).testBit i=true->wi ops i j
 |[],acc,_,h,j,i,hi=>h j i hi
 |o::l,acc,hl,h,j,i,hi=>by
  have ho:ops[acc.length]?=some o:=by
   have:=aT List.head? hl;simpa[List.head?_drop]using this
  refine XO ops l _ ?_ ?_ j i hi
  ·rw[bl,<-tD,hl];simp
  ·intro j i hj;by_cases e:j=acc.length
   ·subst e;simp only[fV,zb (dP _),Nat.sub_self,jH,l8]at hj;refine ahz (acc:=acc) (R:=fun i=>wi ops i acc.length) o.after.toList ?_ 0 zS i (by simpa[fV]using hj);intro e he hb;exact⟨.SI ho he hb,fun i hi=>.step ho he hb (h _ _ hi)⟩
   ·refine h j i ?_;rcases eQ j acc.length with g|g
    ·simpa[fV,r7 g]using hj
    ·have:(acc++[o.after.toList.foldl (fun s e=>if Region.binds .any e then s|||2^e.on|||acc.getD e.on 0 else s) 0]).getD j 0=0:=by
      simp only[fV];rw[p9 zQ];rfl
     rw[this]at hj;simp at hj
def aol{ops:Array Oper}{ks:List Kind}(h:kN ops ks=true){j:Nat}{o:Oper}(ho:ops[j]?=some o){e:Edge}(he:e∈o.after.toList)(hb:Region.binds .any e=true):e.on<j:=by
 have hj:j<ops.size:=(bH.1 ho).1;simp only[kN,de,px]at h;have:=h j hj;rw[ho]at this;cases hk:ks[j]?with
 |none=>simp[hk]at this
 |some k=>
  simp only[hk,bd,de]at this;have:=this.1 e he;simpa[hb,jE]using this
def ED{ops:Array Oper}{ks:List Kind}(h:kN ops ks=true){i j:Nat}(AZ:i<j){oi oj:Oper}{ki kj:Kind}(hi:ops[i]?=some oi)(hj:ops[j]?=some oj)(Hz:ks[i]?=some ki)(Dw:ks[j]?=some kj)
  (hc:x8 ops oi oj ki kj=true):wi ops i j:=by
 have bA:j<ops.size:=(bH.1 hj).1;simp only[kN,de,px]at h;have:=h j bA;rw[hj,Dw]at this;simp only[bd,de,px]at this;have:=this.2 i AZ;rw[hi,Hz]at this;simp only[hc,zh,Bool.false_or]at this;exact XO ops ops.toList [] rfl zS j i this
end Go.T
namespace Go.T
open Go
variable[bX]
section
variable{P:Program} {N:Nat} {C:Ctx} {ops:Array Oper} {ks:List Kind} {E:Nat->Env} {B:Nat->ae} {ds:Nat->D}
def Trace.at(ht:Trace P N ops ops.toList ks E B ds){i:Nat}{o:Oper}(ho:ops[i]?=some o):∃k,ks[i]?=some k/\eF N o.dst=true/\E (i+1)=(E i).put o.dst (ds i)/\(k≠.w->B (i+1)=B i)/\
    ((On ops (E i) o/\(k=.p->∀Z,aq P o (E i) Z (ds i) Z)/\aq P o (E i) (B i) (ds i) (B (i+1)))\/(ui ops (E i) o/\ds i=.raw undef/\B (i+1)=B i)):=by
  have bA:i<ops.size:=(bH.1 ho).1;have hk:ks[i]?=some (ks[i]'(by rw[ht.len];simpa using bA)):=eu _
  exact⟨_,hk,ht.step i o _ (by simpa using ho) hk⟩
theorem Trace.look(ht:Trace P N ops ops.toList ks E B ds)(t:Nat)(d:D):∀i,i<=ops.size->(E i).get t=some d->
    (∃j o,j<i/\ops[j]?=some o/\o.dst=some t/\d=ds j/\∀j' o',j<j'->j'<i->ops[j']?=some o'->o'.dst≠some t)\/
    ((∀j o,j<i->ops[j]?=some o->o.dst≠some t)/\(E 0).get t=some d)
  |0,_,h=>.inr ⟨fun _ _ h=>absurd h (Nat.not_lt_zero _),h⟩
  |i+1,hi,h=>by
    have ho:ops[i]?=some ops[i]:=dW zO;obtain⟨k,_,_,hE,_⟩:=ht.at ho;rw[hE]at h;have oK:(E i).get t=some d->ops[i].dst≠some t->(∃j o,j<i+1/\ops[j]?=some o/\o.dst=some t/\d=ds j/\∀j' o',j<j'->j'<i+1->ops[j']?=some o'->o'.dst≠some t)\/
        ((∀j o,j<i+1->ops[j]?=some o->o.dst≠some t)/\(E 0).get t=some d):=fun h' hn=>by
      rcases Trace.look ht t d i zO h' with⟨j,o,h1,h2,h3,h4,h5⟩|⟨h1,h2⟩
      · refine Or.inl ⟨j,o,Nat.lt_succ_of_lt h1,h2,h3,h4,fun j' o' a b c=>?_⟩
        rcases eQ j' i with g|g
        · exact h5 j' o' a g c
        · obtain rfl:j'=i:=by omega
          rw[ho]at c;cases c;exact hn
      · refine Or.inr ⟨fun j o a b=>?_,h2⟩
        rcases eQ j i with g|g
        · exact h1 j o g b
        · obtain rfl:j=i:=by omega
          rw[ho]at b;cases b;exact hn
    cases hd:ops[i].dst with
    |none=>
      rw[hd]at h;exact oK h (by simp[hd])
    |some s=>
      rw[hd]at h;simp only[Env.put,Env.bm]at h;by_cases e:s=t
      · simp only[aV e,cH]at h
        exact .inl ⟨i,_,Jr _,ho,by rw[hd,e],h.symm,fun j' o' a b=>by omega⟩
      · simp only[aF e]at h
        exact oK h (by rw[hd];simpa using e)
theorem Trace.still(ht:Trace P N ops ops.toList ks E B ds)(lo:Nat):∀hi,hi<=ops.size->lo<=hi->(∀j,lo<=j->j<hi->ks[j]?≠some .w)->B hi=B lo
  |0,_,hl,_=>by
      obtain rfl:lo=0:=by omega
      rfl
  |hi+1,hs,hl,hn=>by
    rcases eQ hi lo with g|g
    · obtain rfl:lo=hi+1:=by omega
      rfl
    · have ho:ops[hi]?=some ops[hi]:=dW zO
      obtain⟨k,hk,_,_,hB,_⟩:=ht.at ho;rw[hB (fun e=>hn hi g (Jr _) (by rw[hk,e]))];exact Trace.still ht lo hi zO g (fun j a b=>hn j a zO)
def gQ(listed:Array Bool)(i:Nat):Prop:=listed[i]?=some true
structure FJ(F:Fr)(C:Ctx)(ops:Array Oper)(ks:List Kind)(E:Nat->Env)(B:Nat->ae)(ds:Nat->D)(listed:Array Bool)(a:Act)(w:World)(ρ:aA)(c:Nat):Prop where
  down:∀j o,ops[j]?=some o->gQ listed j->∀e∈o.after.toList,Region.binds .any e=true->gQ listed e.on
  cut:∀j,ks[j]?=some .w->(gQ listed j↔j<c)
  le:c<=ops.size
  tr:hJ C.O C.w0 C.we C.IG w ρ (B c)
  fresh:∀t d,(∀j o,ops[j]?=some o->gQ listed j->o.dst≠some t)->(E 0).get t=some d->V w (Ot C.O ρ (B c)) ρ d (a.tmps.getD t undef)
  last:∀j o t,ops[j]?=some o->gQ listed j->o.dst=some t->(∀j' o',ops[j']?=some o'->gQ listed j'->o'.dst=some t->j'<=j)->V w (Ot C.O ρ (B c)) ρ (ds j) (a.tmps.getD t undef)
  size:a.tmps.size=F.N
  keep:∀i,i∈F.ps->∀l,C.we i=some l->ρ i=some l
  marks:Marks C.w0.heap.size w (Ot C.O ρ (B c)) a.defers
  rd:F.rd=false->C.ro=none
  yl:∀i b,F.yl=some (i,b)->i∈F.ps/\∃l,C.we i=some l/\l.b=b
  gl:Gl C.w0 (Ot C.O C.we C.IG)
def ER{listed:Array Bool}(down:∀j o,ops[j]?=some o->gQ listed j->∀e∈o.after.toList,Region.binds .any e=true->gQ listed e.on){i j:Nat}(h:wi ops i j)
    (hj:∀o,ops[j]?=some o->∀e∈o.after.toList,Region.binds .any e=true->gQ listed e.on):gQ listed i:=by
  induction h with
  |SI ho he hb=>exact hj _ ho _ he hb
  |step ho he hb _ ih=>exact ih (fun o h'=>down _ o h' (hj _ ho _ he hb))
theorem FJ.look{F:Fr}{listed:Array Bool}{a:Act}{w:World}{ρ:aA}{c:Nat}(hI:FJ F C ops ks E B ds listed a w ρ c)(ht:Trace P F.N ops ops.toList ks E B ds)(ai:kN ops ks=true)
    {i:Nat}{o:Oper}(ho:ops[i]?=some o)(ce:¬gQ listed i)(hr:∀e∈o.after.toList,Region.binds .any e=true->gQ listed e.on){t:Nat}(yM:t∈Cd ops o){d:D}(hd:(E i).get t=some d):
    V w (Ot C.O ρ (B c)) ρ d (a.tmps.getD t undef):=by
  have hi:i<ops.size:=(bH.1 ho).1;obtain⟨ki,Hz,_⟩:=ht.at ho;have NL:∀j' o',ops[j']?=some o'->gQ listed j'->o'.dst=some t->j'<i:=by
    intro j' o' h1 h2 h3;rcases q0 j' i with g|g|g
    · exact g
    · subst g;exact absurd h2 ce
    · obtain⟨k',uR,_⟩:=ht.at h1
      have hp:=ED ai g ho h1 Hz uR (by simp[x8,h3,yM]);exact absurd (ER hI.down hp (fun zf h4 e he hb=>hI.down j' zf h4 h2 e he hb)) ce
  rcases ht.look t d i zO hd with⟨j,oj,h1,h2,h3,h4,h5⟩|⟨h1,h2⟩
  · obtain⟨kj,Dw,_⟩:=ht.at h2
    have hp:=ED ai h1 h2 ho Dw Hz (by simp[x8,h3,yM]);have hl:gQ listed j:=ER hI.down hp (fun zf h6=>by rw[ho]at h6;cases h6;exact hr);rw[h4];refine hI.last j oj t h2 hl h3 fun j' o' a1 a2 a3=>?_;rcases eQ j j' with g|g
    · exact absurd a3 (h5 j' o' g (NL j' o' a1 a2 a3) a1)
    · exact g
  · exact hI.fresh t d (fun j o' a1 a2 a3=>h1 j o' (NL j o' a1 a2 a3) a1 a3) h2
def xf{listed:Array Bool}{i j:Nat}(hi:i<listed.size):gQ (listed.setIfInBounds i true) j↔j=i\/gQ listed j:=by
  unfold gQ;rw[pG];by_cases e:i=j
  · subst e;simp[hi]
  · rw[aF e]
    exact⟨.inr,fun h=>h.resolve_left (fun e'=>e e'.symm)⟩
def todo(listed:Array Bool):Nat:=(listed.toList.filter (!·)).length
def aaR{listed:Array Bool}{i:Nat}(h:listed[i]?=some false):todo (listed.setIfInBounds i true)+1=todo listed:=by
  obtain⟨hi,he⟩:=bH.1 h;have kG:i<listed.toList.length:=by simpa using hi
  unfold todo;rw[CO];have h1:listed.toList=listed.toList.take i++false::listed.toList.drop (i+1):=by
    conv=>lhs;rw[<-lG i listed.toList,ju kG]
    simp[he]
  conv=>rhs;rw[h1]
  rw[List.set_eq_take_append_cons_drop,aV kG];simp;omega
theorem Trace.any{F:Fr}(ht:Trace P F.N ops ops.toList ks E B ds)(ai:kN ops ks=true){Q:Exit->Act->World->Prop}
    (hQ:∀a w,St F C (E ops.size) (B ops.size) a w->Q .normal a w):
    ∀(eB:Nat)(listed:Array Bool)(a:Act)(w:World),listed.size=ops.size->todo listed<=eB->(∃ρ c,FJ F C ops ks E B ds listed a w ρ c)->wpAnyIn (fz C.ro) 0 P .any ops Q eB listed a w:=by
  have fin:∀(listed:Array Bool)(a:Act)(w:World),listed.size=ops.size->Region.ready .any ops listed=[]->(∃ρ c,FJ F C ops ks E B ds listed a w ρ c)->Q .normal a w:=by
    intro listed a w hs hr ⟨ρ,c,hI⟩;have all:∀n,n<=ops.size->∀i,i<n->gQ listed i:=by
      intro n;induction n with
      |zero=>intro _ i hi;omega
      |succ n ih=>
        intro hn i hi;rcases eQ i n with g|g
        · exact ih zO i g
        · obtain rfl:i=n:=by omega
          have bA:i<listed.size:=by omega
          have ho:ops[i]?=some ops[i]:=dW zO;unfold gQ;cases hb:listed[i]with
          |true=>rw[dW bA,hb]
          |false=>
            have:i∈Region.ready .any ops listed:=by
              simp only[Region.ready,eX,px];refine⟨by omega,?_⟩;simp only[ja,dW bA,hb,l8,BB,oL,ho,jk];rw[<-Array.all_toList,de];intro e he;cases AU:Region.binds .any e with
              |false=>simp
              |true=>
                have:=ih zO e.on (aol ai ho he AU);unfold gQ at this;simp[this]
            rw[hr]at this;cases this
    have eI:∀i,i<ops.size->gQ listed i:=all ops.size (dP _);have hB:B ops.size=B c:=by
      refine ht.still c ops.size (dP _) hI.le fun j h1 h2 hk=>?_;have:=(hI.cut j hk).1 (eI j h2);omega
    refine hQ a w ⟨ρ,hI.keep,by rw[hB];exact hI.tr,?_,hI.size,by rw[hB];exact hI.marks,hI.rd,hI.yl,hI.gl⟩;rw[hB];intro t d hd;rcases ht.look t d ops.size (dP _) hd with⟨j,o,h1,h2,h3,h4,h5⟩|⟨h1,h2⟩
    · rw[h4]
      refine hI.last j o t h2 (eI j h1) h3 fun j' o' a1 a2 a3=>?_;rcases eQ j j' with g|g
      · exact absurd a3 (h5 j' o' g (bH.1 a1).1 a1)
      · exact g
    · exact hI.fresh t d (fun j o a1 _=>h1 j o (bH.1 a1).1 a1) h2
  intro eB;induction eB with
  |zero=>
    intro listed a w hs hf hI;have hr:Region.ready .any ops listed=[]:=by
      rw[Region.ready,List.filter_eq_nil_iff];intro i hi;have bA:i<listed.size:=by rw[hs];simpa using hi
      have:listed[i]=true:=by
        cases hb:listed[i]with
        |true=>rfl
        |false=>
          have:=aaR (listed:=listed) (i:=i) (by rw[dW bA,hb]);omega
      simp[ja,dW bA,this]
    exact⟨hr,fin listed a w hs hr hI⟩
  |succ eB ih=>
    intro listed a w hs hf hI;refine⟨fun hr=>fin listed a w hs hr hI,fun i hi=>?_⟩;obtain⟨ρ,c,hI⟩:=hI;simp only[Region.ready,eX,px,bd,lD]at hi;obtain⟨bA,DC,DJ⟩:=hi;have tf:i<listed.size:=by omega
    have U3:listed[i]?=some false:=by
      simp only[ja,dW tf,l8]at DC;rw[dW tf,DC]
    have ce:¬gQ listed i:=by unfold gQ;rw[U3];simp
    have ho:ops[i]?=some ops[i]:=dW bA;generalize ops[i]=o at ho;have MM:∀e∈o.after.toList,Region.binds .any e=true->gQ listed e.on:=by
      intro e he hb;rw[ho]at DJ;simp only[jk,l8,<-Array.all_toList,de]at DJ;have:=DJ e he;simp only[hb,zh,Bool.false_or,ja]at this;unfold gQ;cases hl:listed[e.on]?with
      |none=>simp[hl]at this
      |some b=>simp[hl]at this;rw[this]
    obtain⟨k,hk,MH,hE,hBk,ajI⟩:=ht.at ho;have Vk:∀t∈Cd ops o,∀d,(E i).get t=some d->V w (Ot C.O ρ (B c)) ρ d (a.tmps.getD t undef):=fun t yM d hd=>hI.look ht ai ho ce MM yM hd;have Va:∀g b t,o.guard=some (g,b)->(ops[g]?).bind (·.dst)=some t->∀d,(E i).get t=some d->V w (Ot C.O ρ (B c)) ρ d (a.tmps.getD t undef):=by
      intro g b t hg hgt d hd;exact Vk t (by simp[Cd,hg,hgt]) d hd
    have Vw:∀x∈o.op.operands.toList,∀d',(E i).op x=some d'->V w (Ot C.O ρ (B c)) ρ d' (a.eval x):=by
      intro x hx d' hd;cases x with
      |tmp t=>exact Vk t (by
          simp only[Cd,cM,xv];exact .inl ⟨.tmp t,hx,rfl⟩) d' hd
      |const v=>exact O0 hd
      |global g=>simp only[Env.op,cH]at hd;subst hd;simp[V,Act.eval]
      |func f=>simp only[Env.op,cH]at hd;subst hd;exact⟨#[],#[],rfl,by simp[Vs],by simp[Vs]⟩
    -- writers other than i: listed just where they come before i, if i itself reads or writes
    have wr:k≠.p->∀j,ks[j]?=some .w->j≠i->(gQ listed j↔j<i):=by
      intro j5 j hj hji;have Vf:j<ops.size:=by
        have:=(cI.1 hj).1;rw[ht.len]at this;simpa using this
      have qP:ops[j]?=some ops[j]:=dW Vf;constructor
      · intro hl
        rcases eQ j i with g|g
        · exact g
        · have hp:=ED ai (by omega:i<j) ho qP hk hj (by cases k<;>simp_all[x8])
          exact absurd (ER hI.down hp (fun zf h4 e he hb=>hI.down j zf h4 hl e he hb)) ce
      · intro ajl
        have hp:=ED ai ajl qP ho hj hk (by cases k<;>simp_all[x8]);exact ER hI.down hp (fun zf h6=>by rw[ho]at h6;cases h6;exact MM)
    have Dl:k≠.p->B i=B c:=by
      intro j5;rcases eQ i c with g|g
      · refine(ht.still i c hI.le zO fun j h1 h2 hj=>?_).symm
        by_cases e:j=i
        · subst e;exact ce ((hI.cut j hj).2 g)
        · have:=(wr j5 j hj e).1 ((hI.cut j hj).2 h2);omega
      · refine ht.still c i zO g fun j h1 h2 hj=>?_
        have:=(hI.cut j hj).1 ((wr j5 j hj zO).2 h2);omega
    -- the state behind operation i
    have next:∀(v:Value)(w':World)(av:aA)(c':Nat),c'<=ops.size->(∀j,ks[j]?=some .w->(gQ (listed.setIfInBounds i true) j↔j<c'))->Tr C.O w ρ (B c) w' av (B c')->V w' (Ot C.O av (B c')) av (ds i) v->
        wpAnyIn (fz C.ro) 0 P .any ops Q eB (listed.setIfInBounds i true) (a.put o.dst v) w':=by
      intro v w' av c' AV ai6 aP hv;refine ih _ _ _ (by simpa using hs) (by have:=aaR U3;omega) ⟨av,c',?_,ai6,AV,hI.tr.trans aP.xE,?_,?_,(Act.vT _ _ _).trans hI.size,fun i hi l hl=>aP.le i l (hI.keep i hi l hl),?_,hI.rd,hI.yl,hI.gl⟩
      · intro j oj qP hl e he hb
        rw[xf tf]at hl|-;rcases hl with rfl|hl
        · rw[ho]at qP;cases qP;exact .inr (MM e he hb)
        · exact .inr (hI.down j oj qP hl e he hb)
      · intro t d hn hd
        have M7:o.dst≠some t:=hn i o ho ((xf tf).2 (.inl rfl));have:=aP.V (hI.fresh t d (fun j oj a1 a2=>hn j oj a1 ((xf tf).2 (.inr a2))) hd);cases Dq:o.dst with
        |none=>exact this
        |some s=>
          have bb:s<a.tmps.size:=by rw[hI.size];simpa[eF,Dq,jE]using MH
          simp only[Act.put,C' _ _ _ _ bb];rw[aF (fun e=>M7 (by rw[Dq,e]))];exact this
      · intro j oj t qP hl Hq wV
        rw[xf tf]at hl;by_cases e:j=i
        · subst e
          rw[ho]at qP;cases qP;have bb:t<a.tmps.size:=by rw[hI.size];simpa[eF,Hq,jE]using MH
          simp only[Hq,Act.put,C' _ _ _ _ bb,mX];exact hv
        · have yF:=hl.resolve_left e
          have M7:o.dst≠some t:=by
            intro wQ;have h1:=wV i o ho ((xf tf).2 (.inl rfl)) wQ;obtain⟨kj,Dw,_⟩:=ht.at qP;have hp:=ED ai (by omega:i<j) ho qP hk Dw (by simp[x8,wQ,Hq]);exact absurd (ER hI.down hp (fun zf h4 e he hb=>hI.down j zf h4 yF e he hb)) ce
          have:=aP.V (hI.last j oj t qP yF Hq (fun j' o' a1 a2 a3=>wV j' o' a1 ((xf tf).2 (.inr a2)) a3));cases Dq:o.dst with
          |none=>exact this
          |some s=>
            have bb:s<a.tmps.size:=by rw[hI.size];simpa[eF,Dq,jE]using MH
            simp only[Act.put,C' _ _ _ _ bb];rw[aF (fun e=>M7 (by rw[Dq,e]))];exact this
      · rw[Act.nh];exact aP.xE.marks hI.marks
    -- the cut behind an operation that is no writer
    have KJ:k≠.w->∀j,ks[j]?=some .w->(gQ (listed.setIfInBounds i true) j↔j<c):=by
      intro nN j hj;rw[xf tf,<-hI.cut j hj];exact⟨fun h=>h.resolve_left (fun e=>by subst e;rw[hk]at hj;exact nN (qe hj)),.inr⟩
    have RY:k=.w->∀j,ks[j]?=some .w->(gQ (listed.setIfInBounds i true) j↔j<i+1):=by
      intro nN j hj;rw[xf tf];by_cases e:j=i
      · subst e;exact⟨fun _=>Jr _,fun _=>.inl rfl⟩
      · rw[wr (by rw[nN];simp) j hj e]
        constructor
        · rintro(h|h)
          · exact absurd h e
          · omega
        · intro h;exact .inr zO
    unfold wpOpIn;simp only[ho];rcases ajI with⟨hg,hqp,hq⟩|⟨hg,wQ,aiL⟩
    · rw[aV (Fw hg Va)]
      by_cases j5:k=.p
      · refine Oper.wpIn_mono ?_ (zZ C.ro (hqp j5 (B c) C.O ρ a w hI.tr.ok (hI.gl.mono hI.tr.kept) Vw) (by rintro a' w' ⟨av,v,rfl,_⟩;exact Act.nh ..))
        rintro a' w' ⟨av,v,rfl,k7,hv⟩;exact next v w' av c hI.le (KJ (by rw[j5];simp)) k7 hv
      · have qQ:=hq
        rw[Dl j5]at qQ;refine Oper.wpIn_mono ?_ (zZ C.ro (qQ C.O ρ a w hI.tr.ok (hI.gl.mono hI.tr.kept) Vw) (by rintro a' w' ⟨av,v,rfl,_⟩;exact Act.nh ..));rintro a' w' ⟨av,v,rfl,k7,hv⟩;by_cases nN:k=.w
        · exact next v w' av (i+1) zO (RY nN) k7 hv
        · have nK:B (i+1)=B c:=(hBk nN).trans (Dl j5)
          rw[nK]at k7 hv;exact next v w' av c hI.le (KJ nN) k7 hv
    · rw[aF (by simp[Qo hg Va])]
      refine⟨fun _ _=>trivial,?_⟩;by_cases nN:k=.w
      · have nK:B (i+1)=B c:=aiL.trans (Dl (by rw[nN];simp))
        refine next undef w ρ (i+1) zO (RY nN) (by rw[nK];exact Tr.refl hI.tr.ok) ?_
        rw[wQ];simp[V]
      · refine next undef w ρ c hI.le (KJ nN) (Tr.refl hI.tr.ok) ?_
        rw[wQ];simp[V]
end
end Go.T
