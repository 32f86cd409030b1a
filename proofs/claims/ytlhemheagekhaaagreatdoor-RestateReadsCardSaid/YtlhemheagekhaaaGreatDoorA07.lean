/-
  Contracts of the functions that the statement reaches, and the logic in which they are proved (no condition): parts Core19, Core20, Core21, Core22, Shelf, S1, S2, S3.
-/
import Derived.Test.YtlhemheagekhaaaGreatDoorA06
import Derived.Below
import Derived.Shelf.Strings.Builder1
import Derived.Shelf.Strings.Builder2
import Derived.Shelf.Strings.Trim
import Derived.Shelf.Small.Utf8
import Derived.Shelf.Small.Bits
import Derived.Shelf.Small.Strs
import Derived.Shelf.Small.Wraps
import Derived.Shelf.Strings.BuilderF
import Derived.Shelf.Strings.BuilderK
import Derived.Shelf.Strconv.Itoa0
import Derived.Shelf.Strconv.Itoa1
import Derived.Shelf.LaysM
import Derived.Shelf.Strconv.Itoa2
import Derived.Shelf.Strconv.Lower
import Derived.Shelf.Strconv.ParseUint10b64
import Derived.Ground.MpProg
import Derived.Shelf.Pu.ParseUintPublic10
import Derived.Shelf.Strings.Search1
import Derived.Shelf.Strings.Search2
import Derived.Shelf.Strings.Cut
import Derived.Shelf.Strings.Shaped
import Derived.Shelf.Strings.Prefix
import Derived.Shelf.Strings.Runes
import Derived.Shelf.Strings.AsciiSet
import Derived.Shelf.Bits.Mul64
import Derived.Shelf.Strings.Repeat
import Derived.Shelf.Unicode.DecodeSlow
import Derived.WalkKit
import Derived.BigCall
import Derived.BigGuard
import Derived.Lib.ItoaMem
import Derived.Lib.Walk
set_option linter.all false
namespace Go.T
open Go
variable [Noise]
def putP : Env → List Tmp → List D → Env
 | e, p :: ps, d :: ds => putP ((p, d) :: e) ps ds
 | e, _, _ => e
theorem putP_V {w : World} {O : Nat → Prop} {ρ : Rho} {N : Nat} : ∀ (ps : List Tmp) (ds : List D) (vs : List Value) (env : Env) (tmps : Array Value), tmps.size = N → ps.all (fun p => Nat.blt p N) = true → Vs w O ρ ds vs → (∀ t d, env.get t = some d → V w O ρ d (tmps.getD t undef)) →
  ((ps.zip vs).foldl (fun (t : Array Value) (x : Tmp × Value) => t.setIfInBounds x.1 x.2) tmps).size = N ∧ ∀ t d, (putP env ps ds).get t = some d → V w O ρ d (((ps.zip vs).foldl (fun (t : Array Value) (x : Tmp × Value) => t.setIfInBounds x.1 x.2) tmps).getD t undef)
 | [], ds, vs, env, tmps, hN, _, hv, he => by
  simp only [List.zip_nil_left, List.foldl_nil]
  refine ⟨hN, ?_⟩
  cases ds <;> exact he
 | p :: ps, [], vs, env, tmps, hN, _, hv, he => by
  simp only [Vs] at hv; subst hv
  simp only [List.zip_nil_right, List.foldl_nil]
  exact ⟨hN, he⟩
 | p :: ps, d :: ds, vs, env, tmps, hN, hp, hv, he => by
  simp only [Vs] at hv
  obtain ⟨u, us, rfl, h1, h2⟩ := hv
  simp only [List.all_cons, Bool.and_eq_true] at hp
  have hlt : p < tmps.size := by rw [hN]; simpa [Nat.blt_eq] using hp.1
  simp only [List.zip_cons_cons, List.foldl_cons, putP]
  refine putP_V ps ds us _ _ (by simpa using hN) hp.2 h2 ?_
  intro t d' hd
  rw [Env.get_cons] at hd
  rw [getD_set _ _ _ _ hlt]
  by_cases e : p = t
  ·rw [if_pos e] at hd ⊢; cases hd; exact h1
  ·rw [if_neg e] at hd ⊢; exact he t d' hd
theorem EnvF.okL {f : Nat → Bool} {env env' : Env} (h : EnvF f env env') : D.okB.okL f (env'.map (·.2)) = true := by
 induction h with
 | nil => rfl
 | cons h hp _ ih => simp only [List.map_cons, D.okB.okL, hp, ih, Bool.and_self]
/-- How a round ends. -/
def endQ (F' : Fr) (idL : Nat) (s : LpS) (env0 : Env) (B' : Obs) (Xs : Code → Obs → Prop) : Exit → Env → Obs → Prop
 | .normal, env, obs => obs.get idL = some (.lp .busy none s env0) ∧ Le F' env (obs.set idL (.lp .ready none s env0)) [] B'
 | .ret, env, obs => obs.get idL = some (.lp .busy none s env0) ∧ ∃ Rx, Xs .ret Rx ∧ Le F' env (obs.set idL (.lp .done (some .ret) s env0)) [] ((idL, .lp .done (some .ret) s env0) :: Rx)
 | .exit id, env, obs => obs.get idL = some (.lp .busy none s env0) ∧ ∃ Rx, Xs (.exit id) Rx ∧ Le F' env (obs.set idL (.lp .done (some (.exit id)) s env0)) [] ((idL, .lp .done (some (.exit id)) s env0) :: Rx)
 | _, _, _ => False
def asgQ (P : Program) (F' : Fr) (idL : Nat) (s : LpS) (env0 : Env) (B' : Obs) (Xs : Code → Obs → Prop) : Exit → Env → Obs → Prop
 | .normal, env, obs => obs.get idL = some (.lp .ready none s env0) ∧ Run P F' [s.body] (endQ F' idL s env0 B' Xs) env (obs.set idL (.lp .busy none s env0))
 | _, _, _ => False
/-- Where a loop that was left stands. -/
def stopX (idL : Nat) (s : LpS) (env0 : Env) (Xs : Code → Obs → Prop) (o : Obs) : Prop := ∃ j Rx, Xs j Rx ∧ o = (idL, .lp .done (some j) s env0) :: Rx
/-- The record of the loop turns. -/
theorem St.record {F' : Fr} {C : Ctx} {env : Env} {obs : Obs} {a : Act} {w : World} {idL : Nat} {l : Loc} {st : LoopState} {pe : Option Code} {s : LpS} {env0 : Env} (hmem : idL ∈ F'.ps) (hl : C.ρ0 idL = some l) (hget : obs.get idL = some (.lp st pe s env0)) (hs : St F' C env obs a w) :
  ∃ fn tmps df, w.heap[l.b]? = some (.loop ⟨st, pe, fn, tmps, s.ps, s.assign, s.body, df⟩) ∧ ∀ st' pe', St F' C env (obs.set idL (.lp st' pe' s env0)) a (w.putObj l.b (.loop ⟨st', pe', fn, tmps, s.ps, s.assign, s.body, df⟩)) := by
 obtain ⟨ρ, hs⟩ := hs
 have hρ := hs.keep idL hmem l hl
 obtain ⟨l', h1, h2, fn, tmps, df, h3, h4, h5⟩ := hs.tr.ok.own idL _ hget rfl
 rw [hρ] at h1; cases h1
 refine ⟨fn, tmps, df, h3, fun st' pe' => ⟨ρ, ?_⟩⟩
 have htr := Tr.upd (o' := .lp st' pe' s env0) hs.tr.ok hget rfl hρ (.loop ⟨st', pe', fn, tmps, s.ps, s.assign, s.body, df⟩) (fun hk => ⟨fn, tmps, df, by
  have := (Array.getElem?_eq_some_iff.1 h3).1
  simp [this], h4, fun t d hd => V.mono hk (RhoLe.refl _) d _ (h5 t d hd)⟩)
 exact hs.step htr (fun t d hd => htr.V (hs.env t d hd)) rfl rfl
theorem round_yield {P : Program} {N idL lb : Nat} {ids : List Nat} {pl : List Tmp} {s : LpS} {env0 : Env} {x : List D} {R : Obs} {B' : Obs} {Xs : Code → Obs → Prop} (hs : s.ps = pl.toArray) (hN : s.N = N) (hpl : pl.all (fun p => Nat.blt p N) = true) (hlen : x.length = pl.length) (hmem : idL ∈ ids)
  (h : Run P ⟨N, ids, true, none⟩ [s.assign] (asgQ P ⟨N, ids, true, none⟩ idL s env0 B' Xs) (putP env0 pl x) ((idL, .lp .ready none s env0) :: R)) :
  YieldStep P idL lb ids x ((idL, .lp .ready none s env0) :: R) B' (stopX idL s env0 Xs) := ⟨fun O ρ w vals l hl hlb hok hgl hv => by
 subst hlb
 have hget : Obs.get ((idL, Ob.lp .ready none s env0) :: R) idL = some (.lp .ready none s env0) := by simp [Obs.get]
 obtain ⟨l', h1, h2, fn, tmps, df, h3, h4, h5⟩ := hok.own idL _ hget rfl
 rw [hl] at h1; cases h1
 have hvl := hv.length
 refine ⟨fn, _, s.assign, s.body, run_yield h3 (by rw [hs]; simp [hvl, hlen]), ?_⟩
 refine roundIn_of_wpIn trivial ?_
 have htm : ((s.ps.zip vals.toArray).foldl (fun tmps (x : Tmp × Value) => tmps.setIfInBounds x.1 x.2) tmps) = ((pl.zip vals).foldl (fun (t : Array Value) (x : Tmp × Value) => t.setIfInBounds x.1 x.2) tmps) := by
  rw [hs]; simp
 obtain ⟨hsz, hpe⟩ := putP_V (w := w) pl x vals env0 tmps (h4.trans hN) hpl hv h5
 let C : Ctx := ⟨O, w, ρ, (idL, .lp .ready none s env0) :: R, some l.b⟩
 have hst : St ⟨N, ids, true, none⟩ C (putP env0 pl x) ((idL, .lp .ready none s env0) :: R) { tmps := (s.ps.zip vals.toArray).foldl (fun tmps (x : Tmp × Value) => tmps.setIfInBounds x.1 x.2) tmps, defers := [] } w :=
  ⟨ρ, fun _ _ _ h => h, Tr0.refl hok, by rw [htm]; exact hpe, by rw [htm]; exact hsz, Marks.nil .., (fun e => by cases e), (fun _ _ e => by cases e), hgl⟩
 have hrun := h.start.out C _ w hst
 refine wpIn_mono hrun ?_
 rintro e a1 w1 ⟨env1, obs1, hq, hs1⟩
 cases e with
 | normal =>
  obtain ⟨hg1, hbody⟩ := hq
  obtain ⟨fn1, tmps1, df1, hh1, hset1⟩ := hs1.record (C := C) (l := l) hmem hl hg1
  refine ⟨_, run_beginRound hh1 rfl, ?_⟩
  refine wpIn_mono (hbody.start.out C a1 _ (hset1 .busy none)) ?_
  have fin : ∀ (jump : Option Code) (st : LoopState) (env2 : Env) (obs2 : Obs) (a2 : Act) (w2 : World) (o : Obs), (st = if jump.isNone then .ready else .done) → obs2.get idL = some (.lp .busy none s env0) → St ⟨N, ids, true, none⟩ C env2 obs2 a2 w2 → Le ⟨N, ids, true, none⟩ env2 (obs2.set idL (.lp st jump s env0)) [] o → ((jump.isNone = true ∧ o = B') ∨ (jump.isNone = false ∧ stopX idL s env0 Xs o)) →
    ∃ v w', (Instr.endRound l.b jump).run P w2 = .ok v w' ∧ ∃ b ρ' o, Ending.returned v = .returned (.bool b) ∧ ((b = true ∧ o = B') ∨ (b = false ∧ stopX idL s env0 Xs o)) ∧ Tr0 O w ρ ((idL, .lp .ready none s env0) :: R) w' ρ' o ∧ ∀ i ∈ ids, ∀ l, ρ i = some l → ρ' i = some l := by
   intro jump st env2 obs2 a2 w2 o hst2 hg2 hs2 hle ho
   obtain ⟨fn2, tmps2, df2, hh2, hset2⟩ := hs2.record (C := C) (l := l) hmem hl hg2
   obtain ⟨ρ', hs3⟩ := hle.out C a2 _ (hset2 st jump)
   refine ⟨_, _, run_endRound jump hh2, jump.isNone, ρ', o, rfl, ho, ?_, hs3.keep⟩
   have := hs3.tr
   rw [hst2] at this
   exact this
  rintro e a2 w2 ⟨env2, obs2, hq2, hs2⟩
  cases e with
  | normal => exact fin none .ready env2 obs2 a2 w2 B' rfl hq2.1 hs2 hq2.2 (.inl ⟨rfl, rfl⟩)
  | ret =>
   obtain ⟨hg2, Rx, hx, hle⟩ := hq2
   exact fin (some .ret) .done env2 obs2 a2 w2 _ rfl hg2 hs2 hle (.inr ⟨rfl, .ret, Rx, hx, rfl⟩)
  | exit id =>
   obtain ⟨hg2, Rx, hx, hle⟩ := hq2
   exact fin (some (.exit id)) .done env2 obs2 a2 w2 _ rfl hg2 hs2 hle (.inr ⟨rfl, .exit id, Rx, hx, rfl⟩)
  | goto l => exact hq2.elim
  | panic ch => exact hq2.elim
  | outgrown => exact hq2.elim
 | exit id => exact hq.elim
 | goto l => exact hq.elim
 | ret => exact hq.elim
 | panic ch => exact hq.elim
 | outgrown => exact hq.elim⟩
/-- What comes of a loop that was left. -/
def stopQ (Q : Exit → Env → Obs → Prop) (env0 : Env) (j : Code) (Rx : Obs) : Prop :=
 match j with
 | .ret => Q .ret env0 Rx
 | .exit id => Q (.exit id) env0 Rx
 | _ => False
theorem Run.rangeF {α : Type} {P : Program} {F : Fr} {Q : Exit → Env → Obs → Prop} {cs : List Code} {env : Env} {obs : Obs} {g : Operand} {pl : List Tmp} {assign body : Code} {f : FuncId} {lo : Nat} {caps : List D} {own : Obs} {enc : α → List D} {ok fin : List α → Prop}
  (idL : Nat) (S : List Nat) (env0 : Env) (R : List α → Obs) (Xs : Code → Obs → Prop)
  (hrd : F.rd = false) (hcall : ∀ (args : Array Value) (w : World), (callFunc f args).run P w = .ok (.enter f args) w) (hF : FcY P f lo caps own enc ok fin)
  {env1 : Env} (hle : Le F env obs env1 (own ++ R [])) (hg : env1.op g = some (.fn (.func f) [] caps)) (hpl : pl.all (fun p => Nat.blt p F.N) = true) (hlen : ∀ x, (enc x).length = pl.length)
  (he : EnvF (fun i => S.contains i) env1 env0) (hps : F.ps.all (fun i => S.contains i) = true)
  (hS : ∀ pre, S.all (R pre).has = true) (hSX : ∀ j o, Xs j o → S.all o.has = true)
  (hok : ∀ pre i o, (R pre).get i = some o → o.okB (R pre).has = true) (hokX : ∀ j o, Xs j o → ∀ i x, o.get i = some x → x.okB o.has = true)
  (hfr : ∀ pre i, (lo ≤ i ∧ i < lo + 100) ∨ i = idL → (R pre).get i = none) (hfrX : ∀ j o, Xs j o → ∀ i, (lo ≤ i ∧ i < lo + 100) ∨ i = idL → o.get i = none)
  (hidL : ¬ (lo ≤ idL ∧ idL < lo + 100)) (hown : own.get idL = none)
  (round : ∀ pre x, ok (pre ++ [x]) → Run P ⟨F.N, idL :: S, true, none⟩ [assign] (asgQ P ⟨F.N, idL :: S, true, none⟩ idL ⟨pl.toArray, assign, body, F.N⟩ env0 ((idL, .lp .ready none ⟨pl.toArray, assign, body, F.N⟩ env0) :: R (pre ++ [x])) Xs) (putP env0 pl (enc x)) ((idL, .lp .ready none ⟨pl.toArray, assign, body, F.N⟩ env0) :: R pre))
  (done : ∀ xs, fin xs → Run P F cs Q env0 (R xs)) (stop : ∀ j o, Xs j o → stopQ Q env0 j o) :
  Run P F (.rangeFunc g pl.toArray assign body :: cs) Q env obs := by
 have core : ∀ C a w, St F C env obs a w → Code.wpIn (fz C.ro) 0 P (.rangeFunc g pl.toArray assign body) (fun e a' w' => ∃ env' obs', thenQ (WPd P F cs Q) Q e env' obs' ∧ St F C env' obs' a' w') a w := by
  intro C a w hs0
  obtain ⟨ρ, hs⟩ := hle.out C a w hs0
  have hro : C.ro = none := hs.rd hrd
  have hev := op_of_env hs.env g _ hg
  obtain ⟨us, vs, e1, e2, e3⟩ := fn_V hev
  have hus : us = #[] := by simp only [Vs] at e2; exact Array.toList_eq_nil_iff.1 e2
  subst hus
  let s : LpS := ⟨pl.toArray, assign, body, F.N⟩
  let B : List α → Obs := fun pre => (idL, .lp .ready none s env0) :: R pre
  have hgB : ∀ (o : Ob) (r : Obs) i, Obs.get ((idL, o) :: r) i = if idL = i then some o else r.get i := fun o r i => Obs.get_cons ..
  rw [hro]
  refine wpIn_rangeFunc fun fn _ => ?_
  let w1 := w.alloc (.deferred (some []))
  let w2 := w1.alloc (.loop { state := .ready, pending := none, fn, tmps := a.tmps, params := pl.toArray, assign, body, defers := w.heap.size })
  have hw1 : w1.heap.size = w.heap.size + 1 := by simp [w1]
  have hw2 : w.heap.size < w2.heap.size := by
   have : w2.heap.size = w1.heap.size + 1 := by simp [w2]
   omega
  -- the world with the block for deferred calls, then with the record
  have htr1 : Tr C.O w ρ (own ++ R []) w1 ρ (own ++ R []) := by
   refine Tr.of_keep ⟨by omega, fun b hb => ?_, rfl, rfl, Clk.eq rfl rfl⟩ hs.tr.ok
   show (w.heap.push _)[b]? = _
   rw [Array.getElem?_push, if_neg (by omega)]
  let l : Loc := ⟨w1.heap.size, 0, 0⟩
  have hno : Obs.get (own ++ R []) idL = none := by
   rw [Obs.get_append, hown]; exact hfr [] idL (.inr rfl)
  have htr2 : Tr C.O w1 ρ (own ++ R []) w2 (upd ρ idL l) ((idL, .lp .ready none s env0) :: (own ++ R [])) := by
   refine Tr.born htr1.ok hno _ rfl (fun i x h _ => h) (fun i h => h) (fun hk => ⟨fn, a.tmps, w.heap.size, ?_, hs.size, fun t d hd => ?_⟩)
   ·exact World.alloc_heap_new w1 _
   ·exact V.mono hk (upd_le l (htr1.ok.fresh idL hno)) d _ (htr1.V (hs.env t d (he.sound t d hd).1))
  have htr12 := htr1.trans htr2
  have hcg : ∀ i, Obs.get ((idL, .lp .ready none s env0) :: (own ++ R [])) i = Obs.get (own ++ B []) i := by
   intro i
   rw [Obs.get_cons, Obs.get_append, Obs.get_append]
   by_cases e : idL = i
   ·subst e; simp [hown, B, Obs.get_cons]
   ·rw [if_neg e]
    cases own.get i with
    | some z => rfl
    | none => simp [B, Obs.get_cons, e]
  have hok2 : ObsOK w2 C.O (upd ρ idL l) (own ++ B []) := htr12.ok.congr hcg
  have hkO : ∀ b, Ot C.O (upd ρ idL l) (own ++ B []) b → Ot C.O (upd ρ idL l) ((idL, .lp .ready none s env0) :: (own ++ R [])) b := fun b hb => (Ot.congr hcg b).2 hb
  have hcaps : Vs w2 (Ot C.O (upd ρ idL l) (own ++ B [])) (upd ρ idL l) caps vs.toList :=
   Vs.mono (Kept.subO hkO) (RhoLe.refl _) _ _ (Vs.mono htr12.kept htr12.le _ _ e3)
  have hmemS : ∀ i, i ∈ S → i ≠ idL := by
   intro i hi e
   have h1 := List.all_eq_true.1 (hS []) i hi
   rw [e, Obs.has, hfr [] idL (.inr rfl)] at h1; cases h1
  have Y : YEnv P lo idL l.b (idL :: S) B (stopX idL s env0 Xs) enc ok := by
   have hasB : ∀ (o : Ob) (r : Obs), S.all r.has = true → (idL :: S).all (Obs.has ((idL, o) :: r)) = true := by
    intro o r hr
    rw [List.all_eq_true] at hr ⊢
    intro i hi
    rcases List.mem_cons.1 hi with rfl | hi
    ·simp [Obs.has, Obs.get_cons]
    ·have := hr i hi
     simp only [Obs.has, Obs.get_cons] at this ⊢
     split
     ·rfl
     ·exact this
   have okE : ∀ (o : Obs), S.all o.has = true → ∀ st pe, (Ob.lp st pe s env0).okB o.has = true := by
    intro o ho st pe
    show D.okB.okL o.has (env0.map (·.2)) = true
    have := he.okL
    exact D.okL_all _ (fun i hi => List.all_eq_true.1 ho i (by simpa using hi)) this
   have mono1 : ∀ (o : Ob) (r : Obs) i, r.has i = true → Obs.has ((idL, o) :: r) i = true := by
    intro o r i hi
    simp only [Obs.has, Obs.get_cons] at hi ⊢
    split
    ·rfl
    ·exact hi
   have okB1 : ∀ st pe (r : Obs), S.all r.has = true → (∀ i x, r.get i = some x → x.okB r.has = true) → ∀ i x, Obs.get ((idL, .lp st pe s env0) :: r) i = some x → x.okB (Obs.has ((idL, .lp st pe s env0) :: r)) = true := by
    intro st pe r hr ho i x hx
    rw [Obs.get_cons] at hx
    by_cases e : idL = i
    ·rw [if_pos e] at hx; cases hx
     exact Ob.okB_all (mono1 _ r) (okE r hr st pe)
    ·rw [if_neg e] at hx
     exact Ob.okB_all (mono1 _ r) (ho i x hx)
   have free1 : ∀ (o : Ob) (r : Obs), (∀ i, (lo ≤ i ∧ i < lo + 100) ∨ i = idL → r.get i = none) → ∀ i, lo ≤ i → i < lo + 100 → Obs.get ((idL, o) :: r) i = none := by
    intro o r hr i h1 h2
    rw [Obs.get_cons, if_neg (fun e : idL = i => hidL (by omega))]
    exact hr i (.inl ⟨h1, h2⟩)
   refine ⟨List.mem_cons_self, fun pre => hasB _ _ (hS pre), ?_, fun pre => okB1 _ _ _ (hS pre) (hok pre), ?_, fun pre => free1 _ _ (hfr pre), ?_, fun pre x hx => ?_⟩
   ·rintro o ⟨j, Rx, hx, rfl⟩; exact hasB _ _ (hSX j Rx hx)
   ·rintro o ⟨j, Rx, hx, rfl⟩; exact okB1 _ _ _ (hSX j Rx hx) (hokX j Rx hx)
   ·rintro o ⟨j, Rx, hx, rfl⟩; exact free1 _ _ (hfrX j Rx hx)
   ·exact round_yield rfl rfl hpl (hlen x) List.mem_cons_self (round pre x hx)
  refine ⟨w.heap.size + 1, [⟨.collected w.heap.size, #[]⟩], w2, ⟨.fn (.func f) vs, #[] ++ #[.func (.yield (w.heap.size + 1)) #[] #[]]⟩, w2, f, (Value.func (.yield l.b) #[] #[] :: vs.toList).toArray, w2, run_enterLoop_outer fn a.tmps pl.toArray assign body, ?_, fun _ _ => trivial, ?_, fun e => by simp [fz, Fence.wide] at e, ?_⟩
  ·have hm : Array.map a.eval #[Operand.const (Value.func (Fn.yield (w.heap.size + 1)) #[] #[])] = #[Value.func (.yield (w.heap.size + 1)) #[] #[]] := by simp [Act.eval]
   rw [resolve]; simp only [rangeCall, e1, Deferred.ofValue, hm, Sem.run_pure]
  ·have : (#[] ++ #[Value.func (.yield (w.heap.size + 1)) #[] #[]] ++ vs : Array Value) = (Value.func (.yield l.b) #[] #[] :: vs.toList).toArray := by
    apply Array.ext'
    simp [l, hw1]
   show (callFunc f (#[] ++ #[Value.func (.yield (w.heap.size + 1)) #[] #[]] ++ vs)).run P w2 = _
   rw [this, hcall]
  ·refine callsIn_wide.2 (Calls.mono (hF.out idL l.b (idL :: S) B _ Y w2 C.O (upd ρ idL l) vs.toList l (upd_same ..) rfl hok2 (hs.glob.mono (htr12.kept.trans (Kept.subO hkO))) hcaps) ?_)
   rintro e w3 ⟨v, ρ', o, rfl, ho, htr3, hkeep⟩
   have hρ' : ρ' idL = some l := hkeep idL List.mem_cons_self l (upd_same ..)
   -- the whole way from w to w3
   have hall : Tr0 C.O w ρ (own ++ R []) w3 ρ' o := htr12.to0.trans (htr3.congrL fun i => (hcg i).symm)
   have hmk : Marks C.w0.heap.size w3 (Ot C.O ρ' o) (⟨.collected w.heap.size, #[]⟩ :: a.defers) := by
    have hmk2 : Marks C.w0.heap.size w2 (Ot C.O (upd ρ idL l) (own ++ B [])) (⟨.collected w.heap.size, #[]⟩ :: a.defers) := by
     have hold := htr12.to0.marks hs.marks
     refine ⟨fun d hd => ?_, List.pairwise_cons.2 ⟨fun d hd r hr e => ?_, hold.apart⟩⟩
     ·rcases List.mem_cons.1 hd with rfl | hd
      ·refine ⟨w.heap.size, rfl, hs.tr.size, hw2, ?_, ?_⟩
       ·intro hb
        rcases hkO _ hb with hb | hb
        ·have := hs.tr.ok.lt _ hb; omega
        ·rcases htr2.new _ hb with hb | hb
         ·have := (hs.tr.ok.block hb).1; omega
         ·omega
       ·show ((w.heap.push _).push _)[w.heap.size]? = _
        simp [Array.getElem?_push]
      ·obtain ⟨r, g1, g2, g3, g4, g5⟩ := hold.at_ d hd
       exact ⟨r, g1, g2, g3, fun hb => g4 (hkO _ hb), g5⟩
     ·obtain ⟨r', g1, _, g3, _⟩ := hs.marks.at_ d hd
      subst e
      cases hr
      simp only [Deferred.mk.injEq, Target.collected.injEq, and_true] at g1
      omega
    exact htr3.marks hmk2
   -- what every end has in common
   have fin1 : ∀ (st : LoopState) (pe : Option Code) (Ro : Obs), o = (idL, .lp st pe s env0) :: Ro → st ≠ .busy → S.all Ro.has = true → (∀ i x, Ro.get i = some x → x.okB Ro.has = true) → (∀ i, (lo ≤ i ∧ i < lo + 100) ∨ i = idL → Ro.get i = none) →
     ∃ w4, (Instr.endLoop l.b).run P w3 = .ok pe w4 ∧ St F C env0 Ro { a with defers := ⟨.collected w.heap.size, #[]⟩ :: a.defers } w4 := by
    intro st pe Ro hoe hst hSo hoko hfro
    subst hoe
    have hget : Obs.get ((idL, Ob.lp st pe s env0) :: Ro) idL = some (.lp st pe s env0) := by simp [Obs.get]
    obtain ⟨l', g1, g2, fn', tmps', df', g3, g4, g5⟩ := htr3.ok.own idL _ hget rfl
    rw [hρ'] at g1; cases g1
    refine ⟨_, run_endLoop g3 hst, ?_⟩
    have hsubR : ∀ i x, Ro.get i = some x → Obs.get ((idL, .lp st pe s env0) :: Ro) i = some x ∧ x.okB Ro.has = true := by
     intro i x hx
     refine ⟨?_, hoko i x hx⟩
     rw [Obs.get_cons, if_neg (fun e => by rw [← e, hfro idL (.inr rfl)] at hx; cases hx)]
     exact hx
    have hOw : ∀ b, Owned (cutRho Ro.has ρ') Ro b → Owned ρ' ((idL, .lp st pe s env0) :: Ro) b := by
     rintro b ⟨i, x, l', k1, k2, k3, k4⟩
     exact ⟨i, x, l', (hsubR i x k1).1, k2, cutRho_le k3, k4⟩
    have hnl : ∀ b, Owned (cutRho Ro.has ρ') Ro b → b ≠ l.b := by
     rintro b ⟨i, x, l', k1, k2, k3, k4⟩ e
     have := htr3.ok.inj i idL x _ l' l (hsubR i x k1).1 hget k2 rfl (cutRho_le k3) hρ' (k4.trans e)
     rw [this, hfro idL (.inr rfl)] at k1; cases k1
    have hok4 := htr3.ok.sub hsubR
    have hk4 : Kept w3 (Ot C.O (cutRho Ro.has ρ') Ro) (w3.putObj l.b (.loop ⟨.exhausted, pe, fn', tmps', s.ps, s.assign, s.body, df'⟩)) (Ot C.O (cutRho Ro.has ρ') Ro) := by
     refine ⟨by simp, fun b hb hob => ⟨fun o e hs => World.putObj_heap_other (fun e' => ?_), hob⟩⟩
     rw [e', g3] at e; cases e; cases hs
    have htr4 : Tr0 C.O w ρ (own ++ R []) (w3.putObj l.b (.loop ⟨.exhausted, pe, fn', tmps', s.ps, s.assign, s.body, df'⟩)) (cutRho Ro.has ρ') Ro := by
     refine ⟨by simpa using hall.size, fun b hb hob => ?_, fun b hb => hall.new b (hOw b hb), ⟨fun b hb => by simpa using htr3.ok.lt b hb, hok4.fresh, fun i x k1 k2 => ?_, hok4.inj⟩, hall.os⟩
     ·rw [World.putObj_heap_other (fun e => by have : l.b = w.heap.size + 1 := hw1; omega)]
      exact hall.same b hb hob
     ·obtain ⟨l', k3, k4, k5⟩ := hok4.own i x k1 k2
      exact ⟨l', k3, k4, k5.mono hk4 (RhoLe.refl _) (World.putObj_heap_other (hnl _ ⟨i, x, l', k1, k2, k3, rfl⟩))⟩
    refine ⟨cutRho Ro.has ρ', fun i hi l' hl' => ?_, hs.tr.trans htr4, fun t d hd => ?_, hs.size, ?_, hs.rd, hs.yl, hs.gl⟩
    ·have hiS : i ∈ S := by simpa using List.all_eq_true.1 hps i hi
     have hr : upd ρ idL l i = some l' := by rw [upd_other (hmemS i hiS)]; exact hs.keep i hi l' hl'
     have := List.all_eq_true.1 hSo i hiS
     simp [cutRho, this, hkeep i (List.mem_cons_of_mem _ hiS) l' hr]
    ·obtain ⟨k1, k2⟩ := he.sound t d hd
     refine V.mono htr4.kept ?_ _ _ (V.cut d _ k2 (hs.env t d k1))
     intro j lj hlj
     unfold cutRho at hlj
     split at hlj
     ·rename_i hj
      have hjS : j ∈ S := by simpa using hj
      have hr : upd ρ idL l j = some lj := by rw [upd_other (hmemS j hjS)]; exact hlj
      have := List.all_eq_true.1 hSo j hjS
      simp [cutRho, this, hkeep j (List.mem_cons_of_mem _ hjS) lj hr]
     ·cases hlj
    ·have hm3 : Marks C.w0.heap.size w3 (Ot C.O (cutRho Ro.has ρ') Ro) (⟨.collected w.heap.size, #[]⟩ :: a.defers) := hmk.mono (Nat.le_refl _) (fun b _ hob => ⟨rfl, fun g => hob (g.imp _root_.id (hOw b))⟩)
     refine ⟨fun d hd => ?_, hm3.apart⟩
     obtain ⟨r, k1, k2, k3, k4, k5⟩ := hm3.at_ d hd
     refine ⟨r, k1, k2, by simpa using k3, k4, ?_⟩
     rw [World.putObj_heap_other (fun e => by rw [e, g3] at k5; cases k5)]
     exact k5
   have hpost : rangePost Fence.wide 0 P l.b (fun e a' w' => ∃ env' obs', thenQ (WPd P F cs Q) Q e env' obs' ∧ St F C env' obs' a' w') { a with defers := ⟨.collected w.heap.size, #[]⟩ :: a.defers } (.returned v) w3 := by
    rcases ho with ⟨xs, hfx, rfl⟩ | ⟨j, Rx, hx, rfl⟩
    ·obtain ⟨w4, k1, k2⟩ := fin1 .ready none (R xs) rfl (by simp) (hS xs) (hok xs) (hfr xs)
     exact ⟨none, w4, k1, env0, R xs, (done xs hfx).out, k2⟩
    ·obtain ⟨w4, k1, k2⟩ := fin1 .done (some j) Rx rfl (by simp) (hSX j Rx hx) (hokX j Rx hx) (hfrX j Rx hx)
     refine ⟨some j, w4, k1, ?_⟩
     have hst := stop j Rx hx
     cases j with
     | ret => exact wpIn_ret ⟨env0, Rx, hst, k2⟩
     | exit id => exact wpIn_exit ⟨env0, Rx, hst, k2⟩
     | _ => exact hst.elim
   have hlb : l.b = w.heap.size + 1 := hw1
   rw [hlb] at hpost
   exact hpost
 exact ⟨⟨core⟩⟩
end Go.T
namespace Go.T
open Go
variable [Noise]
section
variable {P : Program} {env : Env} {dst : Option Tmp} {ty : TypeId} {pos : String} {aft : Array Edge} {g : Option (Nat × Bool)}
theorem addr_add' (b o n : Nat) : (Addr.mk b o none).add n = ⟨b, o + n, none⟩ := by
 unfold Addr.add; split
 ·rename_i h; subst h; rfl
 ·rfl
/-- An element of an array that is a variable. -/
theorem q_indexBA {t e : TypeId} {x y : Operand} {id off n sz o2 : Nat} {k : IntKind} {i : Int} (hu : P.underlying t = some (.array n e)) (hs : ∀ w, (sizeOf e).run P w = .ok sz w) (hx : env.op x = some (.box id off)) (hy : env.op y = some (.raw (.int k i))) (h0 : 0 ≤ i) (hi : i.toNat < n) (ho : off + i.toNat * sz = o2) (obs : Obs) :
  QStep P ⟨dst, .indexAddr t x y, ty, pos, aft, g⟩ env obs (.box id o2) obs :=
 .val fun O ρ a w _ hv => by
  have h1 := hv x (by simp [Op.operands]) _ hx
  have h2 := hv y (by simp [Op.operands]) _ hy
  simp only [V] at h1 h2
  obtain ⟨l, hl, e1⟩ := h1
  have hlt : i < (n : Int) := by omega
  refine ⟨.pointer (some ⟨l.b, o2, none⟩), ?_, by simp only [V]; exact ⟨l, hl, rfl⟩⟩
  simp [execOp, Instr.indexAt, Instr.sureAddr, asIntOf, h2, e1, run_und hu, hs, h0, hlt, addr_add', ho]
end
/-- A contract out of what is known of the calls. -/
theorem Fc.of_calls {P : Program} {f : FuncId} {args : List D} {r : D} (h : ∀ w O ρ vals, Gl w O → Vs w O ρ args vals → Calls P f vals.toArray w (fun e w' => ∃ v, e = .returned v ∧ V w' O ρ r v ∧ Keep w w')) : Fc P f args r := ⟨fun w O ρ vals _ hg hv => h w O ρ vals hg hv⟩
theorem Vs.str2 {w : World} {O : Nat → Prop} {ρ : Rho} {s t : Str} {vals : List Value} (h : Vs w O ρ [.str s, .str t] vals) : vals = [.string ⟨s.toArray⟩, .string ⟨t.toArray⟩] ∧ s.length ≤ big ∧ t.length ≤ big := by
 simp only [Vs, V] at h
 obtain ⟨u, us, rfl, ⟨rfl, hb⟩, u', us', rfl, ⟨rfl, hb'⟩, rfl⟩ := h
 exact ⟨rfl, hb, hb'⟩
end Go.T
namespace Go.T
open Go
variable [Noise]
@[reducible] def byteVals (s : Str) : List Value := s.map fun b => Value.int .u8 (b.toNat : Int)
section
variable {P : Program} {env : Env} {dst : Option Tmp} {ty : TypeId} {pos : String} {aft : Array Edge} {g : Option (Nat × Bool)}
theorem vs_bytes {w : World} {O : Nat → Prop} {ρ : Rho} : ∀ {t : Str} {us : List Value}, Vs w O ρ (byteRows t).flatten us → us = byteVals t
 | [], us, h => by simpa [byteRows, Vs] using h
 | c :: t, us, h => by
  simp only [byteRows, List.map_cons, List.flatten_cons, List.cons_append, List.nil_append, Vs, V] at h
  obtain ⟨u, us', rfl, rfl, h2⟩ := h
  simp only [byteVals, List.map_cons, List.cons.injEq, true_and]
  exact vs_bytes h2
theorem first_bytes {w : World} {O : Nat → Prop} {ρ : Rho} {t : Str} {dy : D} {v : Value} (hdy : dy = .str t ∨ ∃ f, dy = .snap 1 f (byteRows t)) (h : V w O ρ dy v) :
  (∀ w', (Builtin.lenOf v).run P w' = .ok t.length w') ∧ (∀ w', w'.heap = w.heap → (Builtin.firstCells 1 t.length v).run P w' = .ok (byteVals t).toArray w') := by
 rcases hdy with rfl | ⟨f, rfl⟩
 ·simp only [V] at h
  obtain ⟨rfl, _⟩ := h
  have hsz : (⟨t.toArray⟩ : ByteArray).size = t.length := by simp [ByteArray.size]
  refine ⟨fun w' => by simp [Builtin.lenOf, hsz], fun w' _ => ?_⟩
  have he : (⟨t.toArray⟩ : ByteArray).extract 0 t.length = ⟨t.toArray⟩ := by
   apply ByteArray.ext
   rw [ByteArray.data_extract]
   simp
  simp [Builtin.firstCells, he, byteVals]
 ·obtain ⟨h1, us, h2, h3, _, h5, _⟩ := run_firstSnap (P := P) h
  have := vs_bytes h3
  subst this
  refine ⟨fun w' => by simpa [byteRows] using h1 w', fun w' e => ?_⟩
  have := h2 w' e
  simpa [byteRows] using this
theorem byteVals_one (t : Str) : ∀ u ∈ byteVals t, u.oneCell' = true := by
 intro u hu
 simp only [byteVals, List.mem_map] at hu
 obtain ⟨b, _, rfl⟩ := hu
 rfl
theorem Tr.rename0b {O : Nat → Prop} {w : World} {ρ : Rho} {obs : Obs} {id id' : Nat} (hok : ObsOK w O ρ obs) : Tr O w ρ obs w ρ ((id', .ba []) :: obs.set id .dead) := by
 have h1 := Tr.rename0 (id := id) (id' := id') (sz := 1) hok
 have look : ∀ i x, Obs.get ((id', Ob.ba []) :: obs.set id .dead) i = some x → x.live = true → Obs.get ((id', Ob.arr 1 []) :: obs.set id .dead) i = some x := by
  intro i x h2 h3
  rw [Obs.get_cons] at h2 ⊢
  by_cases e : id' = i
  ·simp only [if_pos e, Option.some.injEq] at h2; subst h2; simp [Ob.live] at h3
  ·rw [if_neg e] at h2 ⊢; exact h2
 have hO : ∀ b, Owned ρ ((id', .ba []) :: obs.set id .dead) b → Owned ρ ((id', .arr 1 []) :: obs.set id .dead) b := by
  rintro b ⟨i, x, l, h2, h3, h4⟩
  exact ⟨i, x, l, look i x h2 h3, h3, h4⟩
 refine ⟨h1.le, h1.size, h1.same, fun b hb => h1.new b (hO b hb), ⟨h1.ok.lt, fun i hi => ?_, fun i x h2 h3 => ?_, fun i j x x' l l' a b c d => h1.ok.inj i j x x' l l' (look i x a c) (look j x' b d) c d⟩, h1.os⟩
 ·rw [Obs.get_cons] at hi
  by_cases e : id' = i
  ·simp [e] at hi
  ·rw [if_neg e] at hi
   exact h1.ok.fresh i (by rw [Obs.get_cons, if_neg e]; exact hi)
 ·obtain ⟨l, g1, g2, g3⟩ := h1.ok.own i x (look i x h2 h3) h3
  exact ⟨l, g1, g2, g3.subO (Kept.subO fun b hb => hb.imp _root_.id (hO b))⟩
theorem q_appendB {st xt : TypeId} {xd : TypeDesc} {ti : TypeInfo} {n id : Nat} {x y : Operand} {s t : Str} {dy : D} {obs : Obs} (id' : Nat) (hu : P.underlying st = some (.slice byteT)) (hxu : P.underlying xt = some xd) (hxi : ∀ k, xd ≠ .int k) (hs : ∀ w, (sizeOf byteT).run P w = .ok 1 w)
  (hti : ∀ w, (typeInfo byteT).run P w = .ok ti w) (hbt : ti.bytes = 1) (hz : ∀ w, (zeroValue byteT).run P w = .ok (.int .u8 0) w) (hx : env.op x = some (.gs id n)) (ho : obs.get id = some (.ba s)) (hn : s.length = n) (hy : env.op y = some dy) (hdy : dy = .str t ∨ ∃ f, dy = .snap 1 f (byteRows t)) (hid : obs.get id' = none)
  (hbb : n + t.length ≤ 140737488355328) :
  QStep P ⟨dst, .call ⟨.builtin .append, #[x, y], #[st, xt]⟩, ty, pos, aft, g⟩ env obs (.gs id' (n + t.length)) ((id', .ba (s ++ t)) :: obs.set id .dead) :=
 .step fun O ρ a w hok hv => by
  have hvx := hv x (by simp [Op.operands, Call.operands]) _ hx
  have hvy := hv y (by simp [Op.operands, Call.operands]) _ hy
  have hrun : ∀ v w', (Builtin.append_ #[st, xt] ty #[a.eval x, a.eval y]).run P w = .ok v w' → (execOp a.eval ⟨dst, .call ⟨.builtin .append, #[x, y], #[st, xt]⟩, ty, pos, aft, g⟩).run P w = .ok (.value v) w' := by
   intro v w' h
   simp [execOp, resolve, invoke, builtin, h]
  obtain ⟨hlen, hfu⟩ := first_bytes (P := P) hdy hvy
  have hul : (byteVals t).length = t.length := by simp [byteVals]
  -- the bytes in a new block
  have grow : ∀ (base : Option Addr) (cap : Nat), a.eval x = .slice base n cap → (∀ w', w'.heap = w.heap → (Builtin.firstCells 1 n (.slice base n cap)).run P w' = .ok (byteVals s).toArray w') → ¬ n + t.length ≤ cap →
    ∃ v w' ρ', ((execOp a.eval ⟨dst, .call ⟨.builtin .append, #[x, y], #[st, xt]⟩, ty, pos, aft, g⟩).run P w = .ok (.value v) w' ∨ ((execOp a.eval ⟨dst, .call ⟨.builtin .append, #[x, y], #[st, xt]⟩, ty, pos, aft, g⟩).run P w = .ok .skip w' ∧ v = undef)) ∧ Tr O w ρ obs w' ρ' ((id', .ba (s ++ t)) :: obs.set id .dead) ∧ V w' (Ot O ρ' ((id', .ba (s ++ t)) :: obs.set id .dead)) ρ' (.gs id' (n + t.length)) v := by
   intro base cap e1 hvs hc
   obtain ⟨nc, hnc, hnc2, h2⟩ : ∃ nc, n + t.length ≤ nc ∧ nc ≤ 9223372036854775807 ∧ (Builtin.append_ #[st, xt] ty #[.slice base n cap, a.eval y]).run P w = .ok (.slice (some ⟨w.heap.size, 0, none⟩) (n + t.length) nc) { w with drawn := w.drawn + 1, heap := w.heap.push (.cells ((byteVals s).toArray ++ (byteVals t).toArray ++ Builtin.zeroCells (Value.int .u8 0).cells (nc - (n + t.length))) byteT (0, 0)) } := by
    have h1 := nextslicecap_le (n + t.length) cap (by omega)
    have h2 : ¬ Builtin.nextslicecap (n + t.length) cap * ti.bytes > 281474976710656 := by rw [hbt]; omega
    refine ⟨(n + t.length) + (w.tape w.drawn (.appendCap (n + t.length) cap byteT)) % (2 ^ 63 - (n + t.length)), by omega, by have := Nat.mod_lt (w.tape w.drawn (.appendCap (n + t.length) cap byteT)) (show 0 < 2 ^ 63 - (n + t.length) by omega); omega, ?_⟩
    have hm0 := hlen w
    have hf1 := hfu w.drew rfl
    have hf2 := hvs w.drew rfl
    have hb0 : ti.bytes ≠ 0 := by omega
    simp [Builtin.append_, run_und hu, hs, run_und hxu, hm0, hc, hti, hb0, h2, Question.forced, Question.cut, hf2, hf1, hz, newRow]
    simp only [World.alloc, World.drew]
    have h9 : ∀ zs : Array Value, (byteVals s).toArray ++ ((byteVals t).toArray ++ zs) = (byteVals s ++ byteVals t).toArray ++ zs := fun zs => by apply Array.ext'; simp
    rw [h9]
   rw [← e1] at h2
   have hok1 : ObsOK { w with drawn := w.drawn + 1 } O ρ obs := (Tr.drawn hok (w.drawn + 1) (Nat.le_succ _)).ok
   have htr := Tr.drawn hok (w.drawn + 1) (Nat.le_succ _)
   refine ⟨_, _, T.upd ρ id' ⟨w.heap.size, 0, nc⟩, .inl (hrun _ _ h2), htr.trans (Tr.born (w := { w with drawn := w.drawn + 1 }) hok1 hid _ rfl dead_sub dead_dom ?_), ?_⟩
   ·intro hk
    refine ⟨(byteVals s).toArray ++ (byteVals t).toArray ++ Builtin.zeroCells (Value.int .u8 0).cells (nc - (n + t.length)), by simp, rfl, ?_, ?_, hnc2, ?_⟩
    ·simp [zeroCells_size, Value.cells, byteVals, hn]; omega
    ·simp [hn]; exact hnc
    ·rw [Array.toList_append, Array.toList_append, List.take_append_of_le_length (by simp [byteVals])]
     rw [List.take_of_length_le (by simp [byteVals])]
     simp [byteVals]
   ·simp only [V]
    exact .inr ⟨by omega, _, upd_same .., rfl⟩
  by_cases hn0 : n = 0
  ·subst hn0
   obtain rfl : s = [] := List.length_eq_zero_iff.1 hn
   have he : ∃ ad, a.eval x = .slice ad 0 0 := by
    simp only [V] at hvx
    rcases hvx with ⟨_, ad, e⟩ | ⟨h, _⟩
    ·exact ⟨ad, e⟩
    ·exact absurd rfl h
   obtain ⟨ad, e1⟩ := he
   by_cases hm : t = []
   ·subst hm
    refine ⟨.slice ad 0 0, w, ρ, .inl (hrun _ _ ?_), by simpa using Tr.rename0b (id := id) (id' := id') hok, by simp [V]⟩
    have h1 := hfu w rfl
    rw [e1]
    cases ad with
    | none => simp [Builtin.append_, run_und hu, hs, run_und hxu, hlen w] at h1 ⊢; simp [h1]
    | some ad => simp [Builtin.append_, run_und hu, hs, run_und hxu, hlen w] at h1 ⊢; simp [h1, storeCells]
   ·refine grow ad 0 e1 ?_ ?_
    ·intro w' _
     cases ad with
     | none => simp [Builtin.firstCells]
     | some ad => simp [Builtin.firstCells, loadCells, loadCellsFrom]
    ·have : t.length ≠ 0 := fun h => hm (List.length_eq_zero_iff.1 h)
     omega
  ·have hlive : (Ob.ba s).live = true := by
    cases s with
    | nil => simp at hn; exact absurd hn.symm hn0
    | cons r rs => rfl
   obtain ⟨l, h3, hOl, c, h4, h5, h6, h7, h8, h9⟩ := hok.own id _ ho hlive
   have e1 : a.eval x = .slice (some ⟨l.b, 0, none⟩) n l.cap := by
    simp only [V] at hvx
    rcases hvx with ⟨h, _⟩ | ⟨_, l', h8, e⟩
    ·exact absurd h hn0
    ·rw [h3] at h8; cases h8; rw [e, h5]
   rw [hn] at h7 h9
   have hcells : ∀ w', w'.heap = w.heap → (Builtin.firstCells 1 n (.slice (some ⟨l.b, 0, none⟩) n l.cap)).run P w' = .ok (byteVals s).toArray w' := by
    intro w' hw
    have := run_loadBlk (P := P) (w := w') (b := l.b) (c := c) (T := byteT) (by rw [hw]; exact h4) n 0 0 #[] (by omega)
    simp only [Builtin.firstCells, loadCells, Nat.mul_one]
    rw [this]
    simp [h9]
   by_cases hc : n + t.length ≤ l.cap
   ·have hst := run_storeCells (P := P) (b := l.b) (T := byteT) (byteVals t) w c (0 + n * 1) 0 h4 (by rw [hul]; omega) (byteVals_one t)
    have hrm := run_append_room (T := ty) (a := ⟨l.b, 0, none⟩) (w := w) hu hs hxu hxi (hlen w) (hfu w rfl) hc (by rw [addr_add]; exact hst)
    have htr := Tr.upd (o' := .ba (s ++ t)) hok ho hlive h3 (.cells (setMany c (0 + n * 1 + 0) (byteVals t)) byteT (0, 0)) ?_
    ·have hlive' : (Ob.ba (s ++ t)).live = true := by
      cases s with
      | nil => simp at hn; exact absurd hn.symm hn0
      | cons r rs => rfl
     have hid2 : (obs.set id (.ba (s ++ t))).get id' = none := by
      rw [Obs.get_set]
      by_cases e : id = id'
      ·subst e; rw [ho] at hid; cases hid
      ·rw [if_neg e]; exact hid
     have htr2 := Tr.rename (id := id) (id' := id') htr.ok (by rw [Obs.get_set]; simp) hlive' hid2 h3
     rw [Obs.set_set] at htr2
     refine ⟨_, _, Go.T.upd ρ id' l, .inl (hrun _ _ (by rw [e1]; exact hrm)), htr.trans htr2, ?_⟩
     simp only [V]
     exact .inr ⟨by omega, l, upd_same .., by rw [h5]⟩
    ·intro hk
     refine ⟨_, by simp [(Array.getElem?_eq_some_iff.1 h4).1]; rfl, h5, by rw [setMany_size]; exact h6, by simp [hn]; exact hc, h8, ?_⟩
     rw [setMany_toList _ _ _ (by rw [hul]; omega)]
     rw [h9, List.length_append, hn]
     rw [List.take_append_of_le_length (by simp [byteVals, hn])]
     rw [List.take_of_length_le (by simp [byteVals, hn])]
     simp [byteVals]
   ·exact grow (some ⟨l.b, 0, none⟩) l.cap e1 hcells hc
end
end Go.T
namespace Go.T
open Go
variable [Noise]
theorem Tr.ownB {O : Nat → Prop} {w : World} {ρ : Rho} {obs : Obs} (id : Nat) (hok : ObsOK w O ρ obs) : Tr O w ρ obs w ρ ((id, .ba []) :: obs) := by
 have look : ∀ i x, Obs.get ((id, Ob.ba []) :: obs) i = some x → x.live = true → obs.get i = some x := by
  intro i x h1 h2
  rw [Obs.get_cons] at h1
  by_cases e : id = i
  ·simp only [if_pos e, Option.some.injEq] at h1; subst h1; simp [Ob.live] at h2
  ·rw [if_neg e] at h1; exact h1
 have hOwn : ∀ b, Owned ρ ((id, .ba []) :: obs) b → Owned ρ obs b := by
  rintro b ⟨i, x, l, h1, h2, h3⟩
  exact ⟨i, x, l, look i x h1 h2, h2, h3⟩
 have hk : Kept w (Ot O ρ obs) w (Ot O ρ ((id, .ba []) :: obs)) := Kept.subO fun b => Or.imp _root_.id (hOwn b)
 refine ⟨RhoLe.refl _, Nat.le_refl _, fun _ _ _ => rfl, fun b hb => .inl (hOwn b hb), ⟨hok.lt, ?_, ?_, ?_⟩, rfl, rfl, Clk.eq rfl rfl⟩
 ·intro i hi
  rw [Obs.get_cons] at hi
  by_cases e : id = i
  ·simp [e] at hi
  ·rw [if_neg e] at hi; exact hok.fresh i hi
 ·intro i x h1 h2
  obtain ⟨l, h3, h4, h5⟩ := hok.own i x (look i x h1 h2) h2
  exact ⟨l, h3, h4, h5.mono hk (RhoLe.refl _) rfl⟩
 ·intro i j x x' l1 l2 h1 h2 h3 h4
  exact hok.inj i j x x' l1 l2 (look i x h1 h3) (look j x' h2 h4) h3 h4
section
variable {P : Program} {env : Env} {dst : Option Tmp} {ty : TypeId} {pos : String} {aft : Array Edge} {g : Option (Nat × Bool)}
/-- A new Builder. -/
theorem q_allocBld {obs : Obs} (id j : Nat) (hz : ∀ w, (zeroValue bldT).run P w = .ok (.agg #[.pointer none, .slice none 0 0]) w) (hid : obs.get id = none) : QStep P ⟨dst, .alloc bldT, ty, pos, aft, g⟩ env obs (.box id 0) ((j, .ba []) :: (id, .bld j 0) :: obs) :=
 .step fun O ρ a w hok hv => by
  have hrun : (Instr.alloc bldT true (.tuple #[])).run P w = .ok (.pointer (some ⟨w.heap.size, 0, none⟩)) { w with heap := w.heap.push (.cells #[.pointer none, .slice none 0 0] bldT (0, 0)) } := by
   simp [Instr.alloc, newVar, newRow, hz, Value.cells, run_newObj_alloc]
  have htr : Tr O w ρ obs { w with heap := w.heap.push (.cells #[.pointer none, .slice none 0 0] bldT (0, 0)) } (upd ρ id ⟨w.heap.size, 0, 0⟩) ((id, .bld j 0) :: obs) :=
   Tr.born hok hid _ rfl (fun i x h _ => h) (fun i h => h) (fun _ => ⟨.pointer none, .slice none 0 0, by simp, .inl rfl, .inl ⟨rfl, none, rfl⟩⟩)
  have htr2 := Tr.ownB j htr.ok
  refine ⟨_, _, _, .inl (by simp [execOp, hrun]; rfl), htr.trans htr2, ?_⟩
  simp only [V]
  exact ⟨_, upd_same .., rfl⟩
/-- The slice of bytes of a Builder. -/
theorem q_loadBld {t e : TypeId} {x : Operand} {id j n : Nat} {s : Str} {obs : Obs} (ht : ∀ w, (isAgg t).run P w = .ok false w) (hx : env.op x = some (.box id 1)) (ho : obs.get id = some (.bld j n)) (hj : obs.get j = some (.ba s)) (hn : s.length = n) : QStep P ⟨dst, .load t x, ty, pos, aft, g⟩ env obs (.gs j n) obs :=
 .val fun O ρ a w hok hv => by
  have h1 := hv x (by simp [Op.operands]) _ hx
  simp only [V] at h1
  obtain ⟨l, h2, e⟩ := h1
  obtain ⟨l', h3, _, p, v, h4, h5, h6⟩ := hok.own id _ ho rfl
  rw [h2] at h3; cases h3
  have hc : w.cell? ⟨l.b, 1, none⟩ = some v := by simp [World.cell?, h4]
  refine ⟨v, by simp [execOp, Instr.loadAt, Instr.sureAddr, e, loadVar, ht, hc], ?_⟩
  simp only [V]
  rcases h6 with h6 | ⟨h6, lj, h7, h8⟩
  ·exact .inl h6
  ·refine .inr ⟨h6, lj, h7, ?_⟩
   have hlive : (Ob.ba s).live = true := by
    cases s with
    | nil => simp at hn; exact absurd hn.symm h6
    | cons r rs => rfl
   obtain ⟨lj', h9, _, c, _, h10, _⟩ := hok.own j _ hj hlive
   rw [h7] at h9; cases h9
   rw [h8, h10]
theorem q_storeBld {t : TypeId} {x y : Operand} {id j n j' n' : Nat} {s : Str} {obs : Obs} (hs : ∀ w, (sizeOf t).run P w = .ok 1 w) (hx : env.op x = some (.box id 1)) (hy : env.op y = some (.gs j' n')) (ho : obs.get id = some (.bld j n)) (hj : obs.get j' = some (.ba s)) (hn : s.length = n') :
  QStep P ⟨dst, .store t x y, ty, pos, aft, g⟩ env obs (.raw undef) (obs.set id (.bld j' n')) :=
 .step fun O ρ a w hok hv => by
  have h1 := hv x (by simp [Op.operands]) _ hx
  have hv2 := hv y (by simp [Op.operands]) _ hy
  simp only [V] at h1
  obtain ⟨l, h2, e⟩ := h1
  obtain ⟨l', h3, hO, p, v, h4, h5, h6⟩ := hok.own id _ ho rfl
  rw [h2] at h3; cases h3
  have h7 := run_storeCells (P := P) [a.eval y] w #[p, v] 1 0 h4 (by simp) (by simpa using hv2.one rfl)
  have h8 : (a.eval y).cells = #[a.eval y] := cells_one (hv2.one rfl)
  refine ⟨undef, _, ρ, .inr ⟨?_, rfl⟩, Tr.upd (o' := .bld j' n') hok ho rfl h2 (.cells (setMany #[p, v] (1 + 0) [a.eval y]) bldT (0, 0)) ?_, by simp [V]⟩
  ·simp [execOp, Instr.storeAt, Instr.sureAddr, e, storeVar, h8, hs, h7]
  ·intro hk
   have hset : setMany #[p, v] (1 + 0) [a.eval y] = #[p, a.eval y] := by simp [setMany]
   refine ⟨p, a.eval y, by rw [hset]; simp [(Array.getElem?_eq_some_iff.1 h4).1], h5, ?_⟩
   simp only [V] at hv2
   rcases hv2 with h9 | ⟨h9, lj, h10, h11⟩
   ·exact .inl h9
   ·refine .inr ⟨h9, lj, h10, ?_⟩
    have hlive : (Ob.ba s).live = true := by
     cases s with
     | nil => simp at hn; exact absurd hn.symm h9
     | cons r rs => rfl
    obtain ⟨lj', h12, _, c, _, h13, _⟩ := hok.own j' _ hj hlive
    rw [h10] at h12; cases h12
    rw [h11, h13]
end
/-- Another name for the bytes of a Builder. -/
theorem Le.renB {F : Fr} {env : Env} {obs : Obs} {n : Nat} {s : Str} (id j j' : Nat) (ho : obs.get id = some (.bld j n)) (hj : obs.get j = some (.ba s)) (hn : s.length = n) (hid : obs.get j' = none) :
  Le F env obs env (Obs.set ((j', .ba s) :: obs.set j .dead) id (.bld j' n)) := .step fun O ρ w f hok hv => by
 have hidj : id ≠ j := by rintro rfl; rw [ho] at hj; cases hj
 have hidj' : id ≠ j' := by rintro rfl; rw [ho] at hid; cases hid
 have hjj : j ≠ j' := by rintro rfl; rw [hj] at hid; cases hid
 have step2 : ∀ (ρ' : Rho), Tr O w ρ obs w ρ' ((j', .ba s) :: obs.set j .dead) → (n ≠ 0 → ∀ lj, ρ j = some lj → ρ' j' = some lj) → ∃ ρ', Tr O w ρ obs w ρ' (Obs.set ((j', .ba s) :: obs.set j .dead) id (.bld j' n)) ∧ ∀ t d, env.get t = some d → V w (Ot O ρ' (Obs.set ((j', .ba s) :: obs.set j .dead) id (.bld j' n))) ρ' d (f t) := by
  intro ρ' htr hlj
  have hg : Obs.get ((j', Ob.ba s) :: obs.set j .dead) id = some (.bld j n) := by
   rw [Obs.get_cons, if_neg (Ne.symm hidj'), Obs.get_set, if_neg (Ne.symm hidj)]; exact ho
  obtain ⟨l, h3, h4, p, v, h5, h6, h7⟩ := htr.ok.own id _ hg rfl
  have hself : { w with heap := w.heap.setIfInBounds l.b (.cells #[p, v] bldT (0, 0)) } = w := by
   have : w.heap.setIfInBounds l.b (.cells #[p, v] bldT (0, 0)) = w.heap := by
    apply Array.ext (by simp)
    intro i h1 h2
    rw [Array.getElem_setIfInBounds]
    split
    ·rename_i e; subst e
     exact (Option.some.inj ((Array.getElem?_eq_getElem h2).symm.trans h5)).symm
    ·rfl
   rw [this]
  have htr2 := Tr.upd (o' := .bld j' n) htr.ok hg rfl h3 (.cells #[p, v] bldT (0, 0)) (fun hk => ⟨p, v, by simp [(Array.getElem?_eq_some_iff.1 h5).1], h6, ?_⟩)
  ·rw [hself] at htr2
   have h := htr.trans htr2
   exact ⟨ρ', h, fun t d hd => h.V (hv t d hd)⟩
  ·rcases h7 with h7 | ⟨h7, lj, h8, h9⟩
   ·exact .inl h7
   ·have hlive : (Ob.ba s).live = true := by
     cases s with
     | nil => simp at hn; exact absurd hn.symm h7
     | cons r rs => rfl
    obtain ⟨lj0, g1, _⟩ := hok.own j _ hj hlive
    have := htr.le j lj0 g1
    rw [this] at h8
    have e := Option.some.inj h8
    exact .inr ⟨h7, lj0, hlj h7 lj0 g1, by rw [e]; exact h9⟩
 cases s with
 | nil =>
  simp at hn
  exact step2 ρ (Tr.rename0b (id := j) (id' := j') hok) (fun h => absurd hn.symm h)
 | cons c r =>
  obtain ⟨l, h3, _⟩ := hok.own j _ hj rfl
  exact step2 _ (Tr.rename (id := j) (id' := j') hok hj rfl hid h3) (fun _ lj hlj => by rw [h3] at hlj; cases hlj; exact upd_same ..)
end Go.T
namespace Go.Proofs
open Go.Shelf
def Tryz.lays161_ren : Go.Shelf.Ren := ⟨fun | 161 => 176 | 231 => 213 | 227 => 215 | 233 => 216 | 235 => 218 | 228 => 263 | 197 => 264 | 151 => 265 | 260 => 283 | 152 => 284 | 137 => 291 | 119 => 292 | 224 => 293 | 225 => 294 | 217 => 295 | 266 => 297 | n => n, fun | 9 => 9 | 4 => 4 | 3 => 3 | 5 => 5 | 117 => 248 | 116 => 247 | 0 => 0 | 124 => 251 | 105 => 289 | 21 => 21 | 119 => 316 | 46 => 202 | 139 => 319 | 138 => 318 | n => n, fun | 3 => 4 | 4 => 5 | n => n⟩
theorem Tryz.lays161 : Go.Proofs.Lays.n161 Tryz.prog Tryz.lays161_ren := {
 mixed := by kernel_rfl
 f119 := Tryz.func292.trans (congrArg some (by kernel_rfl))
 f137 := Tryz.func291.trans (congrArg some (by kernel_rfl))
 f151 := Tryz.func265.trans (congrArg some (by kernel_rfl))
 f152 := Tryz.func284.trans (congrArg some (by kernel_rfl))
 f161 := Tryz.func176.trans (congrArg some (by kernel_rfl))
 f197 := Tryz.func264.trans (congrArg some (by kernel_rfl))
 f217 := Tryz.func295.trans (congrArg some (by kernel_rfl))
 f224 := Tryz.func293.trans (congrArg some (by kernel_rfl))
 f225 := Tryz.func294.trans (congrArg some (by kernel_rfl))
 f227 := Tryz.func215.trans (congrArg some (by kernel_rfl))
 f228 := Tryz.func263.trans (congrArg some (by kernel_rfl))
 f231 := Tryz.func213.trans (congrArg some (by kernel_rfl))
 f233 := Tryz.func216.trans (congrArg some (by kernel_rfl))
 f235 := Tryz.func218.trans (congrArg some (by kernel_rfl))
 f260 := Tryz.func283.trans (congrArg some (by kernel_rfl))
 f266 := Tryz.func297.trans (congrArg some (by kernel_rfl))
 t0 := Tryz.underlying0
 a0 := Tryz.isAgg0
 z0 := Tryz.sizeOf0
 v0 := Tryz.zeroValue0
 t3 := Tryz.underlying3
 a3 := Tryz.isAgg3
 z3 := Tryz.sizeOf3
 v3 := Tryz.zeroValue3
 t4 := Tryz.underlying4
 a4 := Tryz.isAgg4
 z4 := Tryz.sizeOf4
 v4 := Tryz.zeroValue4
 t5 := Tryz.underlying5
 a5 := Tryz.isAgg5
 z5 := Tryz.sizeOf5
 v5 := Tryz.zeroValue5
 t9 := Tryz.underlying9
 a9 := Tryz.isAgg9
 z9 := Tryz.sizeOf9
 v9 := Tryz.zeroValue9
 t21 := Tryz.underlying21
 a21 := Tryz.isAgg21
 z21 := Tryz.sizeOf21
 v21 := Tryz.zeroValue21
 t46 := Tryz.underlying202
 a46 := Tryz.isAgg202
 z46 := Tryz.sizeOf202
 v46 := Tryz.zeroValue202
 t105 := Tryz.underlying289
 a105 := Tryz.isAgg289
 z105 := Tryz.sizeOf289
 v105 := Tryz.zeroValue289
 t116 := Tryz.underlying247
 a116 := Tryz.isAgg247
 z116 := Tryz.sizeOf247
 t117 := Tryz.underlying248
 a117 := Tryz.isAgg248
 z117 := Tryz.sizeOf248
 v117 := Tryz.zeroValue248
 t119 := Tryz.underlying316
 a119 := Tryz.isAgg316
 z119 := Tryz.sizeOf316
 t124 := Tryz.underlying251
 a124 := Tryz.isAgg251
 z124 := Tryz.sizeOf251
 v124 := Tryz.zeroValue251
 t138 := Tryz.underlying318
 a138 := Tryz.isAgg318
 z138 := Tryz.sizeOf318
 v138 := Tryz.zeroValue318
 t139 := Tryz.underlying319
 a139 := Tryz.isAgg319
 z139 := Tryz.sizeOf319
 v139 := Tryz.zeroValue319
 g3 := by kernel_rfl
 g4 := by kernel_rfl }
open Go.RowKit in
theorem Tryz.strings_TrimLeft_one (s : ByteArray) (c : UInt8) (hc : c.toNat < 128) (w : World) :
  Calls Tryz.prog 176 #[.string s, .string ⟨#[c]⟩] w fun e w' => e = .returned (.string ⟨(Lib.trimLeftB s.data.toList c).toArray⟩) ∧ w' = w := Any.strings_TrimLeft_one Tryz.lays161 s c hc w
def Tryz.lays160_ren : Go.Shelf.Ren := ⟨fun | 160 => 175 | 232 => 214 | 231 => 213 | 227 => 215 | 234 => 217 | 233 => 216 | 236 => 219 | 235 => 218 | 228 => 263 | 271 => 266 | 151 => 265 | 197 => 264 | 120 => 285 | 152 => 284 | 260 => 283 | 137 => 291 | 119 => 292 | 224 => 293 | 225 => 294 | 217 => 295 | 266 => 297 | n => n, fun | 9 => 9 | 4 => 4 | 3 => 3 | 5 => 5 | 117 => 248 | 116 => 247 | 0 => 0 | 124 => 251 | 21 => 21 | 105 => 289 | 46 => 202 | 119 => 316 | 139 => 319 | 138 => 318 | n => n, fun | 3 => 4 | 4 => 5 | n => n⟩
theorem Tryz.lays160 : Go.Proofs.Lays.n160 Tryz.prog Tryz.lays160_ren := {
 mixed := by kernel_rfl
 f119 := Tryz.func292.trans (congrArg some (by kernel_rfl))
 f120 := Tryz.func285.trans (congrArg some (by kernel_rfl))
 f137 := Tryz.func291.trans (congrArg some (by kernel_rfl))
 f151 := Tryz.func265.trans (congrArg some (by kernel_rfl))
 f152 := Tryz.func284.trans (congrArg some (by kernel_rfl))
 f160 := Tryz.func175.trans (congrArg some (by kernel_rfl))
 f197 := Tryz.func264.trans (congrArg some (by kernel_rfl))
 f217 := Tryz.func295.trans (congrArg some (by kernel_rfl))
 f224 := Tryz.func293.trans (congrArg some (by kernel_rfl))
 f225 := Tryz.func294.trans (congrArg some (by kernel_rfl))
 f227 := Tryz.func215.trans (congrArg some (by kernel_rfl))
 f228 := Tryz.func263.trans (congrArg some (by kernel_rfl))
 f231 := Tryz.func213.trans (congrArg some (by kernel_rfl))
 f232 := Tryz.func214.trans (congrArg some (by kernel_rfl))
 f233 := Tryz.func216.trans (congrArg some (by kernel_rfl))
 f234 := Tryz.func217.trans (congrArg some (by kernel_rfl))
 f235 := Tryz.func218.trans (congrArg some (by kernel_rfl))
 f236 := Tryz.func219.trans (congrArg some (by kernel_rfl))
 f260 := Tryz.func283.trans (congrArg some (by kernel_rfl))
 f266 := Tryz.func297.trans (congrArg some (by kernel_rfl))
 f271 := Tryz.func266.trans (congrArg some (by kernel_rfl))
 t0 := Tryz.underlying0
 a0 := Tryz.isAgg0
 z0 := Tryz.sizeOf0
 v0 := Tryz.zeroValue0
 t3 := Tryz.underlying3
 a3 := Tryz.isAgg3
 z3 := Tryz.sizeOf3
 v3 := Tryz.zeroValue3
 t4 := Tryz.underlying4
 a4 := Tryz.isAgg4
 z4 := Tryz.sizeOf4
 v4 := Tryz.zeroValue4
 t5 := Tryz.underlying5
 a5 := Tryz.isAgg5
 z5 := Tryz.sizeOf5
 v5 := Tryz.zeroValue5
 t9 := Tryz.underlying9
 a9 := Tryz.isAgg9
 z9 := Tryz.sizeOf9
 v9 := Tryz.zeroValue9
 t21 := Tryz.underlying21
 a21 := Tryz.isAgg21
 z21 := Tryz.sizeOf21
 v21 := Tryz.zeroValue21
 t46 := Tryz.underlying202
 a46 := Tryz.isAgg202
 z46 := Tryz.sizeOf202
 v46 := Tryz.zeroValue202
 t105 := Tryz.underlying289
 a105 := Tryz.isAgg289
 z105 := Tryz.sizeOf289
 v105 := Tryz.zeroValue289
 t116 := Tryz.underlying247
 a116 := Tryz.isAgg247
 z116 := Tryz.sizeOf247
 t117 := Tryz.underlying248
 a117 := Tryz.isAgg248
 z117 := Tryz.sizeOf248
 v117 := Tryz.zeroValue248
 t119 := Tryz.underlying316
 a119 := Tryz.isAgg316
 z119 := Tryz.sizeOf316
 t124 := Tryz.underlying251
 a124 := Tryz.isAgg251
 z124 := Tryz.sizeOf251
 v124 := Tryz.zeroValue251
 t138 := Tryz.underlying318
 a138 := Tryz.isAgg318
 z138 := Tryz.sizeOf318
 v138 := Tryz.zeroValue318
 t139 := Tryz.underlying319
 a139 := Tryz.isAgg319
 z139 := Tryz.sizeOf319
 v139 := Tryz.zeroValue319
 g3 := by kernel_rfl
 g4 := by kernel_rfl }
def Tryz.lays125_ren : Go.Shelf.Ren := ⟨fun | 125 => 152 | 128 => 202 | 129 => 203 | n => n, fun | 46 => 202 | 3 => 3 | 51 => 235 | 53 => 171 | 4 => 4 | 5 => 5 | 9 => 9 | n => n, fun | n => n⟩
theorem Tryz.lays125 : Go.Proofs.Lays.n125 Tryz.prog Tryz.lays125_ren := {
 mixed := by kernel_rfl
 f125 := Tryz.func152.trans (congrArg some (by kernel_rfl))
 f128 := Tryz.func202.trans (congrArg some (by kernel_rfl))
 f129 := Tryz.func203.trans (congrArg some (by kernel_rfl))
 t3 := Tryz.underlying3
 a3 := Tryz.isAgg3
 z3 := Tryz.sizeOf3
 v3 := Tryz.zeroValue3
 t4 := Tryz.underlying4
 a4 := Tryz.isAgg4
 z4 := Tryz.sizeOf4
 v4 := Tryz.zeroValue4
 t5 := Tryz.underlying5
 a5 := Tryz.isAgg5
 z5 := Tryz.sizeOf5
 v5 := Tryz.zeroValue5
 t9 := Tryz.underlying9
 a9 := Tryz.isAgg9
 z9 := Tryz.sizeOf9
 v9 := Tryz.zeroValue9
 t46 := Tryz.underlying202
 a46 := Tryz.isAgg202
 z46 := Tryz.sizeOf202
 v46 := Tryz.zeroValue202
 t51 := Tryz.underlying235
 a51 := Tryz.isAgg235
 z51 := Tryz.sizeOf235
 v51 := Tryz.zeroValue235
 t53 := Tryz.underlying171
 a53 := Tryz.isAgg171
 z53 := Tryz.sizeOf171
 v53 := Tryz.zeroValue171 }
theorem Tryz.bits_Len (x : Int) (w : World) (h0 : 0 ≤ x) (h1 : x ≤ 18446744073709551615) :
  Calls Tryz.prog 152 #[.int .u64 x] w fun e w' => e = .returned (.int .i64 (Lib.bitLen x.toNat)) ∧ w' = w := Any.bits_Len Tryz.lays125 x w h0 h1
def Tryz.lays103_ren : Go.Shelf.Ren := ⟨fun | 103 => 174 | 210 => 212 | 206 => 233 | n => n, fun | 9 => 9 | 4 => 4 | 24 => 169 | 3 => 3 | n => n, fun | n => n⟩
theorem Tryz.lays103 : Go.Proofs.Lays.n103 Tryz.prog Tryz.lays103_ren := {
 mixed := by kernel_rfl
 f103 := Tryz.func174.trans (congrArg some (by kernel_rfl))
 f206 := Tryz.func233.trans (congrArg some (by kernel_rfl))
 f210 := Tryz.func212.trans (congrArg some (by kernel_rfl))
 t3 := Tryz.underlying3
 a3 := Tryz.isAgg3
 z3 := Tryz.sizeOf3
 v3 := Tryz.zeroValue3
 t4 := Tryz.underlying4
 a4 := Tryz.isAgg4
 z4 := Tryz.sizeOf4
 v4 := Tryz.zeroValue4
 t9 := Tryz.underlying9
 a9 := Tryz.isAgg9
 z9 := Tryz.sizeOf9
 v9 := Tryz.zeroValue9
 t24 := Tryz.underlying169
 a24 := Tryz.isAgg169
 z24 := Tryz.sizeOf169
 v24 := Tryz.zeroValue169 }
open Go.RowKit in
theorem Tryz.strings_CutPrefix (s p : ByteArray) (w : World) :
  Calls Tryz.prog 174 #[.string s, .string p] w fun e w' => e = .returned (.tuple #[.string ⟨(Lib.trimPrefix s.data.toList p.data.toList).toArray⟩, .bool (Lib.hasPrefix s.data.toList p.data.toList)]) ∧ w' = w := Any.strings_CutPrefix Tryz.lays103 s p w
def Tryz.lays283_ren : Go.Shelf.Ren := ⟨fun | 283 => 227 | n => n, fun | 3 => 3 | 9 => 9 | 4 => 4 | n => n, fun | n => n⟩
theorem Tryz.lays283 : Go.Proofs.Lays.n283 Tryz.prog Tryz.lays283_ren := {
 mixed := by kernel_rfl
 f283 := Tryz.func227.trans (congrArg some (by kernel_rfl))
 t3 := Tryz.underlying3
 a3 := Tryz.isAgg3
 z3 := Tryz.sizeOf3
 v3 := Tryz.zeroValue3
 t4 := Tryz.underlying4
 a4 := Tryz.isAgg4
 z4 := Tryz.sizeOf4
 v4 := Tryz.zeroValue4
 t9 := Tryz.underlying9
 a9 := Tryz.isAgg9
 z9 := Tryz.sizeOf9
 v9 := Tryz.zeroValue9 }
open Go.Lib in
theorem Tryz.internal_strconv_small (i : Nat) (h : i < 100) (w : World) :
  Calls Tryz.prog 227 #[.int .i64 i] w fun e w' => e = .returned (.string ⟨(Lib.decDigits i).toArray⟩) ∧ w' = w := Any.internal_strconv_small Tryz.lays283 i h w
def Tryz.laysM284_ren : Go.Shelf.Ren := ⟨fun | 284 => 228 | 129 => 203 | 317 => 269 | 318 => 270 | n => n, fun | 53 => 171 | 3 => 3 | 212 => 298 | 0 => 0 | 4 => 4 | 46 => 202 | 5 => 5 | 9 => 9 | n => n, fun | 17 => 2 | n => n⟩
theorem Tryz.laysM284 : Go.Proofs.LaysM.n284 Tryz.prog Tryz.laysM284_ren := {
 mixed := by kernel_rfl
 f129 := Tryz.func203.trans (congrArg some (by kernel_rfl))
 f284 := Tryz.func228.trans (congrArg some (by kernel_rfl))
 f317 := Tryz.func269.trans (congrArg some (by kernel_rfl))
 f318 := Tryz.func270.trans (congrArg some (by kernel_rfl))
 t0 := Tryz.underlying0
 a0 := Tryz.isAgg0
 z0 := Tryz.sizeOf0
 v0 := Tryz.zeroValue0
 t3 := Tryz.underlying3
 a3 := Tryz.isAgg3
 z3 := Tryz.sizeOf3
 v3 := Tryz.zeroValue3
 t4 := Tryz.underlying4
 a4 := Tryz.isAgg4
 z4 := Tryz.sizeOf4
 v4 := Tryz.zeroValue4
 t5 := Tryz.underlying5
 a5 := Tryz.isAgg5
 z5 := Tryz.sizeOf5
 v5 := Tryz.zeroValue5
 t9 := Tryz.underlying9
 a9 := Tryz.isAgg9
 z9 := Tryz.sizeOf9
 v9 := Tryz.zeroValue9
 t46 := Tryz.underlying202
 a46 := Tryz.isAgg202
 z46 := Tryz.sizeOf202
 v46 := Tryz.zeroValue202
 t53 := Tryz.underlying171
 a53 := Tryz.isAgg171
 z53 := Tryz.sizeOf171
 v53 := Tryz.zeroValue171
 t212 := Tryz.underlying298
 a212 := Tryz.isAgg298
 z212 := Tryz.sizeOf298
 v212 := Tryz.zeroValue298
 g17 := by kernel_rfl
 i0 := by kernel_rfl
 i3 := by kernel_rfl
 i4 := by kernel_rfl
 i5 := by kernel_rfl
 i9 := by kernel_rfl
 i46 := by kernel_rfl
 i53 := by kernel_rfl
 i212 := by kernel_rfl
 m17 := by kernel_rfl }
open Go.Lib in
theorem Tryz.internal_strconv_numDigits (u : Nat) (h1 : 1 ≤ u) (h2 : u < 18446744073709551616) (w : World) (htab : Lib.TabIs Tryz.prog w "internal/strconv.uint64pow10" .u64 Lib.pow10Tab) :
  Calls Tryz.prog 228 #[.int .u64 u] w fun e w' => e = .returned (.int .i64 (Lib.nDigits u)) ∧ w' = w := Any.internal_strconv_numDigits Tryz.laysM284 u h1 h2 w htab
def Tryz.lays285_ren : Go.Shelf.Ren := ⟨fun | 285 => 229 | n => n, fun | 37 => 140 | 53 => 171 | 3 => 3 | 4 => 4 | 51 => 235 | 9 => 9 | 5 => 5 | 0 => 0 | n => n, fun | n => n⟩
theorem Tryz.lays285 : Go.Proofs.Lays.n285 Tryz.prog Tryz.lays285_ren := {
 mixed := by kernel_rfl
 f285 := Tryz.func229.trans (congrArg some (by kernel_rfl))
 t0 := Tryz.underlying0
 a0 := Tryz.isAgg0
 z0 := Tryz.sizeOf0
 v0 := Tryz.zeroValue0
 t3 := Tryz.underlying3
 a3 := Tryz.isAgg3
 z3 := Tryz.sizeOf3
 v3 := Tryz.zeroValue3
 t4 := Tryz.underlying4
 a4 := Tryz.isAgg4
 z4 := Tryz.sizeOf4
 v4 := Tryz.zeroValue4
 t5 := Tryz.underlying5
 a5 := Tryz.isAgg5
 z5 := Tryz.sizeOf5
 v5 := Tryz.zeroValue5
 t9 := Tryz.underlying9
 a9 := Tryz.isAgg9
 z9 := Tryz.sizeOf9
 v9 := Tryz.zeroValue9
 t37 := Tryz.underlying140
 a37 := Tryz.isAgg140
 z37 := Tryz.sizeOf140
 v37 := Tryz.zeroValue140
 t51 := Tryz.underlying235
 a51 := Tryz.isAgg235
 z51 := Tryz.sizeOf235
 v51 := Tryz.zeroValue235
 t53 := Tryz.underlying171
 a53 := Tryz.isAgg171
 z53 := Tryz.sizeOf171
 v53 := Tryz.zeroValue171 }
open Go.RowKit Go.Sort Go.Lib in
theorem Tryz.internal_strconv_formatBase10 (blk off cap : Nat) (u : Nat) (d : Array UInt8) (w : World) (hH : Holds (fun (b : UInt8) => Value.int .u8 (b.toNat : Int)) w blk off d) (hu : u < 10 ^ d.size) (hu64 : u < 18446744073709551616) (hsz : d.size < 4611686018427387904) :
  Calls Tryz.prog 229 #[.slice (some ⟨blk, off, none⟩) d.size cap, .int .u64 u] w fun e w' =>
   e = .returned (.tuple #[]) ∧ ∃ (n v' : Nat) (dk : Array UInt8), w' = (putRow (fun (b : UInt8) => Value.int .u8 (b.toNat : Int)) w blk off dk).drewN n ∧ FmtInv d.size u 0 v' dk := Any.internal_strconv_formatBase10 Tryz.lays285 blk off cap u d w hH hu hu64 hsz
def Tryz.laysPu14_ren : Go.Shelf.Ren := ⟨fun | 14 => 130 | 16 => 177 | 17 => 178 | 19 => 220 | 20 => 221 | 21 => 222 | 22 => 223 | 23 => 224 | 24 => 225 | 25 => 267 | 27 => 185 | 26 => 268 | 28 => 235 | 29 => 274 | 30 => 227 | 31 => 228 | 32 => 229 | 33 => 230 | 35 => 203 | 34 => 269 | 36 => 270 | 37 => 271 | 38 => 272 | 39 => 286 | 40 => 287 | n => n, fun | 9 => 9 | 3 => 3 | 22 => 171 | 24 => 173 | 25 => 174 | 4 => 4 | 34 => 252 | 5 => 5 | 36 => 202 | 37 => 140 | 0 => 0 | 39 => 254 | 21 => 21 | 44 => 294 | 47 => 221 | 50 => 313 | 48 => 311 | 2 => 2 | 52 => 259 | 55 => 261 | 59 => 298 | 60 => 235 | 20 => 20 | 61 => 299 | 65 => 322 | 66 => 323 | 67 => 185 | n => n, fun | 0 => 0 | 1 => 1 | 2 => 2 | 3 => 6 | 4 => 7 | n => n⟩
theorem Tryz.laysPu14 : Go.Proofs.LaysPu.n14 Tryz.prog Tryz.laysPu14_ren := {
 mixed := by kernel_rfl
 f14 := Tryz.func130.trans (congrArg some (by kernel_rfl))
 f16 := Tryz.func177.trans (congrArg some (by kernel_rfl))
 f17 := Tryz.func178.trans (congrArg some (by kernel_rfl))
 f19 := Tryz.func220.trans (congrArg some (by kernel_rfl))
 f20 := Tryz.func221.trans (congrArg some (by kernel_rfl))
 f21 := Tryz.func222.trans (congrArg some (by kernel_rfl))
 f22 := Tryz.func223.trans (congrArg some (by kernel_rfl))
 f23 := Tryz.func224.trans (congrArg some (by kernel_rfl))
 f24 := Tryz.func225.trans (congrArg some (by kernel_rfl))
 f25 := Tryz.func267.trans (congrArg some (by kernel_rfl))
 f26 := Tryz.func268.trans (congrArg some (by kernel_rfl))
 f27 := Tryz.func185.trans (congrArg some (by kernel_rfl))
 f28 := Tryz.func235.trans (congrArg some (by kernel_rfl))
 f29 := Tryz.func274.trans (congrArg some (by kernel_rfl))
 f30 := Tryz.func227.trans (congrArg some (by kernel_rfl))
 f31 := Tryz.func228.trans (congrArg some (by kernel_rfl))
 f32 := Tryz.func229.trans (congrArg some (by kernel_rfl))
 f33 := Tryz.func230.trans (congrArg some (by kernel_rfl))
 f34 := Tryz.func269.trans (congrArg some (by kernel_rfl))
 f35 := Tryz.func203.trans (congrArg some (by kernel_rfl))
 f36 := Tryz.func270.trans (congrArg some (by kernel_rfl))
 f37 := Tryz.func271.trans (congrArg some (by kernel_rfl))
 f38 := Tryz.func272.trans (congrArg some (by kernel_rfl))
 f39 := Tryz.func286.trans (congrArg some (by kernel_rfl))
 f40 := Tryz.func287.trans (congrArg some (by kernel_rfl))
 t0 := Tryz.underlying0
 a0 := Tryz.isAgg0
 z0 := Tryz.sizeOf0
 v0 := Tryz.zeroValue0
 i0 := by kernel_rfl
 t2 := Tryz.underlying2
 a2 := Tryz.isAgg2
 z2 := Tryz.sizeOf2
 v2 := Tryz.zeroValue2
 i2 := by kernel_rfl
 t3 := Tryz.underlying3
 a3 := Tryz.isAgg3
 z3 := Tryz.sizeOf3
 v3 := Tryz.zeroValue3
 i3 := by kernel_rfl
 t4 := Tryz.underlying4
 a4 := Tryz.isAgg4
 z4 := Tryz.sizeOf4
 v4 := Tryz.zeroValue4
 i4 := by kernel_rfl
 t5 := Tryz.underlying5
 a5 := Tryz.isAgg5
 z5 := Tryz.sizeOf5
 v5 := Tryz.zeroValue5
 i5 := by kernel_rfl
 t9 := Tryz.underlying9
 a9 := Tryz.isAgg9
 z9 := Tryz.sizeOf9
 v9 := Tryz.zeroValue9
 i9 := by kernel_rfl
 t20 := Tryz.underlying20
 a20 := Tryz.isAgg20
 z20 := Tryz.sizeOf20
 v20 := Tryz.zeroValue20
 i20 := by kernel_rfl
 t21 := Tryz.underlying21
 a21 := Tryz.isAgg21
 z21 := Tryz.sizeOf21
 v21 := Tryz.zeroValue21
 i21 := by kernel_rfl
 t22 := Tryz.underlying171
 a22 := Tryz.isAgg171
 z22 := Tryz.sizeOf171
 v22 := Tryz.zeroValue171
 i22 := by kernel_rfl
 t24 := Tryz.underlying173
 a24 := Tryz.isAgg173
 z24 := Tryz.sizeOf173
 v24 := Tryz.zeroValue173
 i24 := by kernel_rfl
 t25 := Tryz.underlying174
 a25 := Tryz.isAgg174
 z25 := Tryz.sizeOf174
 v25 := Tryz.zeroValue174
 i25 := by kernel_rfl
 t34 := Tryz.underlying252
 a34 := Tryz.isAgg252
 z34 := Tryz.sizeOf252
 v34 := Tryz.zeroValue252
 i34 := by kernel_rfl
 c34 := by kernel_rfl
 t36 := Tryz.underlying202
 a36 := Tryz.isAgg202
 z36 := Tryz.sizeOf202
 v36 := Tryz.zeroValue202
 i36 := by kernel_rfl
 t37 := Tryz.underlying140
 a37 := Tryz.isAgg140
 z37 := Tryz.sizeOf140
 v37 := Tryz.zeroValue140
 i37 := by kernel_rfl
 t39 := Tryz.underlying254
 a39 := Tryz.isAgg254
 z39 := Tryz.sizeOf254
 v39 := Tryz.zeroValue254
 i39 := by kernel_rfl
 t44 := Tryz.underlying294
 a44 := Tryz.isAgg294
 z44 := Tryz.sizeOf294
 v44 := Tryz.zeroValue294
 i44 := by kernel_rfl
 t47 := Tryz.underlying221
 a47 := Tryz.isAgg221
 z47 := Tryz.sizeOf221
 v47 := Tryz.zeroValue221
 i47 := by kernel_rfl
 t48 := Tryz.underlying311
 a48 := Tryz.isAgg311
 z48 := Tryz.sizeOf311
 v48 := Tryz.zeroValue311
 i48 := by kernel_rfl
 t50 := Tryz.underlying313
 a50 := Tryz.isAgg313
 z50 := Tryz.sizeOf313
 v50 := Tryz.zeroValue313
 i50 := by kernel_rfl
 t52 := Tryz.underlying259
 a52 := Tryz.isAgg259
 z52 := Tryz.sizeOf259
 v52 := Tryz.zeroValue259
 i52 := by kernel_rfl
 t55 := Tryz.underlying261
 a55 := Tryz.isAgg261
 z55 := Tryz.sizeOf261
 v55 := Tryz.zeroValue261
 i55 := by kernel_rfl
 t59 := Tryz.underlying298
 a59 := Tryz.isAgg298
 z59 := Tryz.sizeOf298
 v59 := Tryz.zeroValue298
 i59 := by kernel_rfl
 t60 := Tryz.underlying235
 a60 := Tryz.isAgg235
 z60 := Tryz.sizeOf235
 v60 := Tryz.zeroValue235
 i60 := by kernel_rfl
 t61 := Tryz.underlying299
 a61 := Tryz.isAgg299
 z61 := Tryz.sizeOf299
 t65 := Tryz.underlying322
 a65 := Tryz.isAgg322
 z65 := Tryz.sizeOf322
 v65 := Tryz.zeroValue322
 i65 := by kernel_rfl
 t66 := Tryz.underlying323
 a66 := Tryz.isAgg323
 z66 := Tryz.sizeOf323
 v66 := Tryz.zeroValue323
 i66 := by kernel_rfl
 t67 := Tryz.underlying185
 a67 := Tryz.isAgg185
 z67 := Tryz.sizeOf185
 v67 := Tryz.zeroValue185
 i67 := by kernel_rfl
 g0 := by kernel_rfl
 m0 := by kernel_rfl
 g1 := by kernel_rfl
 m1 := by kernel_rfl
 g2 := by kernel_rfl
 m2 := by kernel_rfl
 g3 := by kernel_rfl
 m3 := by kernel_rfl
 g4 := by kernel_rfl
 m4 := by kernel_rfl }
open Go.RowKit in
theorem Tryz.strconv_ParseUint_10_at64_ok (s : ByteArray) (hmax : s.size ≤ 9223372036854775806) (u : Nat) (h : Lib.parseUintB 64 s.data.toList = .ok u) (w : World) :
  Calls Tryz.prog 130 #[.string s, .int .i64 10, .int .i64 64] w fun e w' => e = .returned (.tuple #[.int .u64 u, .nilIface]) ∧ (w' = w ∨ w' = Lib.bytesWorld w 5 s) := Any.strconv_ParseUint_10_at64_ok Tryz.laysPu14 s hmax u h w
def Tryz.lays219_ren : Go.Shelf.Ren := ⟨fun | 219 => 289 | 217 => 295 | 225 => 294 | 224 => 293 | 267 => 296 | 266 => 297 | 314 => 298 | n => n, fun | 9 => 9 | 3 => 3 | 4 => 4 | 5 => 5 | 46 => 202 | 146 => 263 | 51 => 235 | n => n, fun | 1 => 3 | n => n⟩
theorem Tryz.lays219 : Go.Proofs.Lays.n219 Tryz.prog Tryz.lays219_ren := {
 mixed := by kernel_rfl
 f217 := Tryz.func295.trans (congrArg some (by kernel_rfl))
 f219 := Tryz.func289.trans (congrArg some (by kernel_rfl))
 f224 := Tryz.func293.trans (congrArg some (by kernel_rfl))
 f225 := Tryz.func294.trans (congrArg some (by kernel_rfl))
 f266 := Tryz.func297.trans (congrArg some (by kernel_rfl))
 f267 := Tryz.func296.trans (congrArg some (by kernel_rfl))
 f314 := Tryz.func298.trans (congrArg some (by kernel_rfl))
 t3 := Tryz.underlying3
 a3 := Tryz.isAgg3
 z3 := Tryz.sizeOf3
 v3 := Tryz.zeroValue3
 t4 := Tryz.underlying4
 a4 := Tryz.isAgg4
 z4 := Tryz.sizeOf4
 v4 := Tryz.zeroValue4
 t5 := Tryz.underlying5
 a5 := Tryz.isAgg5
 z5 := Tryz.sizeOf5
 v5 := Tryz.zeroValue5
 t9 := Tryz.underlying9
 a9 := Tryz.isAgg9
 z9 := Tryz.sizeOf9
 v9 := Tryz.zeroValue9
 t46 := Tryz.underlying202
 a46 := Tryz.isAgg202
 z46 := Tryz.sizeOf202
 v46 := Tryz.zeroValue202
 t51 := Tryz.underlying235
 a51 := Tryz.isAgg235
 z51 := Tryz.sizeOf235
 v51 := Tryz.zeroValue235
 t146 := Tryz.underlying263
 a146 := Tryz.isAgg263
 z146 := Tryz.sizeOf263
 v146 := Tryz.zeroValue263
 g1 := by kernel_rfl }
open Go.RowKit Go.Lib in
theorem Tryz.stringslite_Index_one (s : ByteArray) (c : UInt8) (w : World) :
  Calls Tryz.prog 289 #[.string s, .string ⟨#[c]⟩] w fun e w' => e = .returned (.int .i64 (Lib.indexByte s.data.toList c)) ∧ w' = w := Any.stringslite_Index_one Tryz.lays219 s c w
def Tryz.lays105_ren : Go.Shelf.Ren := ⟨fun | 105 => 135 | 212 => 181 | 99 => 182 | 165 => 183 | 166 => 133 | 170 => 184 | 169 => 136 | 263 => 231 | 264 => 232 | 206 => 233 | 240 => 179 | 241 => 234 | 276 => 226 | 277 => 273 | n => n, fun | 9 => 9 | 3 => 3 | 4 => 4 | 20 => 20 | 0 => 0 | 46 => 202 | 109 => 216 | 5 => 5 | 72 => 179 | 76 => 181 | 51 => 235 | 146 => 263 | 53 => 171 | 148 => 265 | 70 => 177 | 37 => 140 | 75 => 173 | 127 => 221 | 164 => 257 | 80 => 185 | n => n, fun | n => n⟩
theorem Tryz.lays105 : Go.Proofs.Lays.n105 Tryz.prog Tryz.lays105_ren := {
 mixed := by kernel_rfl
 f99 := Tryz.func182.trans (congrArg some (by kernel_rfl))
 f105 := Tryz.func135.trans (congrArg some (by kernel_rfl))
 f165 := Tryz.func183.trans (congrArg some (by kernel_rfl))
 f166 := Tryz.func133.trans (congrArg some (by kernel_rfl))
 f169 := Tryz.func136.trans (congrArg some (by kernel_rfl))
 f170 := Tryz.func184.trans (congrArg some (by kernel_rfl))
 f206 := Tryz.func233.trans (congrArg some (by kernel_rfl))
 f212 := Tryz.func181.trans (congrArg some (by kernel_rfl))
 f240 := Tryz.func179.trans (congrArg some (by kernel_rfl))
 f241 := Tryz.func234.trans (congrArg some (by kernel_rfl))
 f263 := Tryz.func231.trans (congrArg some (by kernel_rfl))
 f264 := Tryz.func232.trans (congrArg some (by kernel_rfl))
 f276 := Tryz.func226.trans (congrArg some (by kernel_rfl))
 f277 := Tryz.func273.trans (congrArg some (by kernel_rfl))
 t0 := Tryz.underlying0
 a0 := Tryz.isAgg0
 z0 := Tryz.sizeOf0
 v0 := Tryz.zeroValue0
 t3 := Tryz.underlying3
 a3 := Tryz.isAgg3
 z3 := Tryz.sizeOf3
 v3 := Tryz.zeroValue3
 t4 := Tryz.underlying4
 a4 := Tryz.isAgg4
 z4 := Tryz.sizeOf4
 v4 := Tryz.zeroValue4
 t5 := Tryz.underlying5
 a5 := Tryz.isAgg5
 z5 := Tryz.sizeOf5
 v5 := Tryz.zeroValue5
 t9 := Tryz.underlying9
 a9 := Tryz.isAgg9
 z9 := Tryz.sizeOf9
 v9 := Tryz.zeroValue9
 t20 := Tryz.underlying20
 a20 := Tryz.isAgg20
 z20 := Tryz.sizeOf20
 v20 := Tryz.zeroValue20
 t37 := Tryz.underlying140
 a37 := Tryz.isAgg140
 z37 := Tryz.sizeOf140
 v37 := Tryz.zeroValue140
 t46 := Tryz.underlying202
 a46 := Tryz.isAgg202
 z46 := Tryz.sizeOf202
 v46 := Tryz.zeroValue202
 t51 := Tryz.underlying235
 a51 := Tryz.isAgg235
 z51 := Tryz.sizeOf235
 v51 := Tryz.zeroValue235
 t53 := Tryz.underlying171
 a53 := Tryz.isAgg171
 z53 := Tryz.sizeOf171
 v53 := Tryz.zeroValue171
 t70 := Tryz.underlying177
 a70 := Tryz.isAgg177
 z70 := Tryz.sizeOf177
 v70 := Tryz.zeroValue177
 t72 := Tryz.underlying179
 a72 := Tryz.isAgg179
 z72 := Tryz.sizeOf179
 v72 := Tryz.zeroValue179
 t75 := Tryz.underlying173
 a75 := Tryz.isAgg173
 z75 := Tryz.sizeOf173
 v75 := Tryz.zeroValue173
 t76 := Tryz.underlying181
 a76 := Tryz.isAgg181
 z76 := Tryz.sizeOf181
 v76 := Tryz.zeroValue181
 t109 := Tryz.underlying216
 a109 := Tryz.isAgg216
 z109 := Tryz.sizeOf216
 v109 := Tryz.zeroValue216
 t127 := Tryz.underlying221
 a127 := Tryz.isAgg221
 z127 := Tryz.sizeOf221
 v127 := Tryz.zeroValue221
 t146 := Tryz.underlying263
 a146 := Tryz.isAgg263
 z146 := Tryz.sizeOf263
 v146 := Tryz.zeroValue263
 t148 := Tryz.underlying265
 a148 := Tryz.isAgg265
 z148 := Tryz.sizeOf265
 v148 := Tryz.zeroValue265
 t164 := Tryz.underlying257
 a164 := Tryz.isAgg257
 z164 := Tryz.sizeOf257
 v164 := Tryz.zeroValue257 }
theorem Tryz.Builder_Extra_105 : Builder.Extra Tryz.prog Tryz.lays105_ren := {
 sizeBuilder := by kernel_rfl
 liesBuilder := by kernel_rfl
 t5 := Tryz.underlying5
 a5 := Tryz.isAgg5
 z5 := Tryz.sizeOf5
 v5 := Tryz.zeroValue5
 infoByte := by kernel_rfl
 cellsByte := by kernel_rfl
 sizeByte := by kernel_rfl
 neB5 := by decide }
open Go.RowKit Go.Lib in
theorem Tryz.strings_Repeat (s : ByteArray) (c : Nat) (w : World) (hc : c ≤ 9223372036854775807) (hlen : s.size * c ≤ 140737488355328) :
  Calls Tryz.prog 135 #[.string s, .int .i64 c] w fun e w' => e = .returned (.string ⟨(Lib.repeatL s.data.toList c).toArray⟩) ∧ Below w.heap.size w w' := Any.strings_Repeat Tryz.lays105 Tryz.Builder_Extra_105 s c w hc hlen
end Go.Proofs
namespace Go.T
open Go Go.Proofs
theorem Keep.below {w w' : World} (h : Go.RowKit.Below w.heap.size w w') : Keep w w' := ⟨h.size, fun b hb => h.block b hb, h.os, h.output, .inr trivial⟩
/-- strings.CutPrefix at a sign. -/
theorem cutPrefix_ok (s : Str) : Fc Tryz.prog 174 [.str s, .str [45]] (.tup [.str (stripNeg s).1, .b (stripNeg s).2]) := .of_calls fun w O ρ vals _ hv => by
 obtain ⟨rfl, hb, _⟩ := hv.str2
 refine (Tryz.strings_CutPrefix ⟨s.toArray⟩ ⟨[45].toArray⟩ w).mono ?_
 rintro e w' ⟨rfl, rfl⟩
 have hs := stripNeg_len s
 refine ⟨_, rfl, ?_, Keep.refl _⟩
 have h1 : Lib.hasPrefix s [45] = (stripNeg s).2 := by
  cases s with
  | nil => rfl
  | cons c r =>
   by_cases h : c = 45
   ·subst h; simp [Lib.hasPrefix, stripNeg, List.isPrefixOf]
   ·have : stripNeg (c :: r) = (c :: r, false) := by unfold stripNeg; split <;> simp_all
    simp [Lib.hasPrefix, this, List.isPrefixOf]; exact fun e => h e.symm
 have h2 : Lib.trimPrefix s [45] = (stripNeg s).1 := by
  unfold Lib.trimPrefix
  rw [h1]
  cases s with
  | nil => rfl
  | cons c r =>
   by_cases h : c = 45
   ·subst h; simp [stripNeg]
   ·have : stripNeg (c :: r) = (c :: r, false) := by unfold stripNeg; split <;> simp_all
    simp [this]
 simp only [V]
 refine ⟨_, rfl, ?_⟩
 simp only [Vs]
 exact ⟨_, _, rfl, by simp only [V]; exact ⟨by rw [← h2], by omega⟩, _, _, rfl, by simp only [V]; rw [← h1], rfl⟩
theorem dropWhile_dropZ (s : Str) : s.dropWhile (· == 48) = dropZ s := by
 induction s with
 | nil => rfl
 | cons c r ih =>
  by_cases h : c = 48
  ·subst h; simpa [dropZ] using ih
  ·have : dropZ (c :: r) = c :: r := by unfold dropZ; split <;> simp_all
   rw [this]; simp [h]
/-- strings.TrimLeft at zeros. -/
theorem trimLeft0_ok (s : Str) : Fc Tryz.prog 176 [.str s, .str [48]] (.str (dropZ s)) := .of_calls fun w O ρ vals _ hv => by
 obtain ⟨rfl, hb, _⟩ := hv.str2
 refine (Tryz.strings_TrimLeft_one ⟨s.toArray⟩ 48 (by decide) w).mono ?_
 rintro e w' ⟨rfl, rfl⟩
 refine ⟨_, rfl, ?_, Keep.refl _⟩
 have := dropZ_len s
 simp only [V]
 exact ⟨by simp [Lib.trimLeftB, dropWhile_dropZ], by omega⟩
theorem parseM_ok : ∀ (s : Str) (acc : Nat), s.all isDig = true → acc * 10 ^ s.length + natVal s < 1000000000000000000 → Lib.parseUintM (2 ^ 64 - 1) acc s = .ok (acc * 10 ^ s.length + natVal s)
 | [], acc, _, _ => by simp [Lib.parseUintM, natVal]
 | c :: s, acc, h, hb => by
  simp only [List.all_cons, Bool.and_eq_true] at h
  have hd := h.1
  simp only [isDig, Bool.and_eq_true, decide_eq_true_eq] at hd
  have key : ∀ (s : Str) (a : Nat), s.foldl (fun a c => 10 * a + (c.toNat - 48)) a = a * 10 ^ s.length + natVal s := by
   intro s
   induction s with
   | nil => intro a; simp [natVal]
   | cons c r ih =>
    intro a
    rw [List.foldl_cons, ih]
    have : natVal (c :: r) = (c.toNat - 48) * 10 ^ r.length + natVal r := by
     show (c :: r).foldl _ 0 = _
     rw [List.foldl_cons, ih]; simp
    rw [this, List.length_cons, Nat.pow_succ, Nat.add_mul]
    have : 10 * a * 10 ^ r.length = a * (10 ^ r.length * 10) := by rw [Nat.mul_comm 10 a, Nat.mul_assoc, Nat.mul_comm 10]
    omega
  have hv : natVal (c :: s) = (c.toNat - 48) * 10 ^ s.length + natVal s := by
   show (c :: s).foldl _ 0 = _
   rw [List.foldl_cons, key]; simp
  have he : acc * 10 ^ (c :: s).length + natVal (c :: s) = (acc * 10 + (c.toNat - 48)) * 10 ^ s.length + natVal s := by
   rw [hv, List.length_cons, Nat.pow_succ, Nat.add_mul, ← Nat.mul_assoc, Nat.mul_right_comm]; omega
  rw [he] at hb ⊢
  have hp : 1 ≤ 10 ^ s.length := Nat.one_le_pow _ _ (by omega)
  have hb2 : acc * 10 + (c.toNat - 48) < 1000000000000000000 := by
   have : (acc * 10 + (c.toNat - 48)) * 1 ≤ (acc * 10 + (c.toNat - 48)) * 10 ^ s.length := Nat.mul_le_mul_left _ hp
   omega
  rw [Lib.parseUintM, if_pos hd, if_neg (by omega), if_neg (by omega)]
  exact parseM_ok s _ h.2 hb
/-- strconv.ParseUint at up to 17 digits. -/
theorem parseUint_ok (s : Str) (h0 : s ≠ []) (hd : s.all isDig = true) (hl : s.length ≤ 17) : Fc Tryz.prog 130 [.str s, .raw (.int .i64 10), .raw (.int .i64 64)] (.tup [.raw (.int .u64 (natVal s)), .raw .nilIface]) := .of_calls fun w O ρ vals _ hv => by
 simp only [Vs, V] at hv
 obtain ⟨u, us, rfl, ⟨rfl, hb⟩, u', us', rfl, rfl, u'', us'', rfl, rfl, rfl⟩ := hv
 have hsm := natVal_small hd hl
 refine (Tryz.strconv_ParseUint_10_at64_ok ⟨s.toArray⟩ (by simp [ByteArray.size]; omega) (natVal s) ?_ w).mono ?_
 ·have := parseM_ok s 0 hd (by omega)
  simp only [Lib.parseUintB, if_neg h0]
  simpa using this
 ·rintro e w' ⟨rfl, hw⟩
  refine ⟨_, rfl, ?_, ?_⟩
  ·simp only [V]; exact ⟨_, rfl, by simp only [Vs]; exact ⟨_, _, rfl, by simp [V], _, _, rfl, by simp [V], rfl⟩⟩
  ·rcases hw with rfl | rfl
   ·exact Keep.refl _
   ·exact Keep.below (Lib.below_freeze ((RowKit.Below.drew (RowKit.Below.refl _ w)).alloc (Nat.le_refl _) _) (p := ⟨w.heap.size, _, none⟩) (Nat.le_refl _) _)
theorem repeatL_one (c : UInt8) : ∀ n, Lib.repeatL [c] n = List.replicate n c
 | 0 => rfl
 | n + 1 => by simp [Lib.repeatL, repeatL_one c n, List.replicate_succ]
/-- strings.Repeat of a zero. -/
theorem repeat0_ok (n : Int) (h0 : 0 ≤ n) (h1 : n ≤ 1000) : Fc Tryz.prog 135 [.str [48], .i n] (.str (List.replicate n.toNat 48)) := .of_calls fun w O ρ vals _ hv => by
 simp only [Vs, V] at hv
 obtain ⟨u, us, rfl, ⟨rfl, hb⟩, u', us', rfl, rfl, rfl⟩ := hv
 obtain ⟨k, rfl⟩ : ∃ k : Nat, n = k := ⟨n.toNat, by omega⟩
 refine (Tryz.strings_Repeat ⟨[48].toArray⟩ k w (by omega) (by simp [ByteArray.size]; omega)).mono ?_
 rintro e w' ⟨rfl, hw⟩
 refine ⟨_, rfl, ?_, Keep.below hw⟩
 simp only [V]
 exact ⟨by simp [repeatL_one], by simp [big]; omega⟩
/-- internal/stringslite.Index at one byte. -/
theorem index1_ok (s : Str) (c : UInt8) : Fc Tryz.prog 289 [.str s, .str [c]] (.i (Lib.indexByte s c)) := .of_calls fun w O ρ vals _ hv => by
 obtain ⟨rfl, hb, _⟩ := hv.str2
 refine (Tryz.stringslite_Index_one ⟨s.toArray⟩ c w).mono ?_
 rintro e w' ⟨rfl, rfl⟩
 exact ⟨_, rfl, by simp [V], Keep.refl _⟩
end Go.T
namespace Go.T
open Go Go.Proofs Go.Shelf Go.RowKit Go.Sort Go.Lib
theorem holds_zero0 (w : World) (T : TypeId) (nd : Nat) (hs : nd ≤ 24) : Holds (fun (b : UInt8) => Value.int .u8 (b.toNat : Int)) (w.alloc (.cells Lib.zeros24 T)) w.heap.size 0 (Array.replicate nd (0 : UInt8)) := fun j hj => by
 have hj' : j < nd := by simpa using hj
 refine ⟨?_, World.frozen?_alloc_new _ _ _ _⟩
 rw [World.cell?_alloc_new, Lib.zeros24_at _ (by omega), getElem!_pos _ j hj]
 simp
theorem fin_pos0 (w : World) (o : Obj) (dk : Array UInt8) (k : Nat) : ∃ os, (putRow (fun (b : UInt8) => Value.int .u8 (b.toNat : Int)) (w.alloc o) w.heap.size 0 dk).drewN k = grow (w.drewN k) os := by
 rw [alloc_eq_grow]
 obtain ⟨os', _, e⟩ := putRow_grow_new (fun (b : UInt8) => Value.int .u8 (b.toNat : Int)) w #[o] w.heap.size 0 dk (Nat.le_refl _)
 exact ⟨os', by rw [e]; rfl⟩
theorem Tryz_mixed0 : Tryz.prog.follows .mixedOrders = true := by kernel_rfl
set_option maxHeartbeats 6400000 in
set_option maxRecDepth 100000 in
theorem formatUint_calls (u : Nat) (hu64 : u < 18446744073709551616) (w : World) (htab : Lib.TabIs Tryz.prog w "internal/strconv.uint64pow10" .u64 Lib.pow10Tab) :
  Calls Tryz.prog 180 #[.int .u64 u, .int .i64 10] w fun e w' => e = .returned (.string ⟨(Lib.decDigits u).toArray⟩) ∧ ∃ k os, w' = grow (w.drewN k) os := by
 have mixed := Tryz_mixed0
 by_cases hs : u < 100
 ·have iu : (u : Int) < 100 := by omega
  go_enter Tryz.func180, Tryz.ntmps180
  have hw : IntKind.i64.wrap (u : Int) = u := IntWalk.i64_in _ ⟨by omega, by omega⟩
  go_wp2_with (go_at_call 227; refine (Tryz.internal_strconv_small u hs _).mono ?_; rintro e w' ⟨rfl, rfl⟩)
  go_ret
  exact ⟨rfl, 0, #[], by simp [World.drewN_zero]⟩
 ·have hu1 : 1 ≤ u := by omega
  have hnd20 : Lib.nDigits u ≤ 20 := by have := Lib.numDigits_eq u hu1 hu64; split at this <;> omega
  have hal : Tryz.prog.arrayLen 259 = 24 := by simp [Program.arrayLen, Tryz.underlying259]
  have hsl1 : ∀ W, (Instr.sliceAt 259 (.pointer (some ⟨w.heap.size, 0, none⟩)) none (some (.int .i64 (Lib.nDigits u : Int))) none).run Tryz.prog W = .ok (.slice (some ⟨w.heap.size, 0, none⟩) (Lib.nDigits u) 24) W := fun W => by
   rw [run_sliceAt_array_h W 259 ⟨w.heap.size, 0, none⟩ (by simp [Program.arrayLen, Program.elem, Tryz.underlying259]) .i64 (Lib.nDigits u : Int) (by omega) (by rw [hal]; omega)]
   go_simp
   try omega
  have hH0 := holds_zero0 w 259 (Lib.nDigits u) (by omega)
  have hfmt := Tryz.internal_strconv_formatBase10 w.heap.size 0 24 u (Array.replicate (Lib.nDigits u) 0) (w.alloc (.cells Lib.zeros24 259)) hH0 (by rw [Array.size_replicate]; exact Lib.lt_pow_nDigits u) hu64 (by rw [Array.size_replicate]; omega)
  rw [Array.size_replicate] at hfmt
  have HH0 := Lib.hid hH0
  have iu : (100 : Int) ≤ (u : Int) := by omega
  clear hH0 hal
  go_enter Tryz.func180, Tryz.ntmps180
  go_wp2_with (first
   | (go_at_call 228; refine (Tryz.internal_strconv_numDigits u hu1 hu64 _ (Lib.tabIs_alloc htab _)).mono ?_; rintro e w' ⟨rfl, rfl⟩))
  go_at_call 229
  refine hfmt.mono ?_
  rintro e w' ⟨rfl, k, v', dk, rfl, hF⟩
  have hcv : (convert 140 9 (.slice (some ⟨w.heap.size, 0, none⟩) (Lib.nDigits u) 24)).run Tryz.prog ((putRow (fun (b : UInt8) => Value.int .u8 (b.toNat : Int)) (w.alloc (.cells Lib.zeros24 259)) w.heap.size 0 dk).drewN k) = .ok (.string ⟨(Lib.decDigits u).toArray⟩) ((putRow (fun (b : UInt8) => Value.int .u8 (b.toNat : Int)) (w.alloc (.cells Lib.zeros24 259)) w.heap.size 0 dk).drewN k) := by
   have h := run_convert_bytes_back (P := Tryz.prog) ((putRow (fun (b : UInt8) => Value.int .u8 (b.toNat : Int)) (w.alloc (.cells Lib.zeros24 259)) w.heap.size 0 dk).drewN k) 140 9 5 ⟨w.heap.size, 0, none⟩ 24 (Lib.decDigits u) Tryz.underlying140 Tryz.underlying5 Tryz.underlying9 (fun j hj => by
    rw [Lib.row_is_numeral hF j hj, Lib.add_plain, World.cell?_drewN]
    exact cell?_putRow (fun (b : UInt8) => Value.int .u8 (b.toNat : Int)) _ w.heap.size 0 _ dk HH0.out (by rw [hF.size, Array.size_replicate]) j (by rw [hF.size]; rw [Lib.decDigits_length] at hj; exact hj))
   rw [Lib.decDigits_length] at h
   exact h
  go_wp2
  go_ret
  obtain ⟨os, eo⟩ := fin_pos0 w (.cells Lib.zeros24 259) dk k
  exact ⟨rfl, k, os, eo⟩
theorem keep_grow (w : World) (k : Nat) (os : Array Obj) : Keep w (grow (w.drewN k) os) := by
 have h : (w.drewN k).heap = w.heap ∧ (w.drewN k).os = w.os ∧ (w.drewN k).output = w.output := by
  unfold World.drewN; exact ⟨rfl, rfl, rfl⟩
 refine ⟨?_, fun b hb => ?_, h.2.1, h.2.2, .inr trivial⟩
 ·show w.heap.size ≤ ((w.drewN k).heap ++ os).size
  rw [h.1, Array.size_append]; omega
 ·show ((w.drewN k).heap ++ os)[b]? = _
  rw [h.1, Array.getElem?_append_left hb]
theorem tab_of {w : World} {O : Nat → Prop} (h : Gl w O) : Lib.TabIs Tryz.prog w "internal/strconv.uint64pow10" .u64 Lib.pow10Tab := by
 obtain ⟨⟨T, fr, h1⟩, _⟩ := h 2 _ (List.mem_singleton.2 rfl)
 have hg : Tryz.prog.globalNamed "internal/strconv.uint64pow10" = some 2 := by kernel_rfl
 unfold Lib.TabIs World.var?
 rw [hg]
 have h10 : pow10s.map (fun (n : Nat) => (n : Int)) = Lib.pow10Tab := by decide +kernel
 have : (pow10s.map fun (n : Nat) => Value.int .u64 (n : Int)).toArray = (Lib.pow10Tab.map fun z => Value.int .u64 z).toArray := by rw [← h10, List.map_map]; rfl
 simp [h1, this]
theorem decDigits_natDig (u : Nat) (h : u ≠ 0) : Lib.decDigits u = natDig u := by
 induction u using Nat.strongRecOn with
 | _ u ih =>
  rw [Lib.decDigits, natDig_step h]
  split
  ·rename_i hu
   rw [Nat.div_eq_of_lt hu, natDig_zero, Nat.mod_eq_of_lt hu]; rfl
  ·rw [ih (u / 10) (by omega) (by omega)]
theorem formatUint180_ok (u : Nat) (hu : u < 18446744073709551616) : Fc Tryz.prog 180 [.raw (.int .u64 u), .i 10] (.str (Lib.decDigits u)) := .of_calls fun w O ρ vals hg hv => by
 simp only [Vs, V] at hv
 obtain ⟨_, _, rfl, rfl, _, _, rfl, rfl, rfl⟩ := hv
 refine (formatUint_calls u hu w (tab_of hg)).mono ?_
 rintro e w' ⟨rfl, k, os, rfl⟩
 refine ⟨_, rfl, ?_, keep_grow w k os⟩
 simp only [V]
 have : (Lib.decDigits u).length ≤ 20 := by
  rw [Lib.decDigits_length]
  by_cases h : u = 0
  ·subst h; rw [Lib.nDigits_small (by omega)]; omega
  ·have := Lib.numDigits_eq u (by omega) hu; split at this <;> omega
 exact ⟨trivial, by unfold big; omega⟩
end Go.T
namespace Go.T
open Go Go.Proofs Go.Shelf Go.RowKit
theorem bldSize : (Tryz.prog.info? 179).map (·.size) = some 2 := by kernel_rfl
theorem bldLies : liesAt Tryz.prog Tryz.prog.depth 179 (2 / Tryz.prog.cellsOf 179) 0 179 1 = true := by kernel_rfl
set_option maxHeartbeats 1000000 in
set_option maxRecDepth 100000 in
theorem copyCheck_used (b : Nat) (w : World) (h0 : w.cell? ⟨b, 0, none⟩ = some (.pointer (some ⟨b, 0, none⟩))) :
  Calls Tryz.prog 179 #[.pointer (some ⟨b, 0, none⟩)] w fun e w' => e = .returned (.tuple #[]) ∧ w' = w := by
 obtain ⟨j, hj, _⟩ := Option.map_eq_some_iff.1 bldSize
 go_enter Tryz.func179, Tryz.ntmps179
 go_wp2
 rw [Lib.run_neq_ptr_same w _ Tryz.underlying177 hj]
 go_wp2
 go_end0
 exact ⟨rfl, rfl⟩
set_option maxHeartbeats 1000000 in
set_option maxRecDepth 100000 in
theorem copyCheck_fresh (b : Nat) (w : World) (h0 : w.cell? ⟨b, 0, none⟩ = some (.pointer none)) (hsh : w.shape? b = some (179, 2)) (hfz : w.frozen? ⟨b, 0, none⟩ = false) :
  Calls Tryz.prog 179 #[.pointer (some ⟨b, 0, none⟩)] w fun e w' => e = .returned (.tuple #[]) ∧ w' = w.setCell ⟨b, 0, none⟩ (.pointer (some ⟨b, 0, none⟩)) := by
 obtain ⟨j, hj, hjs⟩ := Option.map_eq_some_iff.1 bldSize
 go_enter Tryz.func179, Tryz.ntmps179
 go_wp2
 rw [Lib.run_to_unsafe w ⟨b, 0, none⟩ Tryz.underlying177 Tryz.underlying257 hj (by rw [hjs]; decide) hsh (Nat.zero_lt_succ 1)]
 simp only [Result.andThen]
 rw [Oper.upon_value]
 go_wp2
 rw [run_callFunc_extern Tryz.func226 (by kernel_rfl) (by kernel_rfl) (by kernel_rfl) (e := Extern.AbiNoEscape.same) (by kernel_rfl)]
 rw [Lib.run_noEscape]
 simp only [Result.andThen]
 rw [Oper.upon_value]
 go_wp2
 rw [Lib.run_from_unsafe w ⟨b, 0, none⟩ Tryz.underlying257 Tryz.underlying177 hj hsh bldLies]
 simp only [Result.andThen]
 rw [Oper.upon_value]
 go_wp2
 go_end0
 exact ⟨rfl, rfl⟩
theorem copyCheck_ok (id j n : Nat) (s : Str) : FcO Tryz.prog 179 [.box id 0] [(id, .bld j n), (j, .ba s)] (.tup []) [(id, .bld j n), (j, .ba s)] := ⟨fun w O ρ vals hok _ hv => by
 simp only [Vs, V] at hv
 obtain ⟨_, _, rfl, ⟨l, hl, rfl⟩, rfl⟩ := hv
 have hg : Obs.get [(id, Ob.bld j n), (j, .ba s)] id = some (.bld j n) := by simp [Obs.get]
 obtain ⟨l', h1, h2, p, v, h3, h4, h5⟩ := hok.own id _ hg rfl
 rw [hl] at h1; cases h1
 have hr : V w (Ot O ρ [(id, .bld j n), (j, .ba s)]) ρ (.tup []) (.tuple #[]) := by simp [V, Vs]
 rcases h4 with rfl | rfl
 ·refine (copyCheck_fresh l.b w (by simp [World.cell?, h3]) (by simp [World.shape?, h3]) (by simp [World.frozen?, h3])).mono ?_
  rintro e w' ⟨rfl, rfl⟩
  have htr := Tr.upd (o' := .bld j n) hok hg rfl hl (.cells #[.pointer (some ⟨l.b, 0, none⟩), v] bldT (0, 0)) (fun _ => ⟨.pointer (some ⟨l.b, 0, none⟩), v, by simp [(Array.getElem?_eq_some_iff.1 h3).1], .inr rfl, h5⟩)
  have hset : Obs.set [(id, Ob.bld j n), (j, .ba s)] id (.bld j n) = [(id, .bld j n), (j, .ba s)] := by simp [Obs.set]
  rw [hset] at htr
  have hw : { w with heap := w.heap.setIfInBounds l.b (.cells #[.pointer (some ⟨l.b, 0, none⟩), v] bldT (0, 0)) } = w.setCell ⟨l.b, 0, none⟩ (.pointer (some ⟨l.b, 0, none⟩)) := by
   have hlt := (Array.getElem?_eq_some_iff.1 h3).1
   unfold World.setCell
   congr 1
   apply Array.ext (by simp)
   intro i g1 g2
   rw [Array.getElem_setIfInBounds, Array.getElem_modify]
   have hi : i < w.heap.size := by simpa using g1
   by_cases e : l.b = i
   ·subst e
    have : w.heap[l.b] = .cells #[.pointer none, v] bldT (0, 0) := Option.some.inj ((Array.getElem?_eq_getElem hlt).symm.trans h3)
    simp [this]
   ·simp [e]
   ·simpa using g1
  rw [hw] at htr
  exact ⟨_, ρ, rfl, htr, htr.V hr⟩
 ·refine (copyCheck_used l.b w (by simp [World.cell?, h3])).mono ?_
  rintro e w' ⟨rfl, rfl⟩
  exact ⟨_, ρ, rfl, Tr.refl hok, hr⟩⟩
set_option maxHeartbeats 1000000 in
set_option maxRecDepth 100000 in
theorem bldString_calls (b g cap : Nat) (p : Value) (cur : Array Value) (l : List UInt8) (w : World) (h0 : l ≠ []) (hbk : w.heap[b]? = some (.cells #[p, .slice (some ⟨g, 0, none⟩) l.length cap] 179 (0, 0))) (hg : w.heap[g]? = some (.cells cur 5 (0, 0))) (hnc : l.length ≤ cap) (hcm : cap ≤ 9223372036854775807) (hcs : cur.size = cap) (htake : cur.toList.take l.length = byteVals l) :
  Calls Tryz.prog 136 #[.pointer (some ⟨b, 0, none⟩)] w fun e w' => e = .returned (.string ⟨l.toArray⟩) ∧ w' = w.drew.freeze ⟨g, 0, none⟩ l.length := by
 have mixed := Tryz_mixed0
 have hl0 : l.length ≠ 0 := by simpa using h0
 have c1 : w.drew.cell? ⟨b, 1, none⟩ = some (.slice (some ⟨g, 0, none⟩) l.length cap) := by
  have : w.drew.heap[b]? = some (.cells #[p, .slice (some ⟨g, 0, none⟩) l.length cap] 179 (0, 0)) := hbk
  rw [Lib.cell_of_heap this]; rfl
 have hSD : (Builtin.unsafeSliceData_ #[140] 221 #[.slice (some ⟨g, 0, none⟩) l.length cap]).run Tryz.prog w.drew = .ok (.pointer (some ⟨g, 0, none⟩)) w.drew :=
  Lib.run_unsafeSliceData_row _ _ _ _ _ _ (by omega)
 have hUS : (Builtin.unsafeString_ #[221, 3] 9 #[.pointer (some ⟨g, 0, none⟩), .int .i64 l.length]).run Tryz.prog w.drew = .ok (.string ⟨l.toArray⟩) (w.drew.freeze ⟨g, 0, none⟩ l.length) := by
  refine Lib.run_unsafeString_row w.drew 221 3 9 5 Tryz.underlying221 (by kernel_rfl) g cur.size (by have hg' : w.drew.heap[g]? = some (.cells cur 5 (0, 0)) := hg; simp [World.shape?, hg']) l h0 (by omega) (by omega) ?_
  intro j x hx
  have hlt : j < l.length := (List.getElem?_eq_some_iff.1 hx).1
  have h1 : (cur.toList.take l.length)[j]? = some (Value.int .u8 x.toNat) := by rw [htake]; simp [byteVals, hx]
  rw [List.getElem?_take, if_pos hlt] at h1
  have hg' : w.drew.heap[g]? = some (.cells cur 5 (0, 0)) := hg
  rw [addr_add']
  simp only [World.cell?, hg']
  simpa using h1
 go_enter Tryz.func136, Tryz.ntmps136
 go_wp2
 go_region_o
 all_goals (go_wp2; go_ret; exact ⟨rfl, rfl⟩)
/-- The text of a Builder that holds something. -/
theorem bldString_ok (id j n : Nat) (s : Str) (hs : s ≠ []) (hn : s.length = n) (hb : n ≤ big) (hne : Nat.beq id j = false) : FcO Tryz.prog 136 [.box id 0] [(id, .bld j n), (j, .ba s)] (.str s) [(id, .dead), (j, .dead)] := ⟨fun w O ρ vals hok _ hv => by
 simp only [Vs, V] at hv
 obtain ⟨_, _, rfl, ⟨l, hl, rfl⟩, rfl⟩ := hv
 have hne' : id ≠ j := by rintro rfl; simp at hne
 have hg : Obs.get [(id, Ob.bld j n), (j, .ba s)] id = some (.bld j n) := by simp [Obs.get]
 have hgj : Obs.get [(id, Ob.bld j n), (j, .ba s)] j = some (.ba s) := by simp [Obs.get, hne]
 obtain ⟨l', h1, h2, p, v, h3, h4, h5⟩ := hok.own id _ hg rfl
 rw [hl] at h1; cases h1
 have hlive : (Ob.ba s).live = true := by
  cases s with
  | nil => exact absurd rfl hs
  | cons r rs => rfl
 have hn0 : n ≠ 0 := by rw [← hn]; exact fun e => hs (List.length_eq_zero_iff.1 e)
 obtain ⟨lj, g1, g2, c, g3, g4, g5, g6, g7, g8⟩ := hok.own j _ hgj hlive
 obtain ⟨_, lj', k1, rfl⟩ : n ≠ 0 ∧ ∃ lj, ρ j = some lj ∧ v = .slice (some ⟨lj.b, 0, none⟩) n lj.cap := by
  rcases h5 with ⟨e, _⟩ | h5
  ·exact absurd e hn0
  ·exact h5
 rw [g1] at k1; cases k1
 subst hn
 refine (bldString_calls l.b lj.b lj.cap p c s w hs h3 g3 g6 g7 g5 g8).mono ?_
 rintro e w' ⟨rfl, rfl⟩
 have hfz : (w.drew.freeze ⟨lj.b, 0, none⟩ s.length).heap = w.heap.setIfInBounds lj.b (.cells c byteT (0, s.length)) := by
  have hlt := (Array.getElem?_eq_some_iff.1 g3).1
  unfold World.freeze
  rw [if_neg hn0]
  have hdh : w.drew.heap = w.heap := rfl
  apply Array.ext (by simp)
  intro i q1 q2
  rw [Array.getElem_setIfInBounds]
  simp only [hdh, Array.getElem_modify]
  by_cases e : lj.b = i
  ·subst e
   have : w.heap[lj.b] = .cells c byteT (0, 0) := Option.some.inj ((Array.getElem?_eq_getElem hlt).symm.trans g3)
   simp [this]
  ·simp [e]
  ·simpa [hdh] using q1
 have hos : (w.drew.freeze ⟨lj.b, 0, none⟩ s.length).os = w.os ∧ (w.drew.freeze ⟨lj.b, 0, none⟩ s.length).output = w.output ∧ Clk w (w.drew.freeze ⟨lj.b, 0, none⟩ s.length) := by
  unfold World.freeze; rw [if_neg hn0]; exact ⟨rfl, rfl, .inr trivial⟩
 have hdead : ∀ i x, Obs.get [(id, Ob.dead), (j, .dead)] i = some x → x.live = false := by
  intro i x hx
  simp only [Obs.get_cons] at hx
  split at hx
  ·cases hx; rfl
  ·split at hx
   ·cases hx; rfl
   ·simp [Obs.get] at hx
 have hno : ∀ b, ¬ Owned ρ [(id, .dead), (j, .dead)] b := by
  rintro b ⟨i, x, l2, q1, q2, _⟩
  rw [hdead i x q1] at q2; cases q2
 refine ⟨_, ρ, rfl, ⟨RhoLe.refl _, by rw [hfz]; simp, fun b hb ho => ?_, fun b hb => absurd hb (hno b), ⟨fun b hb => by rw [hfz]; simpa using hok.lt b hb, fun i hi => hok.fresh i ?_, fun i x q1 q2 => ?_, fun i j' x x' l1 l2 q1 q2 q3 => ?_⟩, hos⟩, ?_⟩
 ·rw [hfz, Array.getElem?_setIfInBounds, if_neg]
  rintro rfl
  exact ho ⟨j, _, lj, hgj, hlive, g1, rfl⟩
 ·simp only [Obs.get_cons] at hi ⊢
  split at hi
  ·cases hi
  ·split at hi
   ·cases hi
   ·rename_i q1 q2; rw [if_neg q1, if_neg q2]; rfl
 ·rw [hdead i x q1] at q2; cases q2
 ·rw [hdead i x q1] at q3; cases q3
 ·simp only [V]; exact ⟨trivial, hb⟩⟩
end Go.T
