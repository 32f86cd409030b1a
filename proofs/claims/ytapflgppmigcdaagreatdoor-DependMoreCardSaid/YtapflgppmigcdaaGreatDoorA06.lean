/-
  Contracts of the functions that the statement reaches, and the logic in which they are proved (no condition): parts Core39, Core40, Core41, Core42.
-/
import Derived.Test.YtapflgppmigcdaaGreatDoorA05
set_option linter.all false
namespace Go.T
open Go
variable [Noise]
section
variable {P : Program} {T : TypeId → TyI} {A : Prop} {e : Env} {dst : Option Tmp} {ty : TypeId} {pos : String} {aft : Array Edge} {g : Option (Nat × Bool)}
def PStep (P : Program) (A : Prop) (o : Oper) (e : Env) (G : Prop) (K : D → Prop) : Prop := G ∨ ∃ d, (A → ∀ obs, QStep P o e obs d obs) ∧ K d
theorem PStep.of {o : Oper} {G : Prop} {K : D → Prop} {d : D} (h : A → ∀ obs, QStep P o e obs d obs) (k : K d) : PStep P A o e G K := .inr ⟨d, h, k⟩
theorem binI_ok {op : BinOp} {t t' : TypeId} {x y : Operand} {k : IntKind} {n m : Int} {G : Prop} {K : D → Prop} (hx : e.op x = some (.raw (.int k n))) (hy : e.op y = some (.raw (.int k m))) (h : binI A op k n m G K) : PStep P A ⟨dst, .binOp op t x y t', ty, pos, aft, g⟩ e G K := by
 cases op <;> simp only [binI] at h
 case add => exact .of (fun a => q_add hx hy (h.s a)) h.k
 case sub => exact .of (fun a => q_sub hx hy (h.s a)) h.k
 case mul => exact .of (fun a => q_mul hx hy (h.s a)) h.k
 case lss => exact .of (fun _ => q_lss hx hy) h
 case leq => exact .of (fun _ => q_leq hx hy) h
 case gtr => exact .of (fun _ => q_gtr hx hy) h
 case geq => exact .of (fun _ => q_geq hx hy) h
 case eql => exact .of (fun _ => q_eql hx hy) h
 case neq => exact .of (fun _ => q_neq hx hy) h
 all_goals exact .inl h
theorem binS_ok {op : BinOp} {t t' : TypeId} {x y : Operand} {s r : Str} {G : Prop} {K : D → Prop} (hx : e.op x = some (.str s)) (hy : e.op y = some (.str r)) (h : binS A op s r G K) : PStep P A ⟨dst, .binOp op t x y t', ty, pos, aft, g⟩ e G K := by
 cases op <;> simp only [binS] at h
 case add => exact .of (fun a => q_addS hx hy (h.s a) rfl) h.k
 case lss => exact .of (fun _ => q_lssS hx hy) h
 case leq => exact .of (fun _ => q_leqS hx hy) h
 case gtr => exact .of (fun _ => q_gtrS hx hy) h
 case geq => exact .of (fun _ => q_geqS hx hy) h
 case eql => exact .of (fun _ => q_eqlS hx hy) h
 case neq => exact .of (fun _ => q_neqS hx hy) h
 all_goals exact .inl h
theorem binB_ok {op : BinOp} {t t' : TypeId} {x y : Operand} {b c : Bool} {G : Prop} {K : D → Prop} (hu : P.underlying t = some .bool) (hx : e.op x = some (.raw (.bool b))) (hy : e.op y = some (.raw (.bool c))) (h : binB op b c G K) : PStep P A ⟨dst, .binOp op t x y t', ty, pos, aft, g⟩ e G K := by
 cases op <;> simp only [binB] at h
 case eql => exact .of (fun _ => q_eqlB hu hx hy) h
 case neq => exact .of (fun _ => q_neqB hu hx hy) h
 all_goals exact .inl h
theorem binX_ok (hT : TabOK P T) {op : BinOp} {t t' : TypeId} {x y : Operand} {G : Prop} {K : D → Prop} (h : binX T A op t (e.op x) (e.op y) G K) : PStep P A ⟨dst, .binOp op t x y t', ty, pos, aft, g⟩ e G K := by
 unfold binX at h
 split at h
 ·rename_i k n k' m hx hy
  cases hd : decide (k = k') with
  | false => simp only [hd, cond_false] at h; exact .inl h
  | true =>
   simp only [hd, cond_true] at h
   obtain rfl := of_decide_eq_true hd
   exact binI_ok hx hy h
 ·rename_i hx hy; exact binS_ok hx hy h
 ·rename_i hx hy
  split at h
  ·rename_i hu; exact binB_ok ((hT.ty t).u _ hu) hx hy h
  ·exact .inl h
 ·exact .inl h
theorem unX_ok {op : UnOp} {t : TypeId} {x : Operand} {G : Prop} {K : D → Prop} (h : unX op A (e.op x) G K) : PStep P A ⟨dst, .unOp op t x, ty, pos, aft, g⟩ e G K := by
 unfold unX at h
 split at h
 ·rename_i hx; exact .of (fun _ => q_not hx) h
 ·rename_i hx; exact .of (fun a => q_neg hx (h.s a)) h.k
 ·exact .inl h
theorem convX_ok (hT : TabOK P T) {s t : TypeId} {x : Operand} {G : Prop} {K : D → Prop} (h : convX T A s t (e.op x) G K) : PStep P A ⟨dst, .convert s t x, ty, pos, aft, g⟩ e G K := by
 unfold convX at h
 split at h
 ·rename_i hx hs ht; exact .of (fun a => q_conv ((hT.ty s).u _ hs) ((hT.ty t).u _ ht) hx (h.s a)) h.k
 ·rename_i hx hs ht; exact .of (fun _ => q_convS ((hT.ty s).u _ hs) ((hT.ty t).u _ ht) hx) h
 ·exact .inl h
theorem nilX_ok {x : Operand} {G : Prop} {K : D → Prop} (h : nilX (e.op x) G K) : PStep P A ⟨dst, .nilCheck x, ty, pos, aft, g⟩ e G K := by
 unfold nilX at h
 split at h
 ·rename_i hx; exact .of (fun _ => q_nilCheckFn hx) h
 ·rename_i hx; exact .of (fun _ => q_nilCheckBox hx) h
 ·rename_i hx; exact .of (fun _ => q_nilCheckI hx) h
 ·exact .inl h
theorem fieldX_ok (hT : TabOK P T) {t : TypeId} {x : Operand} {f : Nat} {G : Prop} {K : D → Prop} (h : fieldX T t (e.op x) f G K) : PStep P A ⟨dst, .field t x f, ty, pos, aft, g⟩ e G K := by
 unfold fieldX at h
 split at h
 ·rename_i cs fs hx hu
  have hu' := (hT.ty t).u _ hu
  split at h
  ·rename_i fl hfl
   rw [lget_eq] at hfl
   have hf : (fs[f]?).map (fun x => (x.type, x.offset)) = some (fl.type, fl.offset) := by simp [← Array.getElem?_toList, hfl]
   split at h
   ·rename_i ha
    split at h
    ·rename_i d hd
     rw [lget_eq] at hd
     exact .of (fun _ => q_field1 fl.type fl.offset hu' ((hT.ty _).agg _ ha) hf hx hd) h
    ·exact .inl h
   ·rename_i n ha hs
    obtain ⟨h1, h2⟩ := dropK_eq _ _ _ h
    obtain ⟨h3, h4⟩ := takeK_eq _ _ _ h2
    exact .of (fun _ => q_fieldA fl.type fl.offset hu' ((hT.ty _).agg _ ha) ((hT.ty _).sz _ hs) hf hx (by simp at h3; omega) rfl) h4
   ·exact .inl h
  ·exact .inl h
 ·exact .inl h
theorem fieldAX_ok (hT : TabOK P T) {t : TypeId} {x : Operand} {f : Nat} {G : Prop} {K : D → Prop} (h : fieldAX T t (e.op x) f G K) : PStep P A ⟨dst, .fieldAddr t x f, ty, pos, aft, g⟩ e G K := by
 unfold fieldAX at h
 split at h
 ·rename_i id off fs hx hu
  split at h
  ·rename_i fl hfl
   rw [lget_eq] at hfl
   have hf : (fs[f]?).map (fun x => (x.type, x.offset)) = some (fl.type, fl.offset) := by simp [← Array.getElem?_toList, hfl]
   split at h
   ·rename_i hs; exact .of (fun _ => q_fieldB fl.type fl.offset ((hT.ty t).u _ hu) ((hT.ty _).sz _ hs) hf hx) h
   ·exact .inl h
  ·exact .inl h
 ·rename_i cs fs hx hu
  split at h
  ·rename_i fl hfl
   rw [lget_eq] at hfl
   have hf : (fs[f]?).map (fun x => (x.type, x.offset)) = some (fl.type, fl.offset) := by simp [← Array.getElem?_toList, hfl]
   split at h
   ·rename_i hs
    obtain ⟨_, h2⟩ := dropK_eq _ _ _ h
    exact .of (fun _ => q_fieldI fl.type fl.offset ((hT.ty t).u _ hu) ((hT.ty _).sz _ hs) hf hx rfl) h2
   ·exact .inl h
  ·exact .inl h
 ·exact .inl h
theorem indexX_ok (hT : TabOK P T) {t : TypeId} {x i : Operand} {G : Prop} {K : D → Prop} (h : indexX T A t (e.op x) (e.op i) G K) : PStep P A ⟨dst, .indexAddr t x i, ty, pos, aft, g⟩ e G K := by
 unfold indexX at h
 split at h
 ·rename_i sz full rows k n el hx hi hu
  split at h
  ·rename_i m hs
   cases hb : Nat.beq m sz with
   | false => simp only [hb, cond_false] at h; exact .inl h
   | true =>
    simp only [hb, cond_true] at h
    obtain rfl := Nat.eq_of_beq_eq_true hb
    obtain ⟨r, h1, h2⟩ := h.out
    exact .of (fun a => qIi ((hT.ty t).u _ hu) ((hT.ty _).sz _ hs) hx hi (h1 a).1 (h1 a).2) h2
  ·exact .inl h
 ·exact .inl h
theorem indexSX_ok (hT : TabOK P T) {t : TypeId} {x i : Operand} {G : Prop} {K : D → Prop} (h : indexSX T A t (e.op x) (e.op i) G K) : PStep P A ⟨dst, .index t x i, ty, pos, aft, g⟩ e G K := by
 unfold indexSX at h
 split at h
 ·rename_i hx hi hu
  obtain ⟨r, h1, h2⟩ := h.out
  exact .of (fun a => q_indexS ((hT.ty t).u _ hu) hx hi (h1 a).1 (h1 a).2) h2
 ·exact .inl h
theorem lenX_ok (hT : TabOK P T) {t : TypeId} {x : Operand} {G : Prop} {K : D → Prop} (h : lenX T t (e.op x) G K) : PStep P A ⟨dst, .call ⟨.builtin .len, #[x], #[t]⟩, ty, pos, aft, g⟩ e G K := by
 unfold lenX at h
 split at h
 ·rename_i hx hu; exact .of (fun _ => q_lenS ((hT.ty t).u _ hu) hx) h
 ·rename_i hx hu; exact .of (fun _ => qLe ((hT.ty t).u _ hu) hx) h
 ·rename_i hx hu; exact .of (fun _ => q_lenG ((hT.ty t).u _ hu) hx) h
 ·rename_i hx hu; exact .of (fun _ => q_lenNil ((hT.ty t).u _ hu) hx) h
 ·exact .inl h
theorem mmX_ok {x y : Operand} {tys : Array TypeId} {mx : Bool} {G : Prop} {K : D → Prop} (h : mmX mx (e.op x) (e.op y) G K) : PStep P A ⟨dst, .call ⟨.builtin (bif mx then .max else .min), #[x, y], tys⟩, ty, pos, aft, g⟩ e G K := by
 unfold mmX at h
 split at h
 ·rename_i k n k' m hx hy
  cases hd : decide (k = k') with
  | false => simp only [hd, cond_false] at h; exact .inl h
  | true =>
   simp only [hd, cond_true] at h
   obtain rfl := of_decide_eq_true hd
   cases mx with
   | true => exact .of (fun _ => q_max hx hy rfl) h
   | false => exact .of (fun _ => q_min hx hy rfl) h
 ·exact .inl h
theorem callX_ok (hT : TabOK P T) {b : Builtin} {args : Array Operand} {tys : Array TypeId} {G : Prop} {K : D → Prop} (h : callX T b args.toList tys.toList e G K) : PStep P A ⟨dst, .call ⟨.builtin b, args, tys⟩, ty, pos, aft, g⟩ e G K := by
 obtain ⟨args⟩ := args; obtain ⟨tys⟩ := tys
 simp only at h
 unfold callX at h
 split at h
 ·exact lenX_ok hT h
 ·exact mmX_ok (mx := true) h
 ·exact mmX_ok (mx := false) h
 ·exact .inl h
theorem q_buildA {obs : Obs} {t el : TypeId} {n sz : Nat} {z : Value} {xs : List (Nat × Operand)} {pds : List (Nat × D)} {cs : List D} (hu : P.underlying t = some (.array n el)) (hz : ∀ w, (zeroValue t).run P w = .ok z w)
  (hs : ∀ w, (sizeOf el).run P w = .ok sz w) (hx : e.partsD xs = some pds) (hf : fillD (fun i => some (i * sz, sz)) (z.cells.toList.map rawD) pds = some cs) :
  QStep P ⟨dst, .build t xs.toArray, ty, pos, aft, g⟩ e obs (.agg cs) obs :=
 .val fun O ρ a w _ hv => by
  obtain ⟨h1, h2⟩ := partsD_V (a := a) xs pds hx (fun x hx d' h => hv x (by simpa [Op.operands] using hx) d' h)
  obtain ⟨c', h3, h4⟩ := fill_V (fun i => some (i * sz, sz)) pds _ _ z.cells cs h1 h2 (Vs.raws _) hf
  refine ⟨.agg c', ?_, ?_⟩
  ·simp [execOp, Instr.build, hz, run_und hu, hs, h3]
  ·simp only [V]; exact ⟨_, rfl, h4⟩
theorem buildX_ok (hT : TabOK P T) {t : TypeId} {ps : Array (Nat × Operand)} {G : Prop} {K : D → Prop} (h : buildX T t ps.toList e G K) : PStep P A ⟨dst, .build t ps, ty, pos, aft, g⟩ e G K := by
 obtain ⟨ps⟩ := ps
 unfold buildX at h
 split at h
 ·rename_i fs ds pl hu hz hp
  cases hb : pl.all (fun x => !Nat.beq x.2 0) with
  | false => simp only [hb, cond_false] at h; exact .inl h
  | true =>
   simp only [hb, cond_true] at h
   obtain ⟨pds, h1, h2⟩ := partsK_eq _ _ _ h
   obtain ⟨cs, h3, h4⟩ := fillK_eq pl hb _ _ _ h2
   obtain ⟨z, h5, rfl⟩ := (hT.ty t).zc _ hz
   have hu' := (hT.ty t).u _ hu
   exact .of (fun _ => q_build (xs := ps) hu' h5 ((hT.ty t).pl _ hp _ hu') h1 h3) h4
 ·rename_i _ n el ds hu hz
  split at h
  ·rename_i sz hs
   cases hb : Nat.beq sz 0 with
   | true => simp only [hb, cond_true] at h; exact .inl h
   | false =>
    simp only [hb, cond_false] at h
    obtain ⟨pds, h1, h2⟩ := partsK_eq _ _ _ h
    obtain ⟨cs, h3, h4⟩ := fillAK_eq sz (by intro e; subst e; simp at hb) _ _ _ h2
    obtain ⟨z, h5, rfl⟩ := (hT.ty t).zc _ hz
    exact .of (fun _ _ => q_buildA (xs := ps) ((hT.ty t).u _ hu) h5 ((hT.ty el).sz _ hs) h1 h3) h4
  ·exact .inl h
 ·exact .inl h
end
section
variable {P : Program} {T : TypeId → TyI} {A : Prop} {e : Env} {dst : Option Tmp} {ty : TypeId} {pos : String} {aft : Array Edge} {g : Option (Nat × Bool)} {obs : Obs}
theorem loadX_ok (hT : TabOK P T) {t : TypeId} {x : Operand} {K : KK} (h : loadX T t (e.op x) obs (Gen P A ⟨dst, .load t x, ty, pos, aft, g⟩ e obs K) fun k d => K k d obs) : Gen P A ⟨dst, .load t x, ty, pos, aft, g⟩ e obs K := by
 unfold loadX at h
 split at h
 ·rename_i cs hx
  split at h
  ·rename_i ha
   cases cs with
   | nil => exact h
   | cons d cs => exact gP (fun _ => qLo ((hT.ty t).agg _ ha) hx) h
  ·rename_i n ha hs
   cases hb : lenB cs n with
   | true => simp only [hb, cond_true] at h; exact gP (fun _ => q_loadIA ((hT.ty t).agg _ ha) ((hT.ty t).sz _ hs) hx (lenB_eq _ _ hb)) h
   | false =>
    simp only [hb, cond_false] at h
    obtain ⟨h1, h2⟩ := takeK_eq _ _ _ h
    exact gP (fun _ => q_loadIT ((hT.ty t).agg _ ha) ((hT.ty t).sz _ hs) hx h1 rfl) h2
  ·exact h
 ·rename_i id off hx
  split at h
  ·rename_i ds ho
   split at h
   ·rename_i ha
    split at h
    ·rename_i d hd; rw [lget_eq] at hd; exact gR (fun _ => q_load1 ((hT.ty t).agg _ ha) hx ho hd) h
    ·exact h
   ·rename_i n ha hs
    cases hb : (Nat.beq off 0 && lenB ds n) with
    | true =>
     simp only [hb, cond_true] at h
     simp only [Bool.and_eq_true, Nat.beq_eq] at hb
     obtain ⟨rfl, hb⟩ := hb
     exact gR (fun _ => q_loadW ((hT.ty t).agg _ ha) ((hT.ty t).sz _ hs) hx ho (lenB_eq _ _ hb)) h
    | false =>
     simp only [hb, cond_false] at h
     obtain ⟨h1, h2⟩ := dropK_eq _ _ _ h
     obtain ⟨h3, h4⟩ := takeK_eq _ _ _ h2
     exact gR (fun _ => q_loadA ((hT.ty t).agg _ ha) ((hT.ty t).sz _ hs) hx ho (by simp at h3; omega) rfl) h4
   ·exact h
  ·exact h
 ·exact h
theorem storeX_ok (hT : TabOK P T) {t : TypeId} {x y : Operand} {K : KK} (h : storeX T t (e.op x) (e.op y) obs (Gen P A ⟨dst, .store t x y, ty, pos, aft, g⟩ e obs K) fun d o => K .w d o) : Gen P A ⟨dst, .store t x y, ty, pos, aft, g⟩ e obs K := by
 unfold storeX at h
 split at h
 ·rename_i id off d hx hy
  split at h
  ·rename_i ds ho
   split at h
   ·rename_i n hs
    cases hb : (lenB d.cellsL n && d.okc && !Nat.beq n 0) with
    | false => simp only [hb, cond_false] at h; exact h
    | true =>
     simp only [hb, cond_true] at h
     simp only [Bool.and_eq_true, Bool.not_eq_true'] at hb
     obtain ⟨⟨hl, hok⟩, h0⟩ := hb
     have hlen := lenB_eq _ _ hl
     obtain ⟨h1, h2⟩ := setLK_eq _ _ _ _ h
     have h3 := obsSetK_eq _ _ _ _ h2
     have hne : n ≠ 0 := by intro e; subst e; simp at h0
     have hle := h1 (okc_ne hlen hne)
     have hs' := (hT.ty t).sz _ hs
     cases d with
     | agg cs => exact gW (fun _ => q_storeA hs' hx hy hlen (okc_one hok) ho (by simp only [D.cellsL] at hle hlen; omega)) h3
     | _ =>
      simp only [D.cellsL, List.length_singleton] at hlen hle
      subst hlen
      exact gW (fun _ => q_store1 hs' hx hy (by simpa [D.okc] using hok) ho (by omega)) h3
   ·exact h
  ·exact h
 ·exact h
theorem boxX_ok {t : TypeId} {x : Operand} {K : KK} (h : boxX (e.op x) obs (Gen P A ⟨dst, .box t x, ty, pos, aft, g⟩ e obs K) fun d o => K .w d o) : Gen P A ⟨dst, .box t x, ty, pos, aft, g⟩ e obs K := by
 unfold boxX at h
 split at h
 ·rename_i cs hx
  obtain ⟨id, h1, h2⟩ := freshK_eq _ _ _ h
  exact gW (fun _ => q_boxA id hx h1) h2
 ·rename_i d _ hx
  cases hb : d.one with
  | false => simp only [hb, cond_false] at h; exact h
  | true =>
   simp only [hb, cond_true] at h
   obtain ⟨id, h1, h2⟩ := freshK_eq _ _ _ h
   exact gW (fun _ => q_box1 id hx hb h1) h2
 ·exact h
end
end Go.T
namespace Go.T
open Go
variable [Noise]
structure GOK (ops : List Oper) (E : Env) (x : GE) : Prop where
 dst : (ops.toArray[x.g]?).bind (·.dst) = some x.t
 val : ∃ pc p, E.get x.t = some (bif pc then .raw (.bool p) else .raw undef) ∧ x.c = (pc && (bif x.b then p else !p))
 env : x.c = true → Lq x.env E
 ws : ∀ t d, x.ws.get t = some d → d = .any ∨ E.get t = some (bif x.c then d else .raw undef)
theorem GOK.guard {ops : List Oper} {E : Env} {x : GE} (h : GOK ops E x) {p : Bool} (he : E.get x.t = some (.raw (.bool p))) : x.c = (bif x.b then p else !p) := by
 obtain ⟨pc, q, h1, h2⟩ := h.val
 rw [he] at h1
 cases pc with
 | false => simp [undef] at h1
 | true => simp only [cond_true, Option.some.injEq, D.raw.injEq, Value.bool.injEq] at h1; subst h1; simpa using h2
theorem GOK.uniq {ops : List Oper} {E : Env} {x y : GE} (h : GOK ops E x) (h' : GOK ops E y) (hg : x.g = y.g) (hb : x.b = y.b) : x.c = y.c := by
 have ht : x.t = y.t := by
  have := h.dst
  rw [hg, h'.dst] at this
  exact (Option.some.inj this).symm
 obtain ⟨pc, p, h1, h2⟩ := h.val
 obtain ⟨pc', p', h3, h4⟩ := h'.val
 rw [ht, h3] at h1
 cases pc <;> cases pc' <;> simp_all [undef]
theorem findT_mem : ∀ {gs : List GE} {t : Nat} {b : Bool} {z : GE}, findT gs t b = some z → z ∈ gs ∧ z.t = t ∧ z.b = b
 | [], t, b, z, h => by simp [findT] at h
 | x :: r, t, b, z, h => by
  simp only [findT] at h
  cases hb : (Nat.beq x.t t && eqB x.b b) with
  | true =>
   simp only [hb, cond_true, Option.some.injEq] at h; subst h
   simp only [Bool.and_eq_true, Nat.beq_eq] at hb
   exact ⟨List.mem_cons_self, hb.1, eqB_eq hb.2⟩
  | false =>
   simp only [hb, cond_false] at h
   obtain ⟨h1, h2⟩ := findT_mem h
   exact ⟨List.mem_cons_of_mem _ h1, h2⟩
theorem pickX_ok {P : Program} {A : Prop} {e E : Env} {dst : Option Tmp} {ty : TypeId} {pos : String} {aft : Array Edge} {g : Option (Nat × Bool)} {ops : List Oper} {gs : List GE} {c x y : Operand} {G : Prop} {K : D → Prop} (hl : A → Lq e E) (hg : ∀ z ∈ gs, GOK ops E z) (h : pickX gs c x y e G K) : PStep P A ⟨dst, .pick c x y, ty, pos, aft, g⟩ E G K := by
 unfold pickX at h
 split at h
 ·rename_i b tc hc
  have hcE : A → E.get tc = some (.raw (.bool b)) := fun a => by
   rcases hl a tc _ hc with h | h
   ·cases h
   ·exact h
  split at h
  ·rename_i tx
   split at h
   ·rename_i z hz
    obtain ⟨h1, rfl, h3⟩ := findT_mem hz
    split at h
    ·rename_i q hq
     refine .of (fun a => ?_) h
     have hz := (hg z h1).guard (hcE a)
     rw [h3, cond_true] at hz
     have hw := ((hg z h1).ws _ _ hq).resolve_left (by simp)
     rw [hz] at hw
     exact q_and (c := .tmp z.t) (x := .tmp tx) (hcE a) hw
    ·exact .inl h
   ·exact .inl h
  ·rename_i tx
   split at h
   ·rename_i z hz
    obtain ⟨h1, rfl, h3⟩ := findT_mem hz
    split at h
    ·rename_i q hq
     refine .of (fun a => ?_) h
     have hz := (hg z h1).guard (hcE a)
     rw [h3, cond_false] at hz
     have hw := ((hg z h1).ws _ _ hq).resolve_left (by simp)
     rw [hz] at hw
     exact q_or (c := .tmp z.t) (y := .tmp tx) (hcE a) hw
    ·exact .inl h
   ·exact .inl h
  ·exact .inl h
 ·exact .inl h
theorem PStep.snd {P : Program} {A : Prop} {o : Oper} {e : Env} {obs : Obs} {K : KK} (h : PStep P A o e (Gen P A o e obs K) fun d => K .p d obs) : Gen P A o e obs K := by
 rcases h with h | ⟨d, h1, h2⟩
 ·exact h
 ·exact gP h1 h2
theorem Gen.lq {P : Program} {A : Prop} {o : Oper} {e E : Env} {obs : Obs} {K : KK} (hl : A → Lq e E) (h : Gen P A o e obs K) : Gen P A o E obs K := by
 obtain ⟨k, d, obs', h1, h2⟩ := h.out
 exact ⟨k, d, obs', fun a => (h1 a).lq (hl a), h2⟩
theorem opX_ok {P : Program} {T : TypeId → TyI} (hT : TabOK P T) {A : Prop} {ops : List Oper} {gs : List GE} {o : Oper} {e E : Env} {obs : Obs} {K : KK} (hl : A → Lq e E) (hg : ∀ z ∈ gs, GOK ops E z) (h : opX T P A gs o e obs K) : Gen P A o E obs K := by
 obtain ⟨dst, op, ty, pos, aft, g⟩ := o
 unfold opX at h
 split at h
 ·rename_i x ho; cases ho
  refine Gen.lq hl ?_
  split at h
  ·rename_i d hx; exact gP (fun _ => qMv hx) h
  ·exact gP (fun _ => q_moveAny) h
 ·rename_i x ho; cases ho
  refine Gen.lq hl ?_
  split at h
  ·rename_i d hx; exact gP (fun _ => q_assign hx) h
  ·exact h
 ·rename_i ho; cases ho; exact Gen.lq hl (binX_ok hT h).snd
 ·rename_i ho; cases ho; exact Gen.lq hl (unX_ok h).snd
 ·rename_i ho; cases ho; exact Gen.lq hl (convX_ok hT h).snd
 ·rename_i ho; cases ho
  refine Gen.lq hl ?_
  split at h
  ·rename_i ds hx
   split at h
   ·rename_i d hd; rw [lget_eq] at hd; exact gP (fun _ => qEx hx hd) h
   ·exact h
  ·exact h
 ·rename_i fn xs ys ho; cases ho
  refine Gen.lq hl ?_
  obtain ⟨as, h1, h2⟩ := opsK_eq _ _ _ h
  obtain ⟨bs, h3, h4⟩ := opsK_eq _ _ _ h2
  exact gP (fun _ => by simpa using q_makeFunc (xs := xs.toList) (ys := ys.toList) h1 h3) h4
 ·rename_i ho; cases ho; exact Gen.lq hl (nilX_ok h).snd
 ·rename_i ho; cases ho; exact Gen.lq hl (loadX_ok hT h)
 ·rename_i ho; cases ho; exact Gen.lq hl (storeX_ok hT h)
 ·rename_i ho; cases ho; exact Gen.lq hl (fieldX_ok hT h).snd
 ·rename_i ho; cases ho; exact Gen.lq hl (fieldAX_ok hT h).snd
 ·rename_i ho; cases ho; exact Gen.lq hl (indexX_ok hT h).snd
 ·rename_i ho; cases ho; exact Gen.lq hl (indexSX_ok hT h).snd
 ·rename_i t ho; cases ho
  refine Gen.lq hl ?_
  split at h
  ·rename_i ds hz
   obtain ⟨z, h5, rfl⟩ := (hT.ty t).zc _ hz
   obtain ⟨id, h1, h2⟩ := freshK_eq _ _ _ h
   exact gW (fun _ => q_alloc id h5 h1) h2
  ·exact h
 ·rename_i ho; cases ho; exact Gen.lq hl (boxX_ok h)
 ·rename_i ho; cases ho; exact Gen.lq hl (buildX_ok hT h).snd
 ·rename_i ho; cases ho
  rcases pickX_ok hl hg h with h | ⟨d, h1, h2⟩
  ·exact Gen.lq hl h
  ·exact gP h1 h2
 ·rename_i ho; cases ho; exact Gen.lq hl (callX_ok hT h).snd
 ·exact Gen.lq hl h
def findG : List GE → Nat → Bool → Option GE
 | [], _, _ => none
 | x :: r, g, b => bif Nat.beq x.g g && eqB x.b b then some x else findG r g b
theorem findG_mem : ∀ {gs : List GE} {t : Nat} {b : Bool} {z : GE}, findG gs t b = some z → z ∈ gs ∧ z.g = t ∧ z.b = b
 | [], t, b, z, h => by simp [findG] at h
 | x :: r, t, b, z, h => by
  simp only [findG] at h
  cases hb : (Nat.beq x.g t && eqB x.b b) with
  | true =>
   simp only [hb, cond_true, Option.some.injEq] at h; subst h
   simp only [Bool.and_eq_true, Nat.beq_eq] at hb
   exact ⟨List.mem_cons_self, hb.1, eqB_eq hb.2⟩
  | false =>
   simp only [hb, cond_false] at h
   obtain ⟨h1, h2⟩ := findG_mem h
   exact ⟨List.mem_cons_of_mem _ h1, h2⟩
def addG (gs : List GE) (k : List GE → GE → Prop) (x : GE) : Prop := k (x :: gs) x
def wants : Bool → Bool → Bool
 | true, p => p
 | false, p => !p
def withG (ops : List Oper) (gs : List GE) (e : Env) (g : Nat) (b : Bool) (k : List GE → GE → Prop) : Prop :=
 match findG gs g b with
 | some x => k gs x
 | none => match lget ops g with
  | some og => match og.dst, og.guard with
   | some t, none => match e.get t with
    | some (.raw (.bool p)) => addG gs k ⟨g, b, t, wants b p, e, []⟩
    | _ => False
   | some t, some (g', b') => match findG gs g' b' with
    | some y => match y.ws.get t with
     | some (.raw (.bool p)) => addG gs k ⟨g, b, t, y.c && wants b p, y.env, []⟩
     | _ => False
    | none => False
   | _, _ => False
  | none => False
theorem wants_eq (b p : Bool) : wants b p = (bif b then p else !p) := by cases b <;> rfl
theorem withG_ok {ops : List Oper} {gs : List GE} {e E : Env} {g : Nat} {b : Bool} {k : List GE → GE → Prop} (hl : Lq e E) (hg : ∀ z ∈ gs, GOK ops E z) (h : withG ops gs e g b k) : ∃ gs' x, (∀ z ∈ gs', GOK ops E z) ∧ x ∈ gs' ∧ x.g = g ∧ x.b = b ∧ k gs' x := by
 unfold withG at h
 split at h
 ·rename_i x hx
  obtain ⟨h1, h2, h3⟩ := findG_mem hx
  exact ⟨gs, x, hg, h1, h2, h3, h⟩
 ·split at h
  ·rename_i og ho
   rw [lget_eq] at ho
   have new : ∀ x : GE, GOK ops E x → x.g = g → x.b = b → addG gs k x → ∃ gs' x, (∀ z ∈ gs', GOK ops E z) ∧ x ∈ gs' ∧ x.g = g ∧ x.b = b ∧ k gs' x := by
    intro x hx h1 h2 h3
    refine ⟨x :: gs, x, fun z hz => ?_, List.mem_cons_self, h1, h2, h3⟩
    rcases List.mem_cons.1 hz with rfl | hz
    ·exact hx
    ·exact hg z hz
   split at h
   ·rename_i t hd _
    split at h
    ·rename_i p hp
     refine new _ ⟨?_, ⟨true, p, ?_, ?_⟩, fun _ => hl, fun t d h => by simp [Env.get] at h⟩ rfl rfl h
     ·simp [ho, hd]
     ·exact (hl t _ hp).resolve_left (by simp)
     ·simp [wants_eq]
    ·exact h.elim
   ·rename_i t g' b' hd _
    split at h
    ·rename_i y hy
     obtain ⟨h1, h2, h3⟩ := findG_mem hy
     split at h
     ·rename_i p hp
      refine new _ ⟨?_, ⟨y.c, p, ?_, ?_⟩, fun hc => ?_, fun t d h => by simp [Env.get] at h⟩ rfl rfl h
      ·simp [ho, hd]
      ·exact ((hg y h1).ws _ _ hp).resolve_left (by simp)
      ·simp [wants_eq]
      ·simp only [Bool.and_eq_true] at hc
       exact (hg y h1).env hc.1
     ·exact h.elim
    ·exact h.elim
   ·exact h.elim
  ·exact h.elim
def putGK (t : Nat) (d : D) : List GE → (List GE → Prop) → Prop
 | [], k => k []
 | ⟨g, b, t', c, env, ws⟩ :: r, k => bif Nat.beq t' t then putGK t d r k else putGK t d r fun r' => k (⟨g, b, t', c, (t, d) :: env, (t, .any) :: ws⟩ :: r')
theorem putGK_ok {ops : List Oper} {E : Env} {t : Nat} {d : D} : ∀ {gs : List GE} {k : List GE → Prop}, (∀ z ∈ gs, GOK ops E z) → putGK t d gs k → ∃ gs', (∀ z ∈ gs', GOK ops ((t, d) :: E) z) ∧ k gs'
 | [], k, _, h => ⟨[], by simp, h⟩
 | ⟨g, b, t', c, env, ws⟩ :: r, k, hg, h => by
  simp only [putGK] at h
  cases hb : Nat.beq t' t with
  | true => simp only [hb, cond_true] at h; exact putGK_ok (fun z hz => hg z (List.mem_cons_of_mem _ hz)) h
  | false =>
   simp only [hb, cond_false] at h
   have hne : ¬ t = t' := by rintro rfl; simp at hb
   obtain ⟨gs', h1, h2⟩ := putGK_ok (fun z hz => hg z (List.mem_cons_of_mem _ hz)) h
   refine ⟨_, fun z hz => ?_, h2⟩
   rcases List.mem_cons.1 hz with rfl | hz
   ·have h0 := hg _ List.mem_cons_self
    obtain ⟨pc, p, h3, h4⟩ := h0.val
    refine ⟨h0.dst, ⟨pc, p, ?_, h4⟩, fun hc => (h0.env hc).put t d, fun s x hx => ?_⟩
    ·rw [Env.get_cons, if_neg hne]; exact h3
    ·rw [Env.get_cons] at hx ⊢
     by_cases e : t = s
     ·rw [if_pos e] at hx; cases hx; exact .inl rfl
     ·rw [if_neg e] at hx ⊢; exact h0.ws s x hx
   ·exact h1 z hz
def putHK (g0 : Nat) (b0 : Bool) (t : Nat) (d : D) : List GE → (List GE → Prop) → Prop
 | [], k => k []
 | ⟨g, b, t', c, env, ws⟩ :: r, k => bif Nat.beq t' t then putHK g0 b0 t d r k else bif Nat.beq g g0 && eqB b b0 then putHK g0 b0 t d r fun r' => k (⟨g, b, t', c, (t, d) :: env, (t, d) :: ws⟩ :: r')
   else putHK g0 b0 t d r fun r' => k (⟨g, b, t', c, (t, .any) :: env, (t, .any) :: ws⟩ :: r')
theorem putHK_ok {ops : List Oper} {E : Env} {t : Nat} {d : D} {x : GE} (hx : GOK ops E x) : ∀ {gs : List GE} {k : List GE → Prop}, (∀ z ∈ gs, GOK ops E z) → putHK x.g x.b t d gs k → ∃ gs', (∀ z ∈ gs', GOK ops ((t, bif x.c then d else .raw undef) :: E) z) ∧ k gs'
 | [], k, _, h => ⟨[], by simp, h⟩
 | ⟨g, b, t', c, env, ws⟩ :: r, k, hg, h => by
  simp only [putHK] at h
  cases hb : Nat.beq t' t with
  | true => simp only [hb, cond_true] at h; exact putHK_ok hx (fun z hz => hg z (List.mem_cons_of_mem _ hz)) h
  | false =>
   simp only [hb, cond_false] at h
   have hne : ¬ t = t' := by rintro rfl; simp at hb
   have h0 := hg _ List.mem_cons_self
   obtain ⟨pc, p, h3, h4⟩ := h0.val
   cases hk : (Nat.beq g x.g && eqB b x.b) with
   | true =>
    simp only [hk, cond_true] at h
    simp only [Bool.and_eq_true, Nat.beq_eq] at hk
    have hc : x.c = c := hx.uniq h0 hk.1.symm (eqB_eq hk.2).symm
    obtain ⟨gs', h1, h2⟩ := putHK_ok hx (fun z hz => hg z (List.mem_cons_of_mem _ hz)) h
    refine ⟨_, fun z hz => ?_, h2⟩
    rcases List.mem_cons.1 hz with rfl | hz
    ·refine ⟨h0.dst, ⟨pc, p, ?_, h4⟩, fun hc' => ?_, fun s y hy => ?_⟩
     ·rw [Env.get_cons, if_neg hne]; exact h3
     ·have : x.c = true := hc.trans hc'
      rw [this, cond_true]; exact (h0.env hc').put t d
     ·rw [Env.get_cons] at hy ⊢
      by_cases e : t = s
      ·rw [if_pos e] at hy ⊢; cases hy; exact .inr (by rw [hc])
      ·rw [if_neg e] at hy ⊢; exact h0.ws s y hy
    ·exact h1 z hz
   | false =>
    simp only [hk, cond_false] at h
    obtain ⟨gs', h1, h2⟩ := putHK_ok hx (fun z hz => hg z (List.mem_cons_of_mem _ hz)) h
    refine ⟨_, fun z hz => ?_, h2⟩
    rcases List.mem_cons.1 hz with rfl | hz
    ·refine ⟨h0.dst, ⟨pc, p, ?_, h4⟩, fun hc' => (h0.env hc').putAny t _, fun s y hy => ?_⟩
     ·rw [Env.get_cons, if_neg hne]; exact h3
     ·rw [Env.get_cons] at hy ⊢
      by_cases e : t = s
      ·rw [if_pos e] at hy; cases hy; exact .inl rfl
      ·rw [if_neg e] at hy ⊢; exact h0.ws s y hy
    ·exact h1 z hz
theorem rev_cons (k : Kind) (ks ks' : List Kind) : ks'.reverse ++ (k :: ks) = (k :: ks').reverse ++ ks := by simp
theorem wants_true {b p : Bool} (h : (bif b then p else !p) = true) : p = b := by cases b <;> cases p <;> first | rfl | cases h
theorem wants_false {b p : Bool} (h : (bif b then p else !p) = false) : p = !b := by cases b <;> cases p <;> first | rfl | cases h
theorem GOK.on {ops : List Oper} {E : Env} {x : GE} (h : GOK ops E x) {o : Oper} (ho : o.guard = some (x.g, x.b)) (hc : x.c = true) : On ops.toArray E o := by
 obtain ⟨pc, p, h1, h2⟩ := h.val
 rw [hc] at h2
 cases pc with
 | false => cases h2
 | true => exact on_of ho h.dst h1 (wants_true h2.symm)
theorem GOK.off {ops : List Oper} {E : Env} {x : GE} (h : GOK ops E x) {o : Oper} (ho : o.guard = some (x.g, x.b)) (hc : x.c = false) : Off ops.toArray E o := by
 obtain ⟨pc, p, h1, h2⟩ := h.val
 rw [hc] at h2
 cases pc with
 | false => exact off_un ho h.dst h1
 | true => exact off_of ho h.dst h1 (wants_false h2.symm)
end Go.T
namespace Go.T
open Go
variable [Noise]
theorem StR.lq {F : Fr} {C : Ctx} {e E : Env} {obs : Obs} {a : Act} {w : World} {ρ : Rho} (hl : Lq e E) (h : StR F C E obs a w ρ) : StR F C e obs a w ρ :=
 ⟨h.keep, h.tr, fun t d hd => by
  rcases hl t d hd with rfl | hd
  ·simp [V]
  ·exact h.env t d hd, h.size, h.marks, h.rd, h.yl, h.gl⟩
theorem WP.weakQ {P : Program} {F : Fr} {c : Code} {Q Q' : Exit → Env → Obs → Prop} {env : Env} {obs : Obs} (h : WP P F c Q env obs) (hq : ∀ x E o, Q x E o → ∃ e, Lq e E ∧ Q' x e o) : WP P F c Q' env obs :=
 ⟨fun C a w hs => wpIn_mono (h.out C a w hs) fun x a' w' ⟨E, o, h1, ρ, h2⟩ => by
  obtain ⟨e, h3, h4⟩ := hq x E o h1
  exact ⟨e, o, h4, ρ, h2.lq h3⟩⟩
theorem DerK.pull {P : Program} {N : Nat} {ops : Array Oper} {S : Prop} {K : Env → Obs → Prop} {l : List Oper} {ks : List Kind} {env : Env} {obs : Obs} (h : DerK P N ops K l ks env obs) (hs : ∀ e o, K e o → S) : S := by
 induction h with
 | nil h => exact hs _ _ h
 | p _ _ _ _ ih => exact ih
 | r _ _ _ _ ih => exact ih
 | w _ _ _ _ ih => exact ih
 | off _ _ _ ih => exact ih
def stopB : List Nat → Nat → Bool
 | [], _ => false
 | s :: r, i => bif Nat.beq s i then true else stopB r i
structure Ord (ops : Array Oper) (ks : List Kind) (K : Prop) : Prop where
 ok : orderOK ops ks = true
 k : K
theorem ord {ops : Array Oper} {ks : List Kind} {K : Prop} (k : K) (h : orderOK ops ks = true := by decide +kernel) : Ord ops ks K := ⟨h, k⟩
structure Brc (b : Bool) (A B : Prop) : Prop where
 t : b = true → A
 f : b = false → B
inductive S where
 | code (cs : List Code) (fr : List (Nat × List Code)) (e : Env) (obs : Obs)
 | reg (ops : Array Oper) (dr : Bool) (l : List Oper) (ks : List Kind) (gs : List GE) (e : Env) (cs : List Code) (fr : List (Nat × List Code)) (obs : Obs)
def frQ (P : Program) (F : Fr) (Q : Exit → Env → Obs → Prop) : List (Nat × List Code) → Exit → Env → Obs → Prop
 | [] => Q
 | (id, cs) :: fr => bq id (Run P F cs (frQ P F Q fr)) (frQ P F Q fr)
def outOf : List (Nat × List Code) → Nat → Option (List Code × List (Nat × List Code))
 | [], _ => none
 | (id, cs) :: fr, i => bif Nat.beq i id then some (cs, fr) else outOf fr i
def goS (T : TypeId → TyI) (P : Program) (F : Fr) (stop : List Nat) (Q : Exit → Env → Obs → Prop) : Nat → S → Prop
 | 0, .code cs fr e obs => Run P F cs (frQ P F Q fr) e obs
 | 0, .reg .. => False
 | n + 1, .code cs fr e obs => match cs with
  | [] => match fr with
   | [] => Q .normal e obs
   | (_, cs) :: fr => goS T P F stop Q n (.code cs fr e obs)
  | c :: cs => match c with
   | .seq a b => goS T P F stop Q n (.code (a :: b :: cs) fr e obs)
   | .skip => goS T P F stop Q n (.code cs fr e obs)
   | .block id b => goS T P F stop Q n (.code [b] ((id, cs) :: fr) e obs)
   | .exit id => match outOf fr id with
    | some (cs, fr) => goS T P F stop Q n (.code cs fr e obs)
    | none => Q (.exit id) e obs
   | .ret => bif stopB stop 99999 then Run P F (.ret :: cs) (frQ P F Q fr) e obs else Q .ret e obs
   | .cond x a b => match e.op x with
    | some (.raw (.bool v)) => Brc v (goS T P F stop Q n (.code (a :: cs) fr e obs)) (goS T P F stop Q n (.code (b :: cs) fr e obs))
    | _ => Run P F (.cond x a b :: cs) (frQ P F Q fr) e obs
   | .region id ops dr => bif stopB stop id then Run P F (.region id ops dr :: cs) (frQ P F Q fr) e obs else goS T P F stop Q n (.reg ops dr ops.toList [] [] e cs fr obs)
   | c => Run P F (c :: cs) (frQ P F Q fr) e obs
 | n + 1, .reg ops dr l ks gs e cs fr obs => match l with
  | [] => match dr with
   | false => goS T P F stop Q n (.code cs fr e obs)
   | true => Ord ops ks.reverse (goS T P F stop Q n (.code cs fr e obs))
  | o :: l => match o.guard with
   | none => opX T P True gs o e obs fun k d obs' => match o.dst with
    | none => goS T P F stop Q n (.reg ops dr l (k :: ks) gs e cs fr obs')
    | some t => bif Nat.blt t F.N then putGK t d gs fun gs' => goS T P F stop Q n (.reg ops dr l (k :: ks) gs' ((t, d) :: e) cs fr obs') else False
   | some (g, b) => withG ops.toList gs e g b fun gs x => opX T P (x.c = true) gs o x.env obs fun k d _ => match k with
    | .w => False
    | .p => match o.dst with
     | none => goS T P F stop Q n (.reg ops dr l (.p :: ks) gs e cs fr obs)
     | some t => bif Nat.blt t F.N then putHK g b t d gs fun gs' => goS T P F stop Q n (.reg ops dr l (.p :: ks) gs' ((t, .any) :: e) cs fr obs) else False
    | .r => match o.dst with
     | none => goS T P F stop Q n (.reg ops dr l (.r :: ks) gs e cs fr obs)
     | some t => bif Nat.blt t F.N then putHK g b t d gs fun gs' => goS T P F stop Q n (.reg ops dr l (.r :: ks) gs' ((t, .any) :: e) cs fr obs) else False
def Says (P : Program) (F : Fr) (Q : Exit → Env → Obs → Prop) : S → Prop
 | .code cs fr e obs => Run P F cs (frQ P F Q fr) e obs
 | .reg ops dr l ks gs e cs fr obs => ∀ E, Lq e E → (∀ z ∈ gs, GOK ops.toList E z) → ∃ ks', DerK P F.N ops.toList.toArray (fun E' o => ∃ e', Lq e' E' ∧ (dr = true → orderOK ops (ks'.reverse ++ ks).reverse = true) ∧ Run P F cs (frQ P F Q fr) e' o) l ks' E obs
theorem Run.exitTo {P : Program} {F : Fr} {Q : Exit → Env → Obs → Prop} {e : Env} {obs : Obs} {id : Nat} : ∀ (fr : List (Nat × List Code)), (match outOf fr id with
  | some (cs, fr) => Run P F cs (frQ P F Q fr) e obs
  | none => Q (.exit id) e obs) → frQ P F Q fr (.exit id) e obs
 | [], h => h
 | (i, cs) :: fr, h => by
  simp only [outOf] at h
  simp only [frQ, bq]
  cases hb : Nat.beq id i with
  | true => simp only [hb, cond_true] at h ⊢; exact h
  | false => simp only [hb, cond_false] at h ⊢; exact Run.exitTo fr h
theorem frQ_ret {P : Program} {F : Fr} {Q : Exit → Env → Obs → Prop} {e : Env} {obs : Obs} : ∀ (fr : List (Nat × List Code)), Q .ret e obs → frQ P F Q fr .ret e obs
 | [], h => h
 | (i, cs) :: fr, h => by simp only [frQ, bq]; exact frQ_ret fr h
theorem goS_ok {T : TypeId → TyI} {P : Program} (hT : TabOK P T) {F : Fr} {stop : List Nat} {Q : Exit → Env → Obs → Prop} : ∀ (n : Nat) (s : S), goS T P F stop Q n s → Says P F Q s
 | 0, .code cs fr e obs, h => h
 | 0, .reg .., h => h.elim
 | n + 1, .code [] [] e obs, h => ⟨h⟩
 | n + 1, .code [] ((i, cs) :: fr) e obs, h => ⟨(goS_ok hT n (.code cs fr e obs) h : Run P F cs (frQ P F Q fr) e obs)⟩
 | n + 1, .code (c :: cs) fr e obs, h => by
  cases c with
  | seq a b => exact Run.seq (goS_ok hT n (.code (a :: b :: cs) fr e obs) h)
  | skip => exact Run.skip (goS_ok hT n (.code cs fr e obs) h)
  | block id b => exact Run.block (goS_ok hT n (.code [b] ((id, cs) :: fr) e obs) h)
  | exit id =>
   refine Run.exit (Run.exitTo fr ?_)
   simp only [goS] at h
   cases ho : outOf fr id with
   | none => simp only [ho] at h ⊢; exact h
   | some x =>
    obtain ⟨cs', fr'⟩ := x
    simp only [ho] at h ⊢
    exact goS_ok hT n (.code cs' fr' e obs) h
  | ret =>
   simp only [goS] at h
   cases hs : stopB stop 99999 with
   | true => simp only [hs, cond_true] at h; exact h
   | false => simp only [hs, cond_false] at h; exact Run.ret (frQ_ret fr h)
  | cond x a b =>
   simp only [goS] at h
   split at h
   ·rename_i v hv
    exact Run.cond hv (fun k => goS_ok hT n (.code (a :: cs) fr e obs) (h.t k)) (fun k => goS_ok hT n (.code (b :: cs) fr e obs) (h.f k))
   ·exact h
  | region id ops dr =>
   simp only [goS] at h
   cases hs : stopB stop id with
   | true => simp only [hs, cond_true] at h; exact h
   | false =>
    simp only [hs, cond_false] at h
    have hops : ops = ops.toList.toArray := by simp
    obtain ⟨ks, h1⟩ := goS_ok hT n (.reg ops dr ops.toList [] [] e cs fr obs) h e (Lq.refl e) (by simp)
    show Run P F (.region id ops dr :: cs) (frQ P F Q fr) e obs
    have fin : ∀ x E o, thenQ (fun E o => ∃ e, Lq e E ∧ (dr = true → orderOK ops (ks.reverse ++ []).reverse = true) ∧ Run P F cs (frQ P F Q fr) e o) (frQ P F Q fr) x E o → ∃ e, Lq e E ∧ thenQ (WPd P F cs (frQ P F Q fr)) (frQ P F Q fr) x e o := by
     intro x E o hx
     cases x with
     | normal => obtain ⟨e, h2, _, h3⟩ := hx; exact ⟨e, h2, h3.out⟩
     | _ => exact ⟨E, Lq.refl E, hx⟩
    cases dr with
    | false =>
     rw [hops]
     exact ⟨WP.weakQ (WP.region (Q := thenQ (fun E o => ∃ e, Lq e E ∧ (false = true → orderOK ops (List.reverse (List.reverse ks ++ ([] : List Kind))) = true) ∧ Run P F cs (frQ P F Q fr) e o) (frQ P F Q fr)) h1) fin⟩
    | true =>
     have hok : orderOK ops.toList.toArray ks = true := by
      have := h1.pull fun E o ⟨e, _, h3, _⟩ => h3 rfl
      simpa using this
     rw [hops]
     exact ⟨WP.weakQ (WP.regionD (Q := thenQ (fun E o => ∃ e, Lq e E ∧ (true = true → orderOK ops (List.reverse (List.reverse ks ++ ([] : List Kind))) = true) ∧ Run P F cs (frQ P F Q fr) e o) (frQ P F Q fr)) hT.mixed hok h1) fin⟩
  | _ => exact h
 | n + 1, .reg ops dr [] ks gs e cs fr obs, h => fun E hl hg => by
  refine ⟨[], .nil ⟨e, hl, ?_⟩⟩
  simp only [goS] at h
  cases dr with
  | false => exact ⟨(fun h => by cases h), goS_ok hT n (.code cs fr e obs) h⟩
  | true => exact ⟨fun _ => h.ok, goS_ok hT n (.code cs fr e obs) h.k⟩
 | n + 1, .reg ops dr (o :: l) ks gs e cs fr obs, h => fun E hl hg => by
  have ih : ∀ (k : Kind) (gs' : List GE) (e' : Env) (obs' : Obs) (E' : Env), goS T P F stop Q n (.reg ops dr l (k :: ks) gs' e' cs fr obs') → Lq e' E' → (∀ z ∈ gs', GOK ops.toList E' z) →
    ∃ ks', DerK P F.N ops.toList.toArray (fun E' o => ∃ e', Lq e' E' ∧ (dr = true → orderOK ops (ks'.reverse ++ (k :: ks)).reverse = true) ∧ Run P F cs (frQ P F Q fr) e' o) l ks' E' obs' :=
   fun k gs' e' obs' E' h h1 h2 => goS_ok hT n (.reg ops dr l (k :: ks) gs' e' cs fr obs') h E' h1 h2
  simp only [goS] at h
  split at h
  ·rename_i hgd
   obtain ⟨k, d, obs', h1, h2⟩ := (opX_ok hT (fun _ => hl) hg h).out
   have h1 := h1 trivial
   have hon : On ops.toList.toArray E o := by simp [On, hgd]
   have step : ∀ (ks' : List Kind), dstB F.N o.dst = true → DerK P F.N ops.toList.toArray (fun E' o => ∃ e', Lq e' E' ∧ (dr = true → orderOK ops (ks'.reverse ++ (k :: ks)).reverse = true) ∧ Run P F cs (frQ P F Q fr) e' o) l ks' (E.put o.dst d) obs' →
     ∃ ks', DerK P F.N ops.toList.toArray (fun E' o => ∃ e', Lq e' E' ∧ (dr = true → orderOK ops (ks'.reverse ++ ks).reverse = true) ∧ Run P F cs (frQ P F Q fr) e' o) (o :: l) ks' E obs := by
    intro ks' hd hk
    rw [rev_cons] at hk
    refine ⟨k :: ks', ?_⟩
    cases k with
    | p => obtain ⟨hq, rfl⟩ := h1; exact .p hd hon hq hk
    | r => obtain ⟨hq, rfl⟩ := h1; exact .r hd hon hq hk
    | w => exact .w hd hon h1 hk
   split at h2
   ·rename_i hd
    obtain ⟨ks', h3⟩ := ih k gs e obs' E h2 hl hg
    exact step ks' (by rw [hd]; rfl) (by rw [hd]; exact h3)
   ·rename_i t hd
    cases hb : Nat.blt t F.N with
    | false => simp only [hb, cond_false] at h2
    | true =>
     simp only [hb, cond_true] at h2
     obtain ⟨gs', h3, h4⟩ := putGK_ok hg h2
     obtain ⟨ks', h5⟩ := ih k gs' _ obs' _ h4 (hl.put t d) h3
     exact step ks' (by rw [hd]; exact hb) (by rw [hd]; exact h5)
  ·rename_i g b hgd
   obtain ⟨gs1, x, hg1, hx1, rfl, rfl, h⟩ := withG_ok hl hg h
   have hx := hg1 x hx1
   obtain ⟨k, d, obs', h1, h2⟩ := (opX_ok hT hx.env hg1 h).out
   have step : ∀ (k : Kind) (ks' : List Kind), k ≠ .w → (x.c = true → SK P o E obs k d obs') → dstB F.N o.dst = true → DerK P F.N ops.toList.toArray (fun E' o => ∃ e', Lq e' E' ∧ (dr = true → orderOK ops (ks'.reverse ++ (k :: ks)).reverse = true) ∧ Run P F cs (frQ P F Q fr) e' o) l ks' (E.put o.dst (bif x.c then d else .raw undef)) obs →
     ∃ ks', DerK P F.N ops.toList.toArray (fun E' o => ∃ e', Lq e' E' ∧ (dr = true → orderOK ops (ks'.reverse ++ ks).reverse = true) ∧ Run P F cs (frQ P F Q fr) e' o) (o :: l) ks' E obs := by
    intro k ks' hkw h1 hd hk
    rw [rev_cons] at hk
    refine ⟨k :: ks', ?_⟩
    cases hc : x.c with
    | false =>
     rw [hc, cond_false] at hk
     exact .off hd (hx.off hgd hc) hk
    | true =>
     rw [hc, cond_true] at hk
     have h1 := h1 hc
     cases k with
     | p => exact .p hd (hx.on hgd hc) h1.1 hk
     | r => exact .r hd (hx.on hgd hc) h1.1 hk
     | w => exact absurd rfl hkw
   have fin : ∀ (k : Kind), k ≠ .w → (x.c = true → SK P o E obs k d obs') → (match o.dst with
     | none => goS T P F stop Q n (.reg ops dr l (k :: ks) gs1 e cs fr obs)
     | some t => bif Nat.blt t F.N then putHK x.g x.b t d gs1 fun gs' => goS T P F stop Q n (.reg ops dr l (k :: ks) gs' ((t, .any) :: e) cs fr obs) else False) →
     ∃ ks', DerK P F.N ops.toList.toArray (fun E' o => ∃ e', Lq e' E' ∧ (dr = true → orderOK ops (ks'.reverse ++ ks).reverse = true) ∧ Run P F cs (frQ P F Q fr) e' o) (o :: l) ks' E obs := by
    intro k hkw h1 h2
    split at h2
    ·rename_i hd
     obtain ⟨ks', h3⟩ := ih k gs1 e obs E h2 hl hg1
     exact step k ks' hkw h1 (by rw [hd]; rfl) (by rw [hd]; exact h3)
    ·rename_i t hd
     cases hb : Nat.blt t F.N with
     | false => simp only [hb, cond_false] at h2
     | true =>
      simp only [hb, cond_true] at h2
      obtain ⟨gs', h3, h4⟩ := putHK_ok (d := d) hx hg1 h2
      obtain ⟨ks', h5⟩ := ih k gs' _ obs _ h4 (hl.putAny t _) h3
      exact step k ks' hkw h1 (by rw [hd]; exact hb) (by rw [hd]; exact h5)
   cases k with
   | w => exact h2.elim
   | p => exact fin .p (by simp) h1 h2
   | r => exact fin .r (by simp) h1 h2
theorem goX_ok {T : TypeId → TyI} {P : Program} (hT : TabOK P T) {F : Fr} {stop : List Nat} (n : Nat) (cs : List Code) (Q : Exit → Env → Obs → Prop) (env : Env) (obs : Obs) (h : goS T P F stop Q n (.code cs [] env obs)) : Run P F cs Q env obs := goS_ok hT n (.code cs [] env obs) h
theorem br {b : Bool} {A B : Prop} (h : b = true → A) (h' : b = false → B) : Brc b A B := ⟨h, h'⟩
theorem brT {b : Bool} {A B : Prop} (hb : b = true) (h : A) : Brc b A B := ⟨fun _ => h, fun e => (by rw [hb] at e; cases e)⟩
theorem brF {b : Bool} {A B : Prop} (hb : b = false) (h : B) : Brc b A B := ⟨fun e => (by rw [hb] at e; cases e), fun _ => h⟩
end Go.T
namespace Go.T
open Go
variable [Noise]
inductive Bst (P : Program) where
 | leaf
 | node (k : Nat) (i : {i : TyI // TyOK P k i}) (l r : Bst P)
def Bst.get {P : Program} : Bst P → Nat → TyI
 | .leaf, _ => {}
 | .node k i l r, t => bif Nat.beq t k then i.1 else bif Nat.blt t k then l.get t else r.get t
theorem TyOK.none (P : Program) (t : TypeId) : TyOK P t {} := ⟨fun _ h => (nomatch h), fun _ h => (nomatch h), fun _ h => (nomatch h), fun _ h => (nomatch h), fun _ h => (nomatch h), fun _ h => (nomatch h)⟩
theorem Bst.ok {P : Program} : ∀ (b : Bst P) (t : Nat), TyOK P t (b.get t)
 | .leaf, t => TyOK.none P t
 | .node k i l r, t => by
  simp only [Bst.get]
  cases hb : Nat.beq t k with
  | true => obtain rfl := Nat.eq_of_beq_eq_true hb; exact i.2
  | false =>
   simp only [cond_false]
   cases Nat.blt t k with
   | true => exact l.ok t
   | false => exact r.ok t
section
variable {P : Program} {t : TypeId} {d : TypeDesc} {b : Bool} {n : Nat} {z : Value} {ds : List D} {fs : Array Field} {pl : List (Nat × Nat)} {ti : TypeInfo} {m : Nat}
theorem ty2 (ds : List D) (hu : P.underlying t = some d) (ha : ∀ w, (isAgg t).run P w = .ok b w) (hs : ∀ w, (sizeOf t).run P w = .ok n w) (hz : ∀ w, (zeroValue t).run P w = .ok z w) (hd : z.cells.toList.map rawD = ds) : TyOK P t { u := some d, agg := some b, sz := some n, zc := some ds } :=
 ⟨fun _ h => by cases h; exact hu, fun _ h => by cases h; exact ha, fun _ h => by cases h; exact hs, fun _ h => by cases h; exact ⟨z, hz, hd⟩, fun _ h => (nomatch h), fun _ h => (nomatch h)⟩
theorem ty3 (pl : List (Nat × Nat)) (ds : List D) (hu : P.underlying t = some (.struct fs)) (ha : ∀ w, (isAgg t).run P w = .ok b w) (hs : ∀ w, (sizeOf t).run P w = .ok n w) (hz : ∀ w, (zeroValue t).run P w = .ok z w) (hd : z.cells.toList.map rawD = ds)
  (hp : ∀ w, (fs.mapM (m := Sem) fun f => Prod.mk f.offset <$> sizeOf f.type).run P w = .ok pl.toArray w) : TyOK P t { u := some (.struct fs), agg := some b, sz := some n, zc := some ds, pl := some pl } :=
 ⟨fun _ h => by cases h; exact hu, fun _ h => by cases h; exact ha, fun _ h => by cases h; exact hs, fun _ h => by cases h; exact ⟨z, hz, hd⟩, fun _ h fs' h' => by cases h; rw [hu] at h'; cases h'; exact hp, fun _ h => (nomatch h)⟩
end
mutual
theorem okB_pure {f : Nat → Bool} : ∀ (d : D), d.pureB = true → d.okB f = true
 | .any, _ => rfl
 | .raw _, _ => rfl
 | .str _, _ => rfl
 | .agg ds, h => okL_pure ds h
 | .tup ds, h => okL_pure ds h
 | .snap _ _ _, _ => rfl
 | .iptr _, _ => rfl
 | .imap _ _, _ => rfl
 | .box _ _, h => by simp [D.pureB] at h
 | .gs _ _, h => by simp [D.pureB] at h
 | .eptr _ _, h => by simp [D.pureB] at h
 | .mapr _, h => by simp [D.pureB] at h
 | .bsl _ _ _, h => by simp [D.pureB] at h
 | .osl _ _ _, h => by simp [D.pureB] at h
 | .gr _ _, h => by simp [D.pureB] at h
 | .fn _ as bs, h => by
  simp only [D.pureB, Bool.and_eq_true] at h
  simp only [D.okB, okL_pure as h.1, okL_pure bs h.2, Bool.and_self]
theorem okL_pure {f : Nat → Bool} : ∀ (ds : List D), D.pureB.pureL ds = true → D.okB.okL f ds = true
 | [], _ => rfl
 | d :: ds, h => by
  simp only [D.pureB.pureL, Bool.and_eq_true] at h
  simp only [D.okB.okL, okB_pure d h.1, okL_pure ds h.2, Bool.and_self]
end
theorem okB_fn {f : Nat → Bool} {g : Go.Fn} {caps : List D} (h : D.pureB.pureL caps = true) : (D.fn g [] caps).okB f = true := okB_pure _ (by simp [D.pureB, D.pureB.pureL, h])
theorem Fc.sub {P : Program} {f : FuncId} {ds ds' : List D} {r : D} (h : Fc P f ds' r) (hs : Subs ds ds' := by repeat (first | exact .nil | refine .cons (Sub.refl _) ?_ | refine .cons (Sub.unfull _ _ _) ?_ | refine .cons (Sub.nil _ _) ?_)) : Fc P f ds r :=
 ⟨fun w O ρ vals hO hg hv => h.out w O ρ vals hO hg (hs.out w O ρ vals hv)⟩
theorem rx1 {env : Env} {t : Nat} {d r : D} (h : env.get t = some d) (s : Sub d r) : ∃ ds, getAll env [t] = some ds ∧ Sub (mkRes ds) r := ⟨[d], by simp [getAll, h], s⟩
theorem rx2 {env : Env} {t u : Nat} {d e d' e' : D} (h : env.get t = some d) (h' : env.get u = some e) (s : Sub d d') (s' : Sub e e') : ∃ ds, getAll env [t, u] = some ds ∧ Sub (mkRes ds) (.tup [d', e']) := ⟨[d, e], by simp [getAll, h, h'], .tup2 s s'⟩
theorem rx3 {env : Env} {t u v : Nat} {d e f d' e' f' : D} (h : env.get t = some d) (h' : env.get u = some e) (h'' : env.get v = some f) (s : Sub d d') (s' : Sub e e') (s'' : Sub f f') : ∃ ds, getAll env [t, u, v] = some ds ∧ Sub (mkRes ds) (.tup [d', e', f']) := ⟨[d, e, f], by simp [getAll, h, h', h''], .tup3 s s' s''⟩
theorem nx {ι : Type} {p q : ι → Prop} (x : ι) (h : p x) (k : q x) : ∃ x, p x ∧ q x := ⟨x, h, k⟩
end Go.T
